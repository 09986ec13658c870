/- The ring and the map of a cache, as plain facts. No condition. -/
import Derived.Test.YtcjndiagbdkikaaEng14
set_option linter.unusedSimpArgs false
set_option linter.unusedVariables false
namespace Go.Proofs.Ytcjndiagbdkikaa

def fupd (f : Nat → Nat) (i x : Nat) : Nat → Nat := fun j => if j = i then x else f j

theorem fupd_same (f : Nat → Nat) (i x : Nat) : fupd f i x i = x := by simp [fupd]
theorem fupd_ne (f : Nat → Nat) {i j : Nat} (x : Nat) (h : j ≠ i) : fupd f i x j = f j := by simp [fupd, h]

/-- A way from a through l to b, both ways linked. -/
def Chain (pv nx : Nat → Nat) : Nat → List Nat → Nat → Prop
  | a, [], b => nx a = b ∧ pv b = a
  | a, x :: l, b => nx a = x ∧ pv x = a ∧ Chain pv nx x l b

theorem Chain.congr {pv nx pv' nx' : Nat → Nat} : ∀ {l : List Nat} {a b : Nat}, Chain pv nx a l b → (∀ y ∈ a :: l, nx' y = nx y) → (∀ y ∈ l ++ [b], pv' y = pv y) → Chain pv' nx' a l b
  | [], a, b, h, h1, h2 => ⟨by rw [h1 a (by simp)]; exact h.1, by rw [h2 b (by simp)]; exact h.2⟩
  | x :: l, a, b, h, h1, h2 => ⟨by rw [h1 a (by simp)]; exact h.1, by rw [h2 x (by simp)]; exact h.2.1, Chain.congr h.2.2 (fun y hy => h1 y (List.mem_cons_of_mem _ hy)) (fun y hy => h2 y (List.mem_cons_of_mem _ hy))⟩

theorem Chain.pv_mem {pv nx : Nat → Nat} : ∀ {l : List Nat} {a b : Nat}, Chain pv nx a l b → pv b ∈ a :: l
  | [], a, b, h => by simp [h.2]
  | x :: l, a, b, h => List.mem_cons_of_mem _ h.2.2.pv_mem

theorem Chain.nx_mem {pv nx : Nat → Nat} : ∀ {l : List Nat} {a b : Nat}, Chain pv nx a l b → nx a ∈ l ++ [b]
  | [], a, b, h => by simp [h.1]
  | x :: l, a, b, h => by simp [h.1]

theorem Chain.split {pv nx : Nat → Nat} : ∀ {l1 l2 : List Nat} {a x b : Nat}, Chain pv nx a (l1 ++ x :: l2) b → Chain pv nx a l1 x ∧ Chain pv nx x l2 b
  | [], l2, a, x, b, h => ⟨⟨h.1, h.2.1⟩, h.2.2⟩
  | z :: l1, l2, a, x, b, h => ⟨⟨h.1, h.2.1, (Chain.split h.2.2).1⟩, (Chain.split h.2.2).2⟩

theorem Chain.out {pv nx : Nat → Nat} {x : Nat} {l2 : List Nat} : ∀ {l1 : List Nat} {a b : Nat}, Chain pv nx a (l1 ++ x :: l2) b → (a :: (l1 ++ x :: l2)).Nodup → b ∉ l1 ++ x :: l2 →
    Chain (fupd pv (nx x) (pv x)) (fupd nx (pv x) (nx x)) a (l1 ++ l2) b
  | [], a, b, h, hn, hb => by
    obtain ⟨h1, h2, h3⟩ := h
    simp only [List.nil_append] at hn hb ⊢
    have hax : a ∉ x :: l2 := (List.nodup_cons.1 hn).1
    have hx2 := (List.nodup_cons.1 (List.nodup_cons.1 hn).2).1
    have hd2 := (List.nodup_cons.1 (List.nodup_cons.1 hn).2).2
    cases l2 with
    | nil => obtain ⟨h4, h5⟩ := h3; rw [h2, h4]; exact ⟨fupd_same .., fupd_same ..⟩
    | cons y l =>
      obtain ⟨h4, h5, h6⟩ := h3
      rw [h2, h4]
      refine ⟨fupd_same .., fupd_same .., h6.congr (fun z hz => fupd_ne _ _ fun e => ?_) (fun z hz => fupd_ne _ _ fun e => ?_)⟩
      · subst e; exact hax (List.mem_cons_of_mem _ hz)
      · subst e
        rcases List.mem_append.1 hz with hz | hz
        · exact (List.nodup_cons.1 hd2).1 hz
        · simp at hz; subst hz; simp at hb
  | z :: l1, a, b, h, hn, hb => by
    obtain ⟨h1, h2, h3⟩ := h
    have hs := h3.split
    have hp := hs.1.pv_mem
    have hq := hs.2.nx_mem
    have hn2 := (List.nodup_cons.1 hn).2
    have ha := (List.nodup_cons.1 hn).1
    refine ⟨?_, ?_, Chain.out h3 hn2 (fun e => hb (List.mem_cons_of_mem _ e))⟩
    · rw [fupd_ne]
      · exact h1
      · intro e; rw [← e] at hp; apply ha
        rcases List.mem_cons.1 hp with h | h
        · simp [h]
        · simp [h]
    · rw [fupd_ne]
      · exact h2
      · intro e; rw [← e] at hq
        rcases List.mem_append.1 hq with h | h
        · exact (List.nodup_cons.1 hn2).1 (by simp [h])
        · simp at h; subst h; simp at hb

theorem Chain.add {pv nx : Nat → Nat} {x b : Nat} : ∀ {l : List Nat} {a : Nat}, Chain pv nx a l b → (a :: l).Nodup → b ∉ l → x ∉ a :: l → x ≠ b →
    Chain (fupd (fupd pv x (pv b)) b x) (fupd (fupd nx x b) (pv b) x) a (l ++ [x]) b
  | [], a, h, hn, hb, hx, hxb => by
    obtain ⟨h1, h2⟩ := h
    have hxa : x ≠ a := fun e => hx (by simp [e])
    rw [h2]
    refine ⟨fupd_same .., ?_, ?_, fupd_same ..⟩
    · rw [fupd_ne _ _ hxb, fupd_same]
    · rw [fupd_ne _ _ hxa, fupd_same]
  | z :: l, a, h, hn, hb, hx, hxb => by
    obtain ⟨h1, h2, h3⟩ := h
    have hp := h3.pv_mem
    have hn2 := (List.nodup_cons.1 hn).2
    have ha := (List.nodup_cons.1 hn).1
    refine ⟨?_, ?_, Chain.add h3 hn2 (fun e => hb (List.mem_cons_of_mem _ e)) (fun e => hx (List.mem_cons_of_mem _ e)) hxb⟩
    · rw [fupd_ne, fupd_ne]
      · exact h1
      · intro e; exact hx (by simp [e])
      · intro e; rw [← e] at hp; exact ha hp
    · rw [fupd_ne, fupd_ne]
      · exact h2
      · intro e; exact hx (by simp [e])
      · intro e; exact hb (by simp [e])
end Go.Proofs.Ytcjndiagbdkikaa
