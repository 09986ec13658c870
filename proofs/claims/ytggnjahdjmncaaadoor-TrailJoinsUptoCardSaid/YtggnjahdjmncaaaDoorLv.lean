/- Trees: what reads at a trail, said plainly. No condition. -/
import Derived.Test.YtggnjahdjmncaaaDoorLt
set_option linter.unusedSimpArgs false
set_option linter.unusedVariables false
set_option maxRecDepth 20000
namespace Go.Proofs.YtggnjahdjmncaaaDoor

/- A node's size: how many values and letters it holds. -/
mutual
def szK_T_api_Node : T_api_Node → Nat
  | ⟨Kind, Name, Attrs, Kids, Text⟩ => (1 + ((((Name.URI.length + 1) + ((Name.Local.length + 1) + 0)) + 1) + (((List.map (fun x : T_api_Attr => ((((x.Name.URI.length + 1) + ((x.Name.Local.length + 1) + 0)) + 1) + ((x.Value.length + 1) + 0)) + 1) Attrs).sum + 1) + ((szKL Kids + 1) + ((Text.length + 1) + 0))))) + 1
def szKL : List T_api_Node → Nat
  | [] => 0
  | x :: l => szK_T_api_Node x + szKL l
end
theorem szKL_sum : ∀ l : List T_api_Node, szKL l = (l.map szK_T_api_Node).sum
  | [] => by simp [szKL]
  | x :: l => by simp [szKL, szKL_sum l]
abbrev szN := szK_T_api_Node
theorem sum_len {α : Type} (f : α → Nat) (hf : ∀ x, 1 ≤ f x) : ∀ l : List α, l.length ≤ (l.map f).sum
  | [] => by simp
  | x :: l => by have := sum_len f hf l; have := hf x; simp only [List.length_cons, List.map_cons, List.sum_cons]; omega
theorem szN_pos (x : T_api_Node) : 1 ≤ szN x := by cases x; simp only [szN, szK_T_api_Node]; omega
theorem szN_kids (x : T_api_Node) : szKL x.Kids < szN x := by cases x; simp only [szN, szK_T_api_Node]; omega
theorem szKL_mem {l : List T_api_Node} {y : T_api_Node} (h : y ∈ l) : szN y ≤ szKL l := by
  induction l with
  | nil => cases h
  | cons x l ih =>
    simp only [szKL]
    cases h with
    | head => show szN y ≤ szK_T_api_Node y + _; exact Nat.le_add_right _ _
    | tail _ h => have := ih h; omega
theorem szN_kid {x y : T_api_Node} (h : y ∈ x.Kids) : szN y < szN x := Nat.lt_of_le_of_lt (szKL_mem h) (szN_kids x)
theorem kids_len (x : T_api_Node) : x.Kids.length ≤ szN x := by
  have h1 := szN_kids x
  have h2 := sum_len szN szN_pos x.Kids
  rw [szKL_sum] at h1
  have : (List.map szN x.Kids).sum = (List.map szK_T_api_Node x.Kids).sum := rfl
  omega
theorem attrs_len (x : T_api_Node) : x.Attrs.length ≤ szN x := by
  cases x with
  | mk K N A Ks T =>
    have h := sum_len (fun x : T_api_Attr => ((((x.Name.URI.length + 1) + ((x.Name.Local.length + 1) + 0)) + 1) + ((x.Value.length + 1) + 0)) + 1) (fun x => by omega) A
    simp only [szN, szK_T_api_Node]
    omega
theorem text_len (x : T_api_Node) : x.Text.length + szKL x.Kids ≤ szN x := by cases x; simp only [szN, szK_T_api_Node]; omega
theorem node_eta (x : T_api_Node) : (⟨x.Kind, ⟨x.Name.URI, x.Name.Local⟩, x.Attrs, x.Kids, x.Text⟩ : T_api_Node) = x := by cases x; rfl

/-- Copying a node gives the node. -/
theorem copy_loop (p : T_api_Node) (rec0 : T_api_Node → Option T_api_Node) (hrec : ∀ k ∈ p.Kids, rec0 k = some k) (hk : p.Kids.length ≤ 1048576) :
    iter (F_tree_Copy_l0 p rec0) FUEL (p.Kind, p.Name.URI, p.Name.Local, p.Attrs, ([] : List T_api_Node), p.Text, (0 : Int)) = some (p.Kind, p.Name.URI, p.Name.Local, p.Attrs, p.Kids, p.Text) := by
  obtain ⟨o, h1, h2⟩ := iter_spec (b := F_tree_Copy_l0 p rec0) (fun i x => x = (p.Kind, p.Name.URI, p.Name.Local, p.Attrs, p.Kids.take i, p.Text, (i : Int))) (fun o => o = (p.Kind, p.Name.URI, p.Name.Local, p.Attrs, p.Kids, p.Text)) p.Kids.length
    (x0 := (p.Kind, p.Name.URI, p.Name.Local, p.Attrs, ([] : List T_api_Node), p.Text, (0 : Int))) (by simp)
    (fun i x rec hi hx => .inl ⟨(p.Kind, p.Name.URI, p.Name.Local, p.Attrs, p.Kids.take (i + 1), p.Text, ((i + 1 : Nat) : Int)), by
      subst hx
      have hl : (p.Kids.take i).length ≤ 1048576 := by simp; omega
      unfold F_tree_Copy_l0
      simp only
      rw [decide_eq_true (by omega), cond_true, idx_some hi, Option.bind_some, hrec _ (List.getElem_mem hi), Option.bind_some, app_some (by simp only [List.length_singleton]; omega) (by simp only [List.length_singleton]; omega), Option.bind_some, w64 (by omega) (by omega),
        List.take_add_one, List.getElem?_eq_getElem hi]; rfl, rfl⟩)
    (fun x rec hx => ⟨_, by
      subst hx
      unfold F_tree_Copy_l0
      simp only
      rw [decide_eq_false (by omega), cond_false], by rw [List.take_length]⟩) (n := FUEL) (by unfold FUEL; omega)
  rw [h1, h2]
theorem copy_n : ∀ (n : Nat) (p : T_api_Node), szN p < n → szN p ≤ 1048576 → iter F_tree_Copy_b n p = some p
  | 0, p, h, _ => by omega
  | n + 1, p, h, hB => by
    show F_tree_Copy_b (iter F_tree_Copy_b n) p = some p
    have hr := fun k hk hb => copy_n n k hk hb
    generalize iter F_tree_Copy_b n = R at *
    unfold F_tree_Copy_b
    have ha := attrs_len p
    have hk := kids_len p
    simp only [letJ, List.nil_append]
    rw [app_some (by simp only [List.length_nil]; omega) (by simp only [List.length_nil]; omega), Option.bind_some]
    rw [copy_loop p _ (fun k hk => hr k (by have := szN_kid hk; omega) (by have := szN_kid hk; omega)) (by omega), Option.bind_some]
    simp only [node_eta]
theorem F_copy (p : T_api_Node) (h : szN p ≤ 1048576) : F_tree_Copy p = some p := copy_n FUEL p (by unfold FUEL; omega) h

/- The text below a node. -/
def gT (k : T_api_Node) : List UInt8 := if k.Kind = 3 then k.Text else []
mutual
def textsP : T_api_Node → List UInt8
  | ⟨_, _, _, Kids, _⟩ => textsL Kids
def textsL : List T_api_Node → List UInt8
  | [] => []
  | k :: l => (gT k ++ textsP k) ++ textsL l
end
theorem textsP_eq (x : T_api_Node) : textsP x = textsL x.Kids := by cases x; simp only [textsP]
theorem textsL_append : ∀ l m : List T_api_Node, textsL (l ++ m) = textsL l ++ textsL m
  | [], m => by simp [textsL]
  | k :: l, m => by simp [textsL, textsL_append l m]
theorem textsL_take {l : List T_api_Node} {i : Nat} (h : i < l.length) : textsL (l.take (i + 1)) = textsL (l.take i) ++ (gT l[i] ++ textsP l[i]) := by
  rw [List.take_add_one, List.getElem?_eq_getElem h, textsL_append]; simp [textsL]
theorem gT_len (k : T_api_Node) : (gT k).length ≤ k.Text.length := by unfold gT; split <;> simp
mutual
theorem textsP_len : ∀ x : T_api_Node, (textsP x).length ≤ szKL x.Kids
  | ⟨_, _, _, Kids, _⟩ => by simp only [textsP]; exact textsL_len Kids
theorem textsL_len : ∀ l : List T_api_Node, (textsL l).length ≤ szKL l
  | [] => by simp [textsL]
  | k :: l => by
    have h1 := textsP_len k
    have h2 := textsL_len l
    have h3 := text_len k
    have h4 := gT_len k
    simp only [textsL, szKL, List.length_append]
    have : szN k = szK_T_api_Node k := rfl
    omega
end
theorem textsL_take_len (l : List T_api_Node) (i : Nat) : (textsL (l.take i)).length ≤ (textsL l).length := by
  have := textsL_append (l.take i) (l.drop i)
  rw [List.take_append_drop] at this
  rw [this]; simp
theorem cat_some {a b : List UInt8} (h : a.length + b.length ≤ 9223372036854775807) : cat a b = some (a ++ b) := by unfold cat; rw [if_pos h]

theorem texts_n : ∀ (n : Nat) (p : T_api_Node), szN p < n → szN p ≤ 1048576 → iter F_trail_texts_b n p = some (textsP p)
  | 0, p, h, _ => by omega
  | n + 1, p, h, hB => by
    show F_trail_texts_b (iter F_trail_texts_b n) p = some (textsP p)
    have hrr := fun k hk hb => texts_n n k hk hb
    generalize iter F_trail_texts_b n = RR at *
    unfold F_trail_texts_b
    have hk := kids_len p
    have hk2 := szN_kids p
    have htl := textsL_len p.Kids
    simp only [letJ]
    obtain ⟨o, h1, h2⟩ := iter_spec (b := F_trail_texts_l0 p RR) (fun i x => x = (textsL (p.Kids.take i), (i : Int))) (fun o => o = textsL p.Kids) p.Kids.length (x0 := (([] : List UInt8), (0 : Int))) (by simp [textsL])
      (fun i x rec hi hx => .inl ⟨(textsL (p.Kids.take (i + 1)), ((i + 1 : Nat) : Int)), by
        subst hx
        have hm := List.getElem_mem hi
        have hz := szN_kid hm
        have hr := hrr p.Kids[i] (by omega) (by omega)
        have hl1 := textsL_take_len p.Kids (i + 1)
        rw [textsL_take hi] at hl1 ⊢
        simp only [List.length_append] at hl1
        unfold F_trail_texts_l0
        simp only [letJ]
        rw [decide_eq_true (by omega), cond_true, idx_some hi, Option.bind_some, hr, w64 (by omega) (by omega)]
        by_cases e : p.Kids[i].Kind = 3
        · have hg : gT p.Kids[i] = p.Kids[i].Text := by unfold gT; rw [if_pos e]
          rw [hg] at hl1 ⊢
          rw [show (p.Kids[i].Kind == (3 : Int)) = true by simpa using e, cond_true, cat_some (by omega), Option.bind_some, Option.bind_some, cat_some (by simp only [List.length_append]; omega), Option.bind_some, List.append_assoc]; rfl
        · have hg : gT p.Kids[i] = [] := by unfold gT; rw [if_neg e]
          rw [hg] at hl1 ⊢
          rw [show (p.Kids[i].Kind == (3 : Int)) = false by simpa using e, cond_false, Option.bind_some, cat_some (by omega), Option.bind_some, List.nil_append]; rfl, rfl⟩)
      (fun x rec hx => ⟨_, by
        subst hx
        unfold F_trail_texts_l0
        simp only
        rw [decide_eq_false (by omega), cond_false], by rw [List.take_length]⟩) (n := FUEL) (by unfold FUEL; omega)
    rw [h1, Option.bind_some, h2, textsP_eq]
theorem F_texts (p : T_api_Node) (h : szN p ≤ 1048576) : F_trail_texts p = some (textsP p) := texts_n FUEL p (by unfold FUEL; omega) h

/- All nodes, the whole first. -/
mutual
def flatP : T_api_Node → List T_api_Node
  | ⟨K, N, A, Kids, T⟩ => ⟨K, N, A, Kids, T⟩ :: flatL Kids
def flatL : List T_api_Node → List T_api_Node
  | [] => []
  | k :: l => flatP k ++ flatL l
end
theorem flatP_eq (x : T_api_Node) : flatP x = x :: flatL x.Kids := by cases x; simp only [flatP]
theorem flatL_append : ∀ l m : List T_api_Node, flatL (l ++ m) = flatL l ++ flatL m
  | [], m => by simp [flatL]
  | k :: l, m => by simp [flatL, flatL_append l m]
theorem flatL_take {l : List T_api_Node} {i : Nat} (h : i < l.length) : flatL (l.take (i + 1)) = flatL (l.take i) ++ flatP l[i] := by
  rw [List.take_add_one, List.getElem?_eq_getElem h, flatL_append]; simp [flatL]
mutual
theorem flatP_len : ∀ x : T_api_Node, (flatP x).length ≤ szN x
  | ⟨K, N, A, Kids, T⟩ => by
    have h1 := flatL_len Kids
    have h2 := szN_kids ⟨K, N, A, Kids, T⟩
    simp only [flatP, List.length_cons]
    simp only at h2
    omega
theorem flatL_len : ∀ l : List T_api_Node, (flatL l).length ≤ szKL l
  | [] => by simp [flatL]
  | k :: l => by
    have h1 := flatP_len k
    have h2 := flatL_len l
    simp only [flatL, szKL, List.length_append]
    have : szN k = szK_T_api_Node k := rfl
    omega
end
mutual
theorem flatP_text : ∀ x : T_api_Node, (flatP x).flatMap gT = gT x ++ textsP x
  | ⟨K, N, A, Kids, T⟩ => by simp only [flatP, textsP, List.flatMap_cons, flatL_text Kids]
theorem flatL_text : ∀ l : List T_api_Node, (flatL l).flatMap gT = textsL l
  | [] => by simp [flatL, textsL]
  | k :: l => by simp only [flatL, textsL, List.flatMap_append, flatP_text k, flatL_text l]
end
theorem flatL_take_len (l : List T_api_Node) (i : Nat) : (flatL (l.take i)).length ≤ (flatL l).length := by
  have := flatL_append (l.take i) (l.drop i)
  rw [List.take_append_drop] at this
  rw [this]; simp
theorem flat_n : ∀ (n : Nat) (p : T_api_Node), szN p < n → szN p ≤ 1048576 → iter F_lecternref05_Flat_b n p = some (flatP p)
  | 0, p, h, _ => by omega
  | n + 1, p, h, hB => by
    show F_lecternref05_Flat_b (iter F_lecternref05_Flat_b n) p = some (flatP p)
    have hrr := fun k hk hb => flat_n n k hk hb
    generalize iter F_lecternref05_Flat_b n = RR at *
    unfold F_lecternref05_Flat_b
    have hk := kids_len p
    have hk2 := szN_kids p
    have htl := flatL_len p.Kids
    simp only [letJ]
    obtain ⟨o, h1, h2⟩ := iter_spec (b := F_lecternref05_Flat_l0 p RR) (fun i x => x = (p :: flatL (p.Kids.take i), (i : Int))) (fun o => o = p :: flatL p.Kids) p.Kids.length (x0 := ([p], (0 : Int))) (by simp [flatL])
      (fun i x rec hi hx => .inl ⟨(p :: flatL (p.Kids.take (i + 1)), ((i + 1 : Nat) : Int)), by
        subst hx
        have hm := List.getElem_mem hi
        have hz := szN_kid hm
        have hr := hrr p.Kids[i] (by omega) (by omega)
        have hl1 := flatL_take_len p.Kids (i + 1)
        rw [flatL_take hi] at hl1 ⊢
        simp only [List.length_append] at hl1
        unfold F_lecternref05_Flat_l0
        simp only
        rw [decide_eq_true (by omega), cond_true, idx_some hi, Option.bind_some, hr, Option.bind_some, w64 (by omega) (by omega), app_some (by simp only [List.length_cons]; omega) (by simp only [List.length_cons]; omega), Option.bind_some]; rfl, rfl⟩)
      (fun x rec hx => ⟨_, by
        subst hx
        unfold F_lecternref05_Flat_l0
        simp only
        rw [decide_eq_false (by omega), cond_false], by rw [List.take_length]⟩) (n := FUEL) (by unfold FUEL; omega)
    rw [h1, Option.bind_some, h2, flatP_eq]
theorem F_flat (p : T_api_Node) (h : szN p ≤ 1048576) : F_lecternref05_Flat p = some (flatP p) := flat_n FUEL p (by unfold FUEL; omega) h

/-- The node at steps. -/
def atP : T_api_Node → List Int → Option T_api_Node
  | x, [] => some x
  | x, s :: r => if s < 0 ∨ (x.Kids.length : Int) ≤ s then none else (x.Kids[s.toNat]?).bind fun y => atP y r
theorem atP_snoc : ∀ (l : List Int) (x : T_api_Node) (i : Nat), atP x (l ++ [(i : Int)]) = (atP x l).bind fun y => y.Kids[i]?
  | [], x, i => by
    simp only [List.nil_append, atP, Option.bind_some]
    by_cases h : i < x.Kids.length
    · rw [if_neg (by omega)]; simp [h]
    · rw [if_pos (by omega)]; simp [h]
  | s :: r, x, i => by
    simp only [List.cons_append, atP]
    split
    · rfl
    · cases x.Kids[s.toNat]? with
      | none => rfl
      | some y => simp only [Option.bind_some]; exact atP_snoc r y i
theorem atP_sz : ∀ (l : List Int) (x y : T_api_Node), atP x l = some y → szN y ≤ szN x
  | [], x, y, h => by simp only [atP, Option.some.injEq] at h; subst h; exact Nat.le_refl _
  | s :: r, x, y, h => by
    simp only [atP] at h
    split at h
    · cases h
    · obtain ⟨z, hz, h2⟩ := Option.bind_eq_some_iff.1 h
      have h3 := atP_sz r z y h2
      have h4 := szN_kid (List.mem_of_getElem? hz)
      omega
def emptyNd : T_api_Node := ⟨0, ⟨[], []⟩, [], [], []⟩
theorem F_at (p : T_api_Node) (l : List Int) (h : szN p ≤ 1048576) (hl : l.length ≤ 9223372036854775807) : F_tree_At p l = some (match atP p l with | some y => (y, 0) | none => (emptyNd, 35)) := by
  unfold F_tree_At
  simp only [letJ]
  obtain ⟨o, h1, h2⟩ := iter_spec (b := F_tree_At_l0 l)
    (fun i x => ∃ y : T_api_Node, x = (y.Kind, y.Name.URI, y.Name.Local, y.Attrs, y.Kids, y.Text, (0 : Int), ([] : List UInt8), ([] : List UInt8), ([] : List T_api_Attr), ([] : List T_api_Node), ([] : List UInt8), (i : Int)) ∧ atP p l = atP y (l.drop i))
    (fun o => match o with
      | .inl s => ∃ y : T_api_Node, s = (y.Kind, y.Name.URI, y.Name.Local, y.Attrs, y.Kids, y.Text, (0 : Int), ([] : List UInt8), ([] : List UInt8), ([] : List T_api_Attr), ([] : List T_api_Node), ([] : List UInt8)) ∧ atP p l = some y
      | .inr c => c = (emptyNd, 35) ∧ atP p l = none) l.length
    (x0 := (p.Kind, p.Name.URI, p.Name.Local, p.Attrs, p.Kids, p.Text, (0 : Int), ([] : List UInt8), ([] : List UInt8), ([] : List T_api_Attr), ([] : List T_api_Node), ([] : List UInt8), (0 : Int))) ⟨p, rfl, by simp⟩
    (fun i x rec hi ⟨y, hx, hI⟩ => by
      subst hx
      rw [drop_ne hi] at hI
      simp only [atP] at hI
      unfold F_tree_At_l0
      simp only
      rw [decide_eq_true (by omega), cond_true, idx_some hi, Option.bind_some, w64 (by omega) (by omega)]
      by_cases hc : l[i] < 0 ∨ (y.Kids.length : Int) ≤ l[i]
      · refine .inr ⟨.inr (emptyNd, 35), ?_, show (emptyNd, 35) = (emptyNd, 35) ∧ atP p l = none from ⟨rfl, by rw [hI, if_pos hc]⟩⟩
        have : (decide (l[i] < (0 : Int)) || decide ((y.Kids.length : Int) ≤ l[i])) = true := by simpa using hc
        rw [this]; rfl
      · have hlt : l[i].toNat < y.Kids.length := by omega
        have : (decide (l[i] < (0 : Int)) || decide ((y.Kids.length : Int) ≤ l[i])) = false := by simpa using hc
        have hix : idx y.Kids l[i] = some y.Kids[l[i].toNat] := by
          have := idx_some hlt
          rwa [show ((l[i].toNat : Nat) : Int) = l[i] by omega] at this
        refine .inl ⟨(y.Kids[l[i].toNat].Kind, y.Kids[l[i].toNat].Name.URI, y.Kids[l[i].toNat].Name.Local, y.Kids[l[i].toNat].Attrs, y.Kids[l[i].toNat].Kids, y.Kids[l[i].toNat].Text, (0 : Int), ([] : List UInt8), ([] : List UInt8), ([] : List T_api_Attr), ([] : List T_api_Node), ([] : List UInt8), ((i + 1 : Nat) : Int)), by rw [this, cond_false, hix, Option.bind_some]; rfl, y.Kids[l[i].toNat], rfl, ?_⟩
        rw [hI, if_neg hc, List.getElem?_eq_getElem hlt, Option.bind_some])
    (fun x rec ⟨y, hx, hI⟩ => ⟨.inl (y.Kind, y.Name.URI, y.Name.Local, y.Attrs, y.Kids, y.Text, (0 : Int), ([] : List UInt8), ([] : List UInt8), ([] : List T_api_Attr), ([] : List T_api_Node), ([] : List UInt8)), by
      subst hx
      unfold F_tree_At_l0
      simp only
      rw [decide_eq_false (by omega), cond_false], y, rfl, by rw [hI, List.drop_length, atP]⟩) (n := FUEL) (by unfold FUEL; omega)
  rw [h1, Option.bind_some]
  cases o with
  | inr c => obtain ⟨rfl, hn⟩ := h2; rw [hn]
  | inl s =>
    obtain ⟨y, rfl, hs⟩ := h2
    simp only [hs, node_eta]
    rw [F_copy y (Nat.le_trans (atP_sz _ _ _ hs) h)]; rfl
theorem F_at5 (p : T_api_Node) (l : List Int) (hl : l.length ≤ 9223372036854775807) : F_lecternref05_At p l = some (match atP p l with | some y => (y, true) | none => (emptyNd, false)) := by
  unfold F_lecternref05_At
  simp only [letJ]
  obtain ⟨o, h1, h2⟩ := iter_spec (b := F_lecternref05_At_l0 l)
    (fun i x => ∃ y : T_api_Node, x = (y.Kind, y.Name.URI, y.Name.Local, y.Attrs, y.Kids, y.Text, (0 : Int), ([] : List UInt8), ([] : List UInt8), ([] : List T_api_Attr), ([] : List T_api_Node), ([] : List UInt8), (i : Int)) ∧ atP p l = atP y (l.drop i))
    (fun o => match o with
      | .inl s => ∃ y : T_api_Node, s = (y.Kind, y.Name.URI, y.Name.Local, y.Attrs, y.Kids, y.Text, (0 : Int), ([] : List UInt8), ([] : List UInt8), ([] : List T_api_Attr), ([] : List T_api_Node), ([] : List UInt8)) ∧ atP p l = some y
      | .inr c => c = (emptyNd, false) ∧ atP p l = none) l.length
    (x0 := (p.Kind, p.Name.URI, p.Name.Local, p.Attrs, p.Kids, p.Text, (0 : Int), ([] : List UInt8), ([] : List UInt8), ([] : List T_api_Attr), ([] : List T_api_Node), ([] : List UInt8), (0 : Int))) ⟨p, rfl, by simp⟩
    (fun i x rec hi ⟨y, hx, hI⟩ => by
      subst hx
      rw [drop_ne hi] at hI
      simp only [atP] at hI
      unfold F_lecternref05_At_l0
      simp only
      rw [decide_eq_true (by omega), cond_true, idx_some hi, Option.bind_some, w64 (by omega) (by omega)]
      by_cases hc : l[i] < 0 ∨ (y.Kids.length : Int) ≤ l[i]
      · refine .inr ⟨.inr (emptyNd, false), ?_, show (emptyNd, false) = (emptyNd, false) ∧ atP p l = none from ⟨rfl, by rw [hI, if_pos hc]⟩⟩
        have : (decide (l[i] < (0 : Int)) || decide ((y.Kids.length : Int) ≤ l[i])) = true := by simpa using hc
        rw [this]; rfl
      · have hlt : l[i].toNat < y.Kids.length := by omega
        have : (decide (l[i] < (0 : Int)) || decide ((y.Kids.length : Int) ≤ l[i])) = false := by simpa using hc
        have hix : idx y.Kids l[i] = some y.Kids[l[i].toNat] := by
          have := idx_some hlt
          rwa [show ((l[i].toNat : Nat) : Int) = l[i] by omega] at this
        refine .inl ⟨(y.Kids[l[i].toNat].Kind, y.Kids[l[i].toNat].Name.URI, y.Kids[l[i].toNat].Name.Local, y.Kids[l[i].toNat].Attrs, y.Kids[l[i].toNat].Kids, y.Kids[l[i].toNat].Text, (0 : Int), ([] : List UInt8), ([] : List UInt8), ([] : List T_api_Attr), ([] : List T_api_Node), ([] : List UInt8), ((i + 1 : Nat) : Int)), by rw [this, cond_false, hix, Option.bind_some]; rfl, y.Kids[l[i].toNat], rfl, ?_⟩
        rw [hI, if_neg hc, List.getElem?_eq_getElem hlt, Option.bind_some])
    (fun x rec ⟨y, hx, hI⟩ => ⟨.inl (y.Kind, y.Name.URI, y.Name.Local, y.Attrs, y.Kids, y.Text, (0 : Int), ([] : List UInt8), ([] : List UInt8), ([] : List T_api_Attr), ([] : List T_api_Node), ([] : List UInt8)), by
      subst hx
      unfold F_lecternref05_At_l0
      simp only
      rw [decide_eq_false (by omega), cond_false], y, rfl, by rw [hI, List.drop_length, atP]⟩) (n := FUEL) (by unfold FUEL; omega)
  rw [h1, Option.bind_some]
  cases o with
  | inr c => obtain ⟨rfl, hn⟩ := h2; rw [hn]
  | inl s =>
    obtain ⟨y, rfl, hs⟩ := h2
    simp only [hs, node_eta]

/-- An attribute's value. -/
def attrP (K : Int) (nm : T_api_Name) : List T_api_Attr → Option (List UInt8)
  | [] => none
  | a :: l => if (K == (2 : Int)) && ((a.Name.URI == nm.URI) && ((a.Name.Local == nm.Local) && true)) then some a.Value else attrP K nm l
/-- What reads at a trail: the value, and why not. -/
def valueP (p : T_api_Node) (t : T_trail_Trail) : List UInt8 × Int :=
  match atP p t.Steps with
  | none => ([], 35)
  | some y => if t.Attr then (match attrP y.Kind t.Name y.Attrs with | some v => (v, 0) | none => ([], 7))
    else if ((y.Kind == (3 : Int)) || (y.Kind == (4 : Int))) || (y.Kind == (5 : Int)) then (y.Text, 0) else (textsP y, 0)
theorem attr_loop (b : (Int → Option (Unit ⊕ (List UInt8 × Int))) → Int → Option (Unit ⊕ (List UInt8 × Int))) (K : Int) (nm : T_api_Name) (l : List T_api_Attr) (hl : l.length ≤ 1048576)
    (hb : ∀ rec a26, b rec a26 = cond (decide (a26 < (l.length : Int)))
      ((idx l a26).bind fun x32 =>
      cond ((K == (2 : Int)) && ((x32.Name.URI == nm.URI) && ((x32.Name.Local == nm.Local) && true)))
        (some (.inr (x32.Value, (0 : Int))))
        (rec (IntKind.wrap .i64 (a26 + (1 : Int)))))
      (some (.inl ()))) :
    iter b FUEL (0 : Int) = some (match attrP K nm l with | some v => .inr (v, 0) | none => .inl ()) := by
  obtain ⟨o, h1, h2⟩ := iter_spec (b := b) (fun i x => x = (i : Int) ∧ attrP K nm l = attrP K nm (l.drop i)) (fun o => o = (match attrP K nm l with | some v => .inr (v, 0) | none => .inl ())) l.length (x0 := (0 : Int)) ⟨rfl, by simp⟩
    (fun i x rec hi ⟨hx, hI⟩ => by
      subst hx
      rw [drop_ne hi, attrP] at hI
      rw [hb, decide_eq_true (by omega), cond_true, idx_some hi, Option.bind_some, w64 (by omega) (by omega)]
      cases e : ((K == (2 : Int)) && ((l[i].Name.URI == nm.URI) && ((l[i].Name.Local == nm.Local) && true)))
      · rw [e] at hI
        exact .inl ⟨_, rfl, rfl, by simpa using hI⟩
      · rw [e] at hI
        simp only [if_true] at hI
        exact .inr ⟨_, rfl, by rw [hI]⟩)
    (fun x rec ⟨hx, hI⟩ => ⟨_, by
      subst hx
      rw [hb, decide_eq_false (by omega), cond_false], by rw [hI, List.drop_length]; rfl⟩) (n := FUEL) (by unfold FUEL; omega)
  rw [h1, h2]
theorem F_value (p : T_api_Node) (t : T_trail_Trail) (h : szN p ≤ 1048576) (hl : t.Steps.length ≤ 9223372036854775807) : F_trail_Value p t = some (valueP p t) := by
  unfold F_trail_Value valueP
  rw [F_at p _ h hl, Option.bind_some]
  cases ha : atP p t.Steps with
  | none => rfl
  | some y =>
    have hy := atP_sz _ _ _ ha
    have hya := attrs_len y
    simp only [bne_self_eq_false, cond_false, letJ]
    cases hA : t.Attr
    · simp only [cond_false, Bool.false_eq_true, if_false]
      cases e : (((y.Kind == (3 : Int)) || (y.Kind == (4 : Int))) || (y.Kind == (5 : Int)))
      · rw [F_texts y (by omega)]; rfl
      · rfl
    · simp only [cond_true, if_true]
      rw [attr_loop (F_trail_Value_l0 t (y, 0)) y.Kind t.Name y.Attrs (by omega) (fun rec a => rfl), Option.bind_some]
      cases attrP y.Kind t.Name y.Attrs <;> rfl
theorem F_value8 (p : T_api_Node) (t : T_trail_Trail) (h : szN p ≤ 1048576) (hl : t.Steps.length ≤ 9223372036854775807) : F_lecternref08_Value p t = some (valueP p t) := by
  unfold F_lecternref08_Value valueP
  rw [F_at5 p _ hl, Option.bind_some]
  cases ha : atP p t.Steps with
  | none => rfl
  | some y =>
    have hy := atP_sz _ _ _ ha
    have hya := attrs_len y
    simp only [Bool.not_true, cond_false, letJ]
    cases hA : t.Attr
    · simp only [cond_false, Bool.false_eq_true, if_false]
      cases e : (((y.Kind == (3 : Int)) || (y.Kind == (4 : Int))) || (y.Kind == (5 : Int)))
      · simp only [cond_false, Bool.false_eq_true, if_false]
        rw [F_flat y (by omega), Option.bind_some, flatP_eq, slc_tail (by simp), Option.bind_some, List.tail_cons]
        have hfl := flatL_len y.Kids
        have hkl := szN_kids y
        have htl := textsL_len y.Kids
        have hpre : ∀ i, ((flatL y.Kids).take i).flatMap gT ++ ((flatL y.Kids).drop i).flatMap gT = textsL y.Kids := fun i => by
          rw [← List.flatMap_append, List.take_append_drop, flatL_text]
        generalize hF : flatL y.Kids = F at *
        obtain ⟨o, h1, h2⟩ := iter_spec (b := F_lecternref08_Value_l1 F) (fun i x => x = ((F.take i).flatMap gT, (i : Int))) (fun o => o = textsL y.Kids) F.length (x0 := (([] : List UInt8), (0 : Int))) (by simp)
          (fun i x rec hi hx => .inl ⟨((F.take (i + 1)).flatMap gT, ((i + 1 : Nat) : Int)), by
            subst hx
            have hl1 := congrArg List.length (hpre (i + 1))
            have ht : (F.take (i + 1)).flatMap gT = (F.take i).flatMap gT ++ gT F[i] := by rw [List.take_add_one, List.getElem?_eq_getElem hi, List.flatMap_append]; simp
            rw [ht] at hl1 ⊢
            simp only [List.length_append] at hl1
            unfold F_lecternref08_Value_l1
            simp only [letJ]
            rw [decide_eq_true (by omega), cond_true, idx_some hi, Option.bind_some, w64 (by omega) (by omega)]
            by_cases e : F[i].Kind = 3
            · have hg : gT F[i] = F[i].Text := by unfold gT; rw [if_pos e]
              rw [hg] at hl1 ⊢
              rw [show (F[i].Kind == (3 : Int)) = true by simpa using e, cond_true, cat_some (by omega), Option.bind_some]; rfl
            · have hg : gT F[i] = [] := by unfold gT; rw [if_neg e]
              rw [hg]
              rw [show (F[i].Kind == (3 : Int)) = false by simpa using e, cond_false, List.append_nil]; rfl, rfl⟩)
          (fun x rec hx => ⟨_, by
            subst hx
            unfold F_lecternref08_Value_l1
            simp only
            rw [decide_eq_false (by omega), cond_false], by rw [List.take_length]; have := hpre F.length; simpa using this⟩) (n := FUEL) (by unfold FUEL; omega)
        rw [h1, Option.bind_some, h2, textsP_eq]
      · rfl
    · simp only [cond_true, if_true]
      rw [attr_loop (F_lecternref08_Value_l0 t (y, true)) y.Kind t.Name y.Attrs (by omega) (fun rec a => rfl), Option.bind_some]
      cases attrP y.Kind t.Name y.Attrs <;> rfl
theorem trailValues (p : T_api_Node) (t : T_trail_Trail) (h : szN p ≤ 1048576) (hl : t.Steps.length ≤ 9223372036854775807) : F_lecternlaw08_TrailValues p t = some true := by
  unfold F_lecternlaw08_TrailValues F_lecternlaw08_doc
  simp only [awake_t, Option.bind_some, Bool.not_true, cond_false, F_value p t h hl, F_value8 p t h hl, beq_self_eq_true, Bool.and_true]
end Go.Proofs.YtggnjahdjmncaaaDoor
