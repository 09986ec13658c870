/- Slices whose spare room is known: out of a slice, cut, their room measured. No condition. -/
import Derived.Test.YtfokkdofcekdbaaGreatDoorEng31
set_option linter.unusedSimpArgs false
set_option linter.unusedVariables false
namespace Go.Proofs.YtfokkdofcekdbaaGreatDoor
theorem idx_ne {α : Type} {e : List α} {a : α} (h : idx e (0 : Int) = some a) : e ≠ [] := by
 rintro rfl; cases h
theorem capx_gt {α : Type} {e sp : List α} {m : Nat} {a : α} (hm : e.length + sp.length ≤ m) (h : idx sp (0 : Int) = some a) : decide ((e.length : Int) < (m : Int)) = true := by
 have := List.length_pos_iff.2 (idx_ne h)
 exact decide_eq_true (by omega)
section
variable {P : Program} {md : Nat → Nat} {w : Bool} {ops : Array Oper} {os : List Oper} {k : St → Prop} {n : Nat} {l : List (Nat × D)} {h : Heap} {d : Nat} {t ty : TypeId} {pos : String} {af : Array Edge} {x y z : Operand}
variable {β : Type} {G : β → Prop}
theorem Cn_slot {X : St → Prop} {old new : D} (d : Nat) (hv : look l d = old) (hV : ∀ (K : Kn) (v : Value), VR K v old → VR K v new) (hk : X ⟨mkSl n ((d, new) :: l), h⟩) : Cn true ⟨mkSl n l, h⟩ X := fun K a u S => by
 refine ⟨K, ⟨mkSl n ((d, new) :: l), h⟩, Ext.refl K, ⟨S.h, S.d, by rw [S.n]; simp [mkSl_length], fun i => ?_⟩, hk⟩
 have hvi := S.v i
 simp only [mkSl_getD] at hvi ⊢
 split
 ·rename_i hi
  rw [if_pos hi] at hvi
  show VR _ _ (match Nat.beq d i with | true => new | false => look l i)
  cases hb : Nat.beq d i with
  | true =>
   rw [Nat.beq_eq] at hb; subst hb
   rw [hv] at hvi
   exact hV K _ hvi
  | false => exact hvi
 ·exact .any _
theorem S_toX {α : Type} {q : Nat} {c : α → List D} {e : List α} (d : Nat) (hv : look l d = .sl q (e.map c) 0) (hne : e ≠ []) (hk : seqQ P md true ops os ⟨mkSl n ((d, .slx q (e.map c) (([] : List α).map c)) :: l), h⟩ k) : seqQ P md true ops os ⟨mkSl n l, h⟩ k :=
 S_cn (Cn_slot d hv (fun K v hV => by
  generalize hes : e.map c = es at hV
  cases hV with
  | slz _ a => exact absurd (List.map_eq_nil_iff.1 hes) hne
  | sln _ _ _ => exact absurd (List.map_eq_nil_iff.1 hes) hne
  | sl b o _ _ _ cap vs h1 h2 h3 h4 h5 =>
   subst hes
   exact .slx b o q (e.map c) [] cap vs (by rw [List.append_nil]; exact h1) (by rw [List.append_nil]; exact h2) (by rw [List.append_nil]; exact h3) (by rw [List.append_nil]; exact h4)) hk)
theorem S_oneX {q : Nat} {es sp : List (List D)} (d : Nat) (hv : look l d = .slx q es sp) (hk : seqQ P md true ops os ⟨mkSl n ((d, .sl q es 0) :: l), h⟩ k) : seqQ P md true ops os ⟨mkSl n l, h⟩ k :=
 S_one d (v := .sl q es 0) (by rw [hv]; exact .slx _ _ _) hk
theorem S_slX {α : Type} {q : Nat} {c : α → List D} {e sp : List α} {et : TypeId} {K : IntKind} {j : Int} {f : List α → Option β} (hx : opL n l x = .slx q (e.map c) (sp.map c)) (hs : slD P t = some et) (hq : szD P et = some q) (hy : opL n l y = .int K j)
  (hF : OptP ((slc (e ++ sp) (0 : Int) j).bind f) G) (hk : ∀ b, slc (e ++ sp) (0 : Int) j = some b → OptP (f b) G → seqQ P md w ops os ⟨mkSl n ((d, .slx q (b.map c) (((e ++ sp).drop j.toNat).map c)) :: l), h⟩ k) :
  seqQ P md w ops (⟨some d, .slice t x none (some y) none, ty, pos, af, none⟩ :: os) ⟨mkSl n l, h⟩ k := S_of (by
 obtain ⟨b, hb, hF⟩ := F_bind hF
 obtain ⟨hc, he⟩ := slc_spec hb
 have e1 : ((e.map c ++ sp.map c).take j.toNat) = b.map c := by rw [he, ← List.map_append, List.map_take]; simp
 have e2 : ((e.map c ++ sp.map c).drop j.toNat) = ((e ++ sp).drop j.toNat).map c := by rw [← List.map_append, List.map_drop]
 have e3 : sliceD P t (.slx q (e.map c) (sp.map c)) none (some (.int K j)) = some (.slx q (b.map c) (((e ++ sp).drop j.toNat).map c)) := by
  simp only [sliceD, hs, hq, boundD, if_true]
  rw [if_pos ⟨rfl, hc.2.1, by have := hc.2.2; simp only [List.length_append, List.length_map] at this ⊢; exact this⟩, e1, e2]
 simp only [effD, hx, Option.map_none, Option.map_some, hy, e3, OptP_some]
 exact hk b hb hF)
theorem S_capX {α : Type} {q : Nat} {c : α → List D} {e sp : List α} {et : TypeId} (hx : opL n l x = .slx q (e.map c) (sp.map c)) (hs : slD P t = some et)
  (hk : ∀ m : Nat, e.length + sp.length ≤ m → seqQ P md w ops os ⟨mkSl n ((d, .int .i64 (m : Int)) :: l), h⟩ k) : seqQ P md w ops (⟨some d, .call ⟨.builtin .cap, #[x], #[t]⟩, ty, pos, af, none⟩ :: os) ⟨mkSl n l, h⟩ k := S_of (by
 simp only [effD, builtD, List.map_cons, List.map_nil, hx, hs, Option.isSome_some, true_and]
 intro m hm
 exact hk m (by simpa using hm))
end
end Go.Proofs.YtfokkdofcekdbaaGreatDoor
