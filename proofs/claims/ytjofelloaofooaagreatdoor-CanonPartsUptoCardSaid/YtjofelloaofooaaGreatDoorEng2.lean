/- What the operations that only read do on the abstract machine, and that the model does the same. No condition. -/
import Derived.Laws.Entries
import Derived.Laws.Strings
import Derived.Laws.Slices
import Derived.Laws.Pointers
import Derived.Test.YtjofelloaofooaaGreatDoorEng1
set_option linter.unusedSimpArgs false
set_option linter.unusedVariables false
namespace Go.Proofs.YtjofelloaofooaaGreatDoor
def szD (P : Program) (t : TypeId) : Option Nat := (P.info? t).map (·.size)
def agD (P : Program) (t : TypeId) : Option Bool := (P.underlying t).map fun | .struct _ | .array _ _ => true | _ => false
def slD (P : Program) (t : TypeId) : Option TypeId := (P.underlying t).bind fun | .slice e => some e | _ => none
def arD (P : Program) (t : TypeId) : Option (Nat × TypeId) := (P.underlying t).bind fun | .array n e => some (n, e) | _ => none
def stD (P : Program) (t : TypeId) : Bool := (P.underlying t).any fun | .string => true | _ => false
def kiD (P : Program) (t : TypeId) : Option IntKind := (P.underlying t).bind fun | .int k => some k | _ => none
def ptD (P : Program) (t : TypeId) : Option TypeId := (P.underlying t).bind fun | .pointer e => some e | _ => none
def fdD (P : Program) (t : TypeId) (f : Nat) : Option (Nat × TypeId) := (P.underlying t).bind fun | .struct fs => (fs[f]?).map fun x => (x.offset, x.type) | _ => none
def R0 : Value -> D
 | .bool b => .bool b
 | .int k n => .int k n
 | .float k n => .float k n
 | .complex k x y => .cplx k x y
 | .string s => .str s.data.toList
 | .pointer none => .nilp
 | .slice none 0 0 => .snil
 | .map none => .mnil
 | .nilFunc => .fnil
 | .nilIface => .inil
 | _ => .any
def ofV : Value -> D
 | .agg x => if x.all (·.oneCell') then .agg (x.toList.map R0) else .any
 | v => R0 v
theorem Ig (K : Kn) (v : Value) : VR K v (R0 v) := by
 cases v with
 | string s => exact VR.str s.data.toList
 | pointer a => cases a with
  | none => exact .nilp
  | some a => exact .any _
 | slice a n c =>
  cases a with
  | none => cases n with
   | zero => cases c with
    | zero => exact .snil
    | succ c => exact .any _
   | succ n => exact .any _
  | some a => exact .any _
 | map r => cases r with
  | none => exact .mnil
  | some r => exact .any _
 | bool b => exact .bool b
 | int k n => exact .int k n
 | float k n => exact .float k n
 | complex k x y => exact .cplx k x y
 | nilFunc => exact .fnil
 | nilIface => exact .inil
 | _ => exact .any _
theorem FX {α : Type} (f : α -> D) (l : List α) (i : Nat) (x : α) (h : l[i]? = some x) : (l.map f).getD i .any = f x := by simp [List.getD, h]
theorem S8 (K : Kn) (v : Value) : VR K v (ofV v) := by
 cases v with
 | agg x =>
  simp only [ofV];split
  ·rename_i h;refine .agg x _ (by simp) (fun i hi => ?_) (fun i => ?_)
   ·have := (Array.all_eq_true.1 h) i hi;simpa [Array.getD, hi] using this
   ·by_cases hi : i < x.size
    ·have : x.toList[i]? = some x[i] := by simp [hi]
     rw [FX _ _ _ _ this];simp only [Array.getD, hi, dif_pos];exact Ig K _
    ·have : (x.toList.map R0).getD i D.any = D.any := by simp [List.getD, hi]
     rw [this]; exact .any _
  ·exact .any _
 | _ => exact Ig K _
def zrD (P : Program) (t : TypeId) : Option D := ((P.info? t).bind (·.zero)).map ofV
def opD (sl : List D) : Operand -> D
 | .tmp t => sl.getD t .any
 | .const v => ofV v
 | .global _ => .any
 | .func f => .fn (.func f) [] []
def AR (K : Kn) (x : Array Value) (cs : List D) : Prop := x.size = cs.length /\ (∀ i, i < x.size -> (x.getD i undef).oneCell' = true) /\ ∀ i, VR K (x.getD i undef) (cs.getD i .any)
theorem AR.agg {K : Kn} {x : Array Value} {cs : List D} (h : AR K x cs) : VR K (.agg x) (.agg cs) := .agg x cs h.1 h.2.1 h.2.2
theorem AR.of_agg {K : Kn} {v : Value} {cs : List D} (h : VR K v (.agg cs)) : ∃ x, v = .agg x /\ AR K x cs := by
 cases h with
 | agg x _ hx h1 hv => exact ⟨x, rfl, hx, h1, hv⟩
def D.lay : D -> Bool
 | .agg _ => true
 | d => d.one
theorem AR.cells {K : Kn} {v : Value} {d : D} (h : VR K v d) (hd : d.lay = true) : AR K v.cells d.cells := by
 cases d with
 | agg cs =>
  obtain ⟨x, rfl, hx⟩ := AR.of_agg h;exact hx
 | any => simp [D.lay, D.one] at hd
 | tup cs => simp [D.lay, D.one] at hd
 | _ =>
  have h1 := h.one (by simpa [D.lay] using hd);have hc : v.cells = #[v] := by cases h <;> rfl
  rw [hc];refine ⟨rfl, fun i hi => ?_, fun i => ?_⟩
  ·have : i = 0 := by simpa using hi
   subst this; simpa using h1
  ·cases i with
   | zero => simpa [D.cells] using h
   | succ i => simp [D.cells]; exact .any _
theorem HV (x : Array Value) (off n i : Nat) (hi : i < n) : (x.extract off (off + n)).getD i undef = x.getD (off + i) undef := by
 simp only [Array.getD_eq_getD_getElem?, Array.getElem?_extract];by_cases h : off + i < x.size
 ·rw [if_pos (by omega)]
 ·rw [if_neg (by omega), Array.getElem?_eq_none (by omega)]
theorem AR.sub {K : Kn} {x : Array Value} {cs : List D} (h : AR K x cs) (off n : Nat) (hn : off + n <= cs.length) : AR K (x.extract off (off + n)) ((cs.drop off).take n) := by
 have hs : x.size = cs.length := h.1;refine ⟨by simp; omega, fun i hi => ?_, fun i => ?_⟩
 ·simp at hi;have hx : off + i < x.size := by omega
  rw [HV x off n i (by omega)]; exact h.2.1 _ hx
 ·by_cases hi : i < n
  ·have e := HV x off n i hi;have e2 : ((cs.drop off).take n).getD i D.any = cs.getD (off + i) .any := by simp [List.getD, List.getElem?_take, hi]
   rw [e, e2]; exact h.2.2 _
  ·have e2 : ((cs.drop off).take n).getD i D.any = D.any := by simp [List.getD, List.getElem?_take, hi]
   rw [e2]; exact .any _
def Says (P : Program) (K : Kn) (w : World) (s : Sem Value) (d : D) : Prop := ∃ v, s.run P w = .ok v w /\ VR K v d
section
variable {P : Program} {K : Kn} {h : Heap} {w : World}
theorem AJ {t : TypeId} {n : Nat} (hs : szD P t = some n) : (sizeOf t).run P w = .ok n w := by
 unfold szD at hs
 cases hi : P.info? t with
 | none => simp [hi] at hs
 | some i => simp [hi] at hs; simp [sizeOf, typeInfo, hi, hs]
theorem Fq {t : TypeId} {b : Bool} (ha : agD P t = some b) : (isAgg t).run P w = .ok b w := by
 unfold agD at ha
 cases hu : P.underlying t with
 | none => simp [hu] at ha
 | some d =>
  simp [hu] at ha;subst ha;cases d <;> simp [isAgg, run_underlying hu]
theorem Bl {t e : TypeId} (hs : slD P t = some e) : P.underlying t = some (.slice e) := by
 unfold slD at hs
 cases hu : P.underlying t with
 | none => simp [hu] at hs
 | some d => rw [hu] at hs; cases d <;> simp at hs; rw [hs]
theorem Mp {t e : TypeId} {n : Nat} (hs : arD P t = some (n, e)) : P.underlying t = some (.array n e) := by
 unfold arD at hs
 cases hu : P.underlying t with
 | none => simp [hu] at hs
 | some d => rw [hu] at hs; cases d <;> simp at hs; obtain ⟨rfl, rfl⟩ := hs; rfl
theorem Dm {t : TypeId} (hs : stD P t = true) : P.underlying t = some .string := by
 unfold stD at hs
 cases hu : P.underlying t with
 | none => simp [hu] at hs
 | some d => rw [hu] at hs; cases d <;> simp at hs; rfl
theorem EM {t : TypeId} {k : IntKind} (hs : kiD P t = some k) : P.underlying t = some (.int k) := by
 unfold kiD at hs
 cases hu : P.underlying t with
 | none => simp [hu] at hs
 | some d => rw [hu] at hs; cases d <;> simp at hs; rw [hs]
theorem GY {t e : TypeId} (hs : ptD P t = some e) : P.underlying t = some (.pointer e) := by
 unfold ptD at hs
 cases hu : P.underlying t with
 | none => simp [hu] at hs
 | some d => rw [hu] at hs; cases d <;> simp at hs; rw [hs]
theorem O9 {t : TypeId} {f : Nat} {o : Nat} {ft : TypeId} (hs : fdD P t f = some (o, ft)) : ∃ fs x, P.underlying t = some (.struct fs) /\ fs[f]? = some x /\ x.offset = o /\ x.type = ft := by
 unfold fdD at hs
 cases hu : P.underlying t with
 | none => simp [hu] at hs
 | some d =>
  rw [hu] at hs; cases d <;> simp at hs
  rename_i fs;obtain ⟨x, hx, h1, h2⟩ := hs;exact ⟨fs, x, rfl, hx, h1, h2⟩
theorem CP (b o n : Nat) : (⟨b, o, none⟩ : Addr).add n = ⟨b, o + n, none⟩ := Addr.add_lit b o n
def Cells (K : Kn) (w : World) (b o : Nat) (cs : List D) : Prop := ∀ i, i < cs.length -> ∃ v, w.cell? ⟨b, o + i, none⟩ = some v /\ v.oneCell' = true /\ VR K v (cs.getD i .any)
theorem Cells.sub {b o : Nat} {cs : List D} (hc : Cells K w b o cs) (off n : Nat) (hn : off + n <= cs.length) : Cells K w b (o + off) ((cs.drop off).take n) := by
 intro i hi;simp at hi;obtain ⟨v, h1, h2, h3⟩ := hc (off + i) (by omega);refine ⟨v, by rw [Nat.add_assoc]; exact h1, h2, ?_⟩;have e2 : ((cs.drop off).take n).getD i D.any = cs.getD (off + i) .any := by
  have : i < n := by omega
  simp [List.getD, List.getElem?_take, this]
 rw [e2]; exact h3
theorem Cells.drop {b o : Nat} {cs : List D} (hc : Cells K w b o cs) (off : Nat) : Cells K w b (o + off) (cs.drop off) := by
 intro i hi;simp at hi;obtain ⟨v, h1, h2, h3⟩ := hc (off + i) (by omega);refine ⟨v, by rw [Nat.add_assoc]; exact h1, h2, ?_⟩;have e2 : (cs.drop off).getD i D.any = cs.getD (off + i) .any := by simp [List.getD]
 rw [e2]; exact h3
theorem Cells.load {b o : Nat} {cs : List D} (hc : Cells K w b o cs) : ∃ x, (loadCells ⟨b, o, none⟩ cs.length).run P w = .ok x w /\ AR K x cs := by
 have hex : ∀ i : Nat, ∃ v, i < cs.length -> w.cell? ⟨b, o + i, none⟩ = some v /\ v.oneCell' = true /\ VR K v (cs.getD i .any) := fun i => by
  by_cases hi : i < cs.length
  ·obtain ⟨v, hv⟩ := hc i hi;exact ⟨v, fun _ => hv⟩
  ·exact ⟨undef, fun h => absurd h hi⟩
 let f : Nat -> Value := fun i => Classical.choose (hex i)
 have hf : ∀ i, i < cs.length -> w.cell? ⟨b, o + i, none⟩ = some (f i) /\ (f i).oneCell' = true /\ VR K (f i) (cs.getD i .any) := fun i hi => Classical.choose_spec (hex i) hi;refine ⟨_, run_loadCells (P := P) w ⟨b, o, none⟩ cs.length f (fun j hj => by rw [CP]; exact (hf j hj).1), by simp, fun i hi => ?_, fun i => ?_⟩
 ·simp at hi;simp [Array.getD, hi]; exact (hf i hi).2.1
 ·by_cases hi : i < cs.length
  ·have h3 := (hf i hi).2.2;simpa [Array.getD, hi] using h3
  ·have : cs.getD i D.any = D.any := by simp [List.getD, hi]
   rw [this]; exact .any _
def DR (P : Program) (t : TypeId) (cs : List D) : Option D :=
 match agD P t, szD P t with
 | some true, some n => if n <= cs.length then some (.agg (cs.take n)) else none
 | some false, some _ => match cs with | d :: _ => some d | [] => none
 | _, _ => none
theorem Ji {t : TypeId} {b o : Nat} {cs : List D} {d : D} (hc : Cells K w b o cs) (hp : DR P t cs = some d) : ∃ v, (loadVar t ⟨b, o, none⟩).run P w = .ok v w /\ VR K v d := by
 unfold DR at hp;split at hp
 ·rename_i n ha hs;split at hp
  ·rename_i hn;injection hp with hp; subst hp
   have hc' : Cells K w b o (cs.take n) := by have := hc.sub 0 n (by omega); simpa using this
   obtain ⟨x, hx, hr⟩ := hc'.load (P := P);have hl : (cs.take n).length = n := by simp; omega
   rw [hl] at hx;exact ⟨.agg x, by simp [loadVar, Fq ha, AJ hs, hx], hr.agg⟩
  ·simp at hp
 ·rename_i ha _;split at hp
  ·rename_i d' rest;injection hp with hp; subst hp
   obtain ⟨v, h1, h2, h3⟩ := hc 0 (by simp);exact ⟨v, by simp at h1; simp [loadVar, Fq ha, h1], by simpa using h3⟩
  ·simp at hp
 ·simp at hp
theorem GA {t : TypeId} {x : Array Value} {cs : List D} {o : Nat} {d : D} (hr : AR K x cs) (hp : DR P t (cs.drop o) = some d) : ∃ v, (part t x o).run P w = .ok v w /\ VR K v d := by
 unfold DR at hp;split at hp
 ·rename_i n ha hs;split at hp
  ·rename_i hn;injection hp with hp; subst hp
   simp at hn;by_cases ho : o + n <= cs.length
   ·exact ⟨_, by simp [part, Fq ha, AJ hs], (hr.sub o n ho).agg⟩
   ·have h0 : n = 0 := by omega
    subst h0;refine ⟨.agg (x.extract o o), by simp [part, Fq ha, AJ hs], ?_⟩;have he : x.extract o o = #[] := by apply Array.ext'; simp
    rw [he];refine AR.agg ⟨by simp, fun i hi => by simp at hi, fun i => by simp [List.getD]; exact .any _⟩
  ·simp at hp
 ·rename_i ha _;split at hp
  ·rename_i d' rest hdr;injection hp with hp; subst hp
   have ho : o < cs.length := by
    rcases Nat.lt_or_ge o cs.length with h | h
    ·exact h
    ·rw [List.drop_of_length_le h] at hdr; simp at hdr
   have hx : o < x.size := by rw [hr.1]; exact ho
   have e : cs.getD o .any = d' := by
    have : (cs.drop o)[0]? = some d' := by rw [hdr]; rfl
    simp at this;simp [List.getD, this]
   refine ⟨x[o], by simp [part, Fq ha, hx], ?_⟩;have := hr.2.2 o;rw [e] at this;simpa [Array.getD, hx] using this
  ·simp at hp
 ·simp at hp
theorem HR.icells (H : HR K h w) {b o : Nat} {cs : List D} {vs : Nat -> Value} (hm : ∀ i, i < cs.length -> K.mu b (o + i) = some (vs i)) (hv : ∀ i, VR K (vs i) (cs.getD i .any)) : Cells K w b o cs :=
 fun i hi => ⟨vs i, (H.mu _ _ _ (hm i hi)).1, (H.mu _ _ _ (hm i hi)).2, hv i⟩
theorem HR.mcells (H : HR K h w) {id : Nat} {cs : List D} (hx : h id = some (.cells cs)) (off : Nat) : Cells K w (K.io id) off (cs.drop off) := by
 obtain ⟨hl, hc, _, _⟩ := H.ok id _ hx;intro i hi;simp at hi;obtain ⟨v, h1, h3, h4⟩ := hc (off + i) (by omega);refine ⟨v, h1, h3, ?_⟩;have e2 : (cs.drop off).getD i D.any = cs.getD (off + i) .any := by simp [List.getD]
 rw [e2]; exact h4
theorem HR.bcells (H : HR K h w) {id : Nat} {cs : List D} (hx : h id = some (.bytes cs)) (off : Nat) : Cells K w (K.io id) off (cs.drop off) := by
 obtain ⟨hc, _, _⟩ := H.ok id _ hx;intro i hi;simp at hi;obtain ⟨v, h1, h3, h4⟩ := hc (off + i) (by omega);refine ⟨v, h1, h3, ?_⟩;have e2 : (cs.drop off).getD i D.any = cs.getD (off + i) .any := by simp [List.getD]
 rw [e2]; exact h4
def Hu (h : Heap) : D -> Option (List D)
 | .iptr cs => some cs
 | .ptr id off => match h id with
  | some (.cells cs) => some (cs.drop off)
  | some (.bytes cs) => some (cs.drop off)
  | some (.box p) => (p.cell off).map fun d => [d]
  | _ => none
 | _ => none
theorem IP (H : HR K h w) {v : Value} {d : D} {cs : List D} (hv : VR K v d) (hc : Hu h d = some cs) : ∃ b o, v = .pointer (some ⟨b, o, none⟩) /\ Cells K w b o cs := by
 cases hv <;> simp [Hu] at hc
 ·rename_i id off hid;split at hc
  ·rename_i cs' hx;injection hc with hc; subst hc
   exact ⟨_, _, rfl, H.mcells hx _⟩
  ·rename_i cs' hx;injection hc with hc; subst hc
   exact ⟨_, _, rfl, H.bcells hx _⟩
  ·rename_i p hx;obtain ⟨d, hd, rfl⟩ := Option.map_eq_some_iff.1 hc;obtain ⟨v, h1, h2, h3⟩ := p.rd K w _ (H.ok _ _ hx) _ _ hd;refine ⟨_, _, rfl, fun i hi => ?_⟩;obtain rfl : i = 0 := by simpa using hi
   exact ⟨v, h1, h2, h3⟩
  ·simp at hc
 ·rename_i b o cs' vs hm hv;subst hc;exact ⟨b, o, rfl, H.icells hm hv⟩
def I6 (P : Program) (h : Heap) (t : TypeId) (d : D) : Option D := (Hu h d).bind (DR P t)
theorem L4 (H : HR K h w) {t : TypeId} {v : Value} {d e : D} (hv : VR K v d) (hl : I6 P h t d = some e) : Says P K w (Instr.loadAt t v) e := by
 unfold I6 at hl
 cases hc : Hu h d with
 | none => simp [hc] at hl
 | some cs =>
  simp [hc] at hl;obtain ⟨b, o, rfl, hcs⟩ := IP H hv hc;obtain ⟨u, hu, hr⟩ := Ji hcs hl;exact ⟨u, by simp [Instr.loadAt, Instr.sureAddr, hu], hr⟩
def Nm (n : Nat) : D -> Option D
 | .iptr cs => if n <= cs.length then some (.iptr (cs.drop n)) else none
 | .ptr id off => some (.ptr id (off + n))
 | _ => none
theorem K5 {n : Nat} {v : Value} {d e : D} (hv : VR K v d) (hm : Nm n d = some e) : ∃ b o, v = .pointer (some ⟨b, o, none⟩) /\ VR K (.pointer (some ⟨b, o + n, none⟩)) e := by
 cases hv <;> simp [Nm] at hm
 ·subst hm; exact ⟨_, _, rfl, .ptr _ _ (by assumption)⟩
 ·rename_i b o cs vs hmu hv;obtain ⟨hn, rfl⟩ := hm;refine ⟨b, o, rfl, .iptr b (o + n) _ (fun i => vs (n + i)) (fun i hi => ?_) (fun i => ?_)⟩
  ·simp at hi; rw [Nat.add_assoc]; exact hmu (n + i) (by omega)
  ·have := hv (n + i);have e2 : (cs.drop n).getD i D.any = cs.getD (n + i) .any := by simp [List.getD]
   rw [e2]; exact this
def D2 (P : Program) (t : TypeId) (f : Nat) (d : D) : Option D :=
 match fdD P t f with
 | some (o, ft) => match szD P ft with
  | some 0 => none
  | some _ => Nm o d
  | none => none
 | none => none
theorem H6 {t : TypeId} {f : Nat} {v : Value} {d e : D} (hv : VR K v d) (hl : D2 P t f d = some e) : Says P K w (Instr.fieldAt t v f) e := by
 unfold D2 at hl;split at hl
 ·rename_i o ft hf;split at hl
  ·simp at hl
  ·rename_i n hn hs;obtain ⟨fs, x, hu, hx, ho, ht⟩ := O9 hf;obtain ⟨b, a, rfl, hr⟩ := K5 hv hl;subst ho ht;have hn' : n ≠ 0 := fun e => hn e;exact ⟨_, by simp [Instr.fieldAt, run_underlying hu, hx, Instr.sureAddr, fieldPlace, AJ hs, hn', CP], hr⟩
  ·simp at hl
 ·simp at hl
def Nf (P : Program) (t : TypeId) (f : Nat) : D -> Option D
 | .agg cs => match fdD P t f with
  | some (o, ft) => DR P ft (cs.drop o)
  | none => none
 | _ => none
theorem K3 {t : TypeId} {f : Nat} {v : Value} {d e : D} (hv : VR K v d) (hl : Nf P t f d = some e) : Says P K w (Instr.field t v f) e := by
 unfold Nf at hl;split at hl
 ·rename_i cs;obtain ⟨x, rfl, hx⟩ := AR.of_agg hv;split at hl
  ·rename_i o ft hf;obtain ⟨fs, fd, hu, hfx, ho, ht⟩ := O9 hf;subst ho ht;obtain ⟨u, hr, hvr⟩ := GA (w := w) hx hl;exact ⟨u, by simp [Instr.field, run_underlying hu, hfx, asAgg, hr], hvr⟩
  ·simp at hl
 ·simp at hl
def Dd (P : Program) (t : TypeId) (x i : D) : Option D :=
 match i with
 | .int _ i =>
  match x with
  | .sl k es r => match slD P t with
   | some e => if szD P e = some k /\ 0 <= i /\ i < es.length then some (.iptr (es.getD i.toNat [])) else none
   | none => none
  | .slx k es sp => match slD P t with
   | some e => if szD P e = some k /\ 0 <= i /\ i < es.length then some (.iptr (es.getD i.toNat [])) else none
   | none => none
  | .msl k id off n => match slD P t with
   | some e => if szD P e = some k /\ 0 <= i /\ i < n then some (.ptr id (off + i.toNat * k)) else none
   | none => none
  | d => match arD P t with
   | some (n, e) => match szD P e with
    | some k => if 0 <= i /\ i < n then Nm (i.toNat * k) d else none
    | none => none
   | none => none
 | _ => none
theorem H3 {t : TypeId} {v u : Value} {x i e : D} (hv : VR K v x) (hu : VR K u i) (hl : Dd P t x i = some e) : Says P K w (Instr.indexAt t v u) e := by
 unfold Dd at hl;split at hl
 ·rename_i ki i;cases hu;split at hl
  ·rename_i k es r;split at hl
   ·rename_i et het;split at hl
    ·rename_i hc;obtain ⟨hs, h0, h1⟩ := hc;injection hl with hl; subst hl
     have hu := Bl het
     cases hv with
     | sl b o _ _ _ cap vs hk hm hvv hcap hr =>
      have hi : i.toNat < es.length := by omega
      refine ⟨.pointer (some ⟨b, o + i.toNat * k, none⟩), ?_, ?_⟩
      ·simp [Instr.indexAt, asIntOf, run_underlying hu, h0, h1, AJ hs, CP]
      ·exact .iptr b _ _ (vs i.toNat) (fun j hj => hm i.toNat j hi (by rw [hk _ hi] at hj; exact hj)) (fun j => hvv _ _)
     | slz => simp at h1; omega
     | sln => simp at h1; omega
    ·simp at hl
   ·simp at hl
  ·rename_i k es sp;split at hl
   ·rename_i et het;split at hl
    ·rename_i hc;obtain ⟨hs, h0, h1⟩ := hc;injection hl with hl; subst hl
     have hu := Bl het
     cases hv with
     | slx b o _ _ _ cap vs hk hm hvv hcap =>
      have hi : i.toNat < es.length := by omega
      have hi' : i.toNat < (es ++ sp).length := by rw [bm]; omega
      have g : (es ++ sp).getD i.toNat [] = es.getD i.toNat [] := by
       rw [List.getD_eq_getElem?_getD, List.getElem?_append_left hi, <- List.getD_eq_getElem?_getD]
      refine ⟨.pointer (some ⟨b, o + i.toNat * k, none⟩), ?_, ?_⟩
      ·simp [Instr.indexAt, asIntOf, run_underlying hu, h0, h1, AJ hs, CP]
      ·exact .iptr b _ _ (vs i.toNat) (fun j hj => hm i.toNat j hi' (by rw [<- g, hk _ hi'] at hj; exact hj)) (fun j => by rw [<- g]; exact hvv _ _)
     | slxz => simp at h1; omega
    ·simp at hl
   ·simp at hl
  ·rename_i k id off n;split at hl
   ·rename_i et het;split at hl
    ·rename_i hc;obtain ⟨hs, h0, h1⟩ := hc;injection hl with hl; subst hl
     have hu := Bl het
     cases hv with
     | msl _ _ _ _ cap hid hn hcap =>
      refine ⟨.pointer (some ⟨K.io id, off + i.toNat * k, none⟩), ?_, .ptr _ _ hid⟩;simp [Instr.indexAt, asIntOf, run_underlying hu, h0, h1, AJ hs, CP]
    ·simp at hl
   ·simp at hl
  ·split at hl
   ·rename_i n et het;split at hl
    ·rename_i k hs;split at hl
     ·rename_i hc;obtain ⟨h0, h1⟩ := hc;have hu := Mp het;obtain ⟨b, o, rfl, hr⟩ := K5 hv hl;refine ⟨_, ?_, hr⟩;simp [Instr.indexAt, asIntOf, run_underlying hu, h0, h1, AJ hs, CP, Instr.sureAddr]
     ·simp at hl
    ·simp at hl
   ·simp at hl
 ·simp at hl
def FT (b : By8) : D := .int .u8 b.toNat
def Lq (P : Program) (t : TypeId) (x i : D) : Option D :=
 match i with
 | .int _ i =>
  match x with
  | .str s => if stD P t = true /\ 0 <= i /\ i < s.length then some (FT (s.getD i.toNat 0)) else none
  | .agg cs => match arD P t with
   | some (n, e) => match szD P e with
    | some k => if 0 <= i /\ i < n then DR P e (cs.drop (i.toNat * k)) else none
    | none => none
   | none => none
  | _ => none
 | _ => none
theorem KL {t : TypeId} {v u : Value} {x i e : D} (hv : VR K v x) (hu : VR K u i) (hl : Lq P t x i = some e) : Says P K w (Instr.index t v u) e := by
 unfold Lq at hl;split at hl
 ·rename_i ki i;cases hu;split at hl
  ·rename_i s;split at hl
   ·rename_i hc;obtain ⟨hs, h0, h1⟩ := hc;injection hl with hl; subst hl
    have hu := Dm hs;cases hv;have hi : i.toNat < s.length := by omega
    have hsz : (⟨s.toArray⟩ : ByteArray).size = s.length := by simp [ByteArray.size]
    have hget : (⟨s.toArray⟩ : ByteArray)[i.toNat]? = some (s.getD i.toNat 0) := by
     rw [ByteArray.getElem?_lt' _ _ (by rw [hsz]; exact hi)];simp [ByteArray.getElem_eq_getElem_data, List.getD, hi]
    refine ⟨.int .u8 (s.getD i.toNat 0).toNat, ?_, .int _ _⟩;simp [Instr.index, asIntOf, run_underlying hu, h0, hget]
   ·simp at hl
  ·rename_i cs;split at hl
   ·rename_i n et het;split at hl
    ·rename_i k hs;split at hl
     ·rename_i hc;obtain ⟨h0, h1⟩ := hc;have hu := Mp het;obtain ⟨y, rfl, hy⟩ := AR.of_agg hv;obtain ⟨z, hr, hvr⟩ := GA (w := w) hy hl;exact ⟨z, by simp [Instr.index, asIntOf, run_underlying hu, h0, h1, AJ hs, hr], hvr⟩
     ·simp at hl
    ·simp at hl
   ·simp at hl
  ·simp at hl
 ·simp at hl
def NB (P : Program) (h : Heap) (t : TypeId) : D -> Option D
 | .str s => if stD P t = true then some (.int .i64 s.length) else none
 | .snil => if (slD P t).isSome then some (.int .i64 0) else none
 | .sl k es r => if (slD P t).isSome then some (.int .i64 es.length) else none
 | .slx k es sp => if (slD P t).isSome then some (.int .i64 es.length) else none
 | .msl k id off n => if (slD P t).isSome then some (.int .i64 n) else none
 | .mnil => match P.underlying t with | some (.map _ _) => some (.int .i64 0) | _ => none
 | .mp id => match P.underlying t, h id with | some (.map _ _), some (.map es _) => some (.int .i64 es.length) | _, _ => none
 | _ => none
theorem NU (H : HR K h w) {t ty : TypeId} {v : Value} {d e : D} (hv : VR K v d) (hl : NB P h t d = some e) : Says P K w (Builtin.len_ #[t] ty #[v]) e := by
 unfold NB at hl;split at hl
 ·rename_i s;split at hl
  ·rename_i hs;injection hl with hl; subst hl
   cases hv;refine ⟨.int .i64 s.length, ?_, .int _ _⟩;have hsz : (⟨s.toArray⟩ : ByteArray).size = s.length := by simp [ByteArray.size]
   simp [Builtin.len_, run_underlying (Dm hs), goInt, hsz]
  ·simp at hl
 ·split at hl
  ·rename_i hs;injection hl with hl; subst hl
   obtain ⟨et, het⟩ := Option.isSome_iff_exists.1 hs;cases hv;exact ⟨.int .i64 0, by simp [Builtin.len_, run_underlying (Bl het), goInt], .int _ _⟩
  ·simp at hl
 ·rename_i k es r;split at hl
  ·rename_i hs;injection hl with hl; subst hl
   obtain ⟨et, het⟩ := Option.isSome_iff_exists.1 hs;cases hv
   ·exact ⟨.int .i64 0, by simp [Builtin.len_, run_underlying (Bl het), goInt], .int _ _⟩
   ·exact ⟨.int .i64 0, by simp [Builtin.len_, run_underlying (Bl het), goInt], .int _ _⟩
   ·exact ⟨.int .i64 es.length, by simp [Builtin.len_, run_underlying (Bl het), goInt], .int _ _⟩
  ·simp at hl
 ·rename_i k es sp;split at hl
  ·rename_i hs;injection hl with hl; subst hl
   obtain ⟨et, het⟩ := Option.isSome_iff_exists.1 hs;cases hv
   ·exact ⟨.int .i64 es.length, by simp [Builtin.len_, run_underlying (Bl het), goInt], .int _ _⟩
   ·exact ⟨.int .i64 0, by simp [Builtin.len_, run_underlying (Bl het), goInt], .int _ _⟩
  ·simp at hl
 ·rename_i k id off n;split at hl
  ·rename_i hs;injection hl with hl; subst hl
   obtain ⟨et, het⟩ := Option.isSome_iff_exists.1 hs;cases hv;exact ⟨.int .i64 n, by simp [Builtin.len_, run_underlying (Bl het), goInt], .int _ _⟩
  ·simp at hl
 ·split at hl
  ·rename_i hu;injection hl with hl; subst hl
   cases hv;exact ⟨.int .i64 0, by simp [Builtin.len_, run_underlying hu, goInt], .int _ _⟩
  ·simp at hl
 ·rename_i id;split at hl
  ·rename_i es clock hu hx;injection hl with hl; subst hl
   cases hv;obtain ⟨xs, hxs, he⟩ := H.ok id _ hx;refine ⟨.int .i64 es.length, ?_, .int _ _⟩;have hlen : xs.size = es.length := by simpa using he.length
   have hg : (getObj (K.io id)).run P w = .ok (.map xs clock) w := by simp [getObj, Sem.run, hxs]
   simp [Builtin.len_, run_underlying hu, hg, goInt, hlen]
  ·simp at hl
 ·simp at hl
def BI (x : Option D) (dflt : Nat) : Option Int :=
 match x with
 | none => some dflt
 | some (.int _ i) => some i
 | _ => none
def Gj (P : Program) (t : TypeId) (x : D) (lo hi : Option D) : Option D :=
 match x with
 | .str s => if stD P t = true then match BI lo 0, BI hi s.length with
   | some l, some h => if 0 <= l /\ l <= h /\ h <= s.length then some (.str ((s.drop l.toNat).take (h.toNat - l.toNat))) else none
   | _, _ => none
  else none
 | .snil => match slD P t, BI lo 0, BI hi 0 with
   | some e, some l, some h => if l = 0 /\ h = 0 /\ (szD P e).isSome then some .snil else none
   | _, _, _ => none
 | .sl k es r => match slD P t with
   | some e => if szD P e = some k then match BI lo 0, BI hi es.length with
     | some l, some h => if 0 <= l /\ l <= h /\ h <= es.length then some (.sl k ((es.drop l.toNat).take (h.toNat - l.toNat)) 0) else none
     | _, _ => none
    else none
   | none => none
 | .slx k es sp => match slD P t with
   | some e => if szD P e = some k then match BI lo 0, BI hi es.length with
     | some l, some h => if l = 0 /\ l <= h /\ h <= (es ++ sp).length then some (.slx k ((es ++ sp).take h.toNat) ((es ++ sp).drop h.toNat)) else none
     | _, _ => none
    else none
   | none => none
 | .msl k id off n => match slD P t with
   | some e => if szD P e = some k then match BI lo 0, BI hi n with
     | some l, some h => if 0 <= l /\ l <= h /\ h <= n /\ (l = 0 \/ l < n) then some (.msl k id (off + l.toNat * k) (h.toNat - l.toNat)) else if 0 <= l /\ l = h /\ h = n then some (.sl k [] 0) else none
     | _, _ => none
    else none
   | none => none
 | _ => none
theorem Fo {x : Value} {i : Int} {k : IntKind} {y : Nat} {c : BoundsCode} (hx : x = .int k i) (h0 : 0 <= i) (h1 : i <= y) : (Instr.sliceBound x y c).run P w = .ok i.toNat w := by
 subst hx; simp [Instr.sliceBound, asIntOf, h0, h1]
theorem D7 {isS : Bool} {len cap : Nat} {lo hi : Option Value} {dl dh : Option D} {l h : Int} (hl : ∀ x, lo = some x -> ∃ d, dl = some d /\ VR K x d) (hln : lo = none -> dl = none) (hh : ∀ x, hi = some x -> ∃ d, dh = some d /\ VR K x d) (hhn : hi = none -> dh = none)
  (bl : BI dl 0 = some l) (bh : BI dh len = some h) (h0 : 0 <= l) (h1 : l <= h) (h2 : h <= cap) : (Instr.sliceBounds isS len cap lo hi none).run P w = .ok (l.toNat, h.toNat, cap) w := by
 have hH : ∀ (c1 : BoundsCode), (match hi with | some v => Instr.sliceBound v cap c1 | none => pure len : Sem Nat).run P w = .ok h.toNat w := by
  intro c1
  cases hi with
  | none =>
   rw [hhn rfl] at bh;simp [BI] at bh;simp; omega
  | some x =>
   obtain ⟨d, hd, hv⟩ := hh x rfl;rw [hd] at bh;cases d <;> simp [BI] at bh
   cases hv;subst bh;exact Fo rfl (by omega) h2
 have hL : (match lo with | some v => Instr.sliceBound v h.toNat .sliceB | none => pure 0 : Sem Nat).run P w = .ok l.toNat w := by
  cases lo with
  | none =>
   rw [hln rfl] at bl;simp [BI] at bl;simp; omega
  | some x =>
   obtain ⟨d, hd, hv⟩ := hl x rfl;rw [hd] at bl;cases d <;> simp [BI] at bl
   cases hv;subst bl;exact Fo rfl h0 (by omega)
 unfold Instr.sliceBounds;cases hi <;> cases lo <;> simp at hH hL ⊢ <;> simp [hH, hL]
theorem KP {t : TypeId} {v : Value} {x e : D} {lo hi : Option Value} {dl dh : Option D} (hv : VR K v x) (hl : ∀ x, lo = some x -> ∃ d, dl = some d /\ VR K x d) (hln : lo = none -> dl = none) (hh : ∀ x, hi = some x -> ∃ d, dh = some d /\ VR K x d) (hhn : hi = none -> dh = none)
  (hs : Gj P t x dl dh = some e) : Says P K w (Instr.sliceAt t v lo hi none) e := by
 unfold Gj at hs;split at hs
 ·rename_i s;split at hs
  ·rename_i hst;split at hs
   ·rename_i l h bl bh;split at hs
    ·rename_i hc;obtain ⟨h0, h1, h2⟩ := hc;injection hs with hs; subst hs
     cases hv;have hsz : (⟨s.toArray⟩ : ByteArray).size = s.length := by simp [ByteArray.size]
     have hu := Dm hst;have hb := D7 (P := P) (w := w) (isS := false) (len := s.length) (cap := s.length) hl hln hh hhn bl bh h0 h1 h2;refine ⟨.string ((⟨s.toArray⟩ : ByteArray).extract l.toNat h.toNat), ?_, ?_⟩
     ·simp [Instr.sliceAt, Instr.slice, run_underlying hu, hsz, hb]
     ·have : (⟨s.toArray⟩ : ByteArray).extract l.toNat h.toNat = ⟨((s.drop l.toNat).take (h.toNat - l.toNat)).toArray⟩ := by
       apply ByteArray.ext;simp [ByteArray.data_extract]
      rw [this]; exact .str _
    ·simp at hs
   ·simp at hs
  ·simp at hs
 ·split at hs
  ·rename_i et l h het bl bh;split at hs
   ·rename_i hc;obtain ⟨rfl, rfl, hsome⟩ := hc;injection hs with hs; subst hs
    cases hv;have hu := Bl het;obtain ⟨k, hz⟩ := Option.isSome_iff_exists.1 hsome;have hb := D7 (P := P) (w := w) (isS := true) (len := 0) (cap := 0) hl hln hh hhn bl bh (by omega) (by omega) (by omega);exact ⟨.slice none 0 0, by simp [Instr.sliceAt, Instr.slice, run_underlying hu, hb, AJ hz], .snil⟩
   ·simp at hs
  ·simp at hs
 ·rename_i k es r;split at hs
  ·rename_i et het;split at hs
   ·rename_i hz;split at hs
    ·rename_i l h bl bh;split at hs
     ·rename_i hc;obtain ⟨h0, h1, h2⟩ := hc;injection hs with hs; subst hs
      have hu := Bl het
      cases hv with
      | sl b o _ _ _ cap vs hk hm hvv hcap hr =>
       have hb := D7 (P := P) (w := w) (isS := true) (len := es.length) (cap := cap) hl hln hh hhn bl bh h0 h1 (by omega);have hlen : ((es.drop l.toNat).take (h.toNat - l.toNat)).length = h.toNat - l.toNat := by simp; omega
       have hget : ∀ i, i < h.toNat - l.toNat -> ((es.drop l.toNat).take (h.toNat - l.toNat)).getD i [] = es.getD (l.toNat + i) [] := fun i hi => by simp [List.getD, List.getElem?_take, hi]
       have hge : ∀ i, ¬ i < h.toNat - l.toNat -> ((es.drop l.toNat).take (h.toNat - l.toNat)).getD i [] = [] := fun i hi => by simp [List.getD, List.getElem?_take, hi]
       refine ⟨.slice (some (if cap = l.toNat then ⟨b, o, none⟩ else ⟨b, o + l.toNat * k, none⟩)) (h.toNat - l.toNat) (cap - l.toNat), ?_, ?_⟩
       ·simp [Instr.sliceAt, Instr.slice, run_underlying hu, hb, AJ hz];by_cases hcl : cap = l.toNat <;> simp [hcl, CP]
       ·by_cases hcl : cap = l.toNat
        ·simp only [hcl, if_true];have hz0 : h.toNat - l.toNat = 0 := by omega
         have := VR.sl (K := K) b o k ((es.drop l.toNat).take (h.toNat - l.toNat)) 0 (l.toNat - l.toNat) (fun _ _ => undef) (fun i hi => by rw [hlen] at hi; omega) (fun i j hi => by rw [hlen] at hi; omega) (fun i j => by
          rw [hge i (by omega)]; simp; exact .any _) (by rw [hlen]; omega) (by simp)
         rw [hlen] at this; exact this
        ·simp only [hcl, if_false]
         have := VR.sl (K := K) b (o + l.toNat * k) k ((es.drop l.toNat).take (h.toNat - l.toNat)) 0 (cap - l.toNat) (fun i j => if i < h.toNat - l.toNat then vs (l.toNat + i) j else undef) (fun i hi => by
           rw [hlen] at hi; rw [hget i hi]; exact hk _ (by omega))
          (fun i j hi hj => by
           rw [hlen] at hi;simp only [hi, if_true]
           rw [<- hm (l.toNat + i) j (by omega) hj, Nat.add_mul]; congr 1; omega)
          (fun i j => by
           by_cases hi : i < h.toNat - l.toNat
           ·simp only [hi, if_true]; rw [hget i hi]; exact hvv _ _
           ·simp only [hi, if_false]; rw [hge i hi]; simp; exact .any _) (by rw [hlen]; omega) (by simp)
         rw [hlen] at this; exact this
      | slz _ a =>
       have e1 : l.toNat = 0 := by simp at h2; omega
       have e2 : h.toNat = 0 := by simp at h2; omega
       have hb := D7 (P := P) (w := w) (isS := true) (len := 0) (cap := 0) hl hln hh hhn bl bh h0 h1 (by simpa using h2);rw [e1, e2] at hb;refine ⟨.slice a 0 0, by cases a <;> simp [Instr.sliceAt, Instr.slice, run_underlying hu, hb, AJ hz], ?_⟩;simp; exact .slz k a
      | sln =>
       have e1 : l.toNat = 0 := by simp at h2; omega
       have e2 : h.toNat = 0 := by simp at h2; omega
       have hb := D7 (P := P) (w := w) (isS := true) (len := 0) (cap := 0) hl hln hh hhn bl bh h0 h1 (by simpa using h2);rw [e1, e2] at hb;refine ⟨.slice none 0 0, by simp [Instr.sliceAt, Instr.slice, run_underlying hu, hb, AJ hz], ?_⟩;simp; exact .slz k none
     ·simp at hs
    ·simp at hs
   ·simp at hs
  ·simp at hs
 ·rename_i k es sp;split at hs
  ·rename_i et het;split at hs
   ·rename_i hz;split at hs
    ·rename_i l h bl bh;split at hs
     ·rename_i hc;obtain ⟨rfl, h1, h2⟩ := hc;injection hs with hs; subst hs
      have hu := Bl het
      cases hv with
      | slx b o _ _ _ cap vs hk hm hvv hcap =>
       have hb := D7 (P := P) (w := w) (isS := true) (len := es.length) (cap := cap) hl hln hh hhn bl bh (by omega) h1 (by omega);have hlen : ((es ++ sp).take h.toNat).length = h.toNat := by rw [List.length_take]; omega
       refine ⟨.slice (some ⟨b, o, none⟩) h.toNat cap, ?_, ?_⟩
       ·simp [Instr.sliceAt, Instr.slice, run_underlying hu, hb, AJ hz, CP]
       ·have e := List.take_append_drop h.toNat (es ++ sp);have := VR.slx (K := K) b o k ((es ++ sp).take h.toNat) ((es ++ sp).drop h.toNat) cap vs (by rw [e]; exact hk) (by rw [e]; exact hm) (by rw [e]; exact hvv) (by rw [e]; exact hcap);rw [hlen] at this; exact this
      | slxz _ a =>
       have e2 : h.toNat = 0 := by simp at h2; omega
       have hb := D7 (P := P) (w := w) (isS := true) (len := 0) (cap := 0) hl hln hh hhn bl bh (by omega) h1 (by simpa using h2);rw [e2] at hb;refine ⟨.slice (some a) 0 0, by simp [Instr.sliceAt, Instr.slice, run_underlying hu, hb, AJ hz], ?_⟩;simp; exact .slxz k a
     ·simp at hs
    ·simp at hs
   ·simp at hs
  ·simp at hs
 ·rename_i k id off n;split at hs
  ·rename_i et het;split at hs
   ·rename_i hz;split at hs
    ·rename_i l h bl bh;split at hs
     ·rename_i hc;obtain ⟨h0, h1, h2, h3⟩ := hc;injection hs with hs; subst hs
      have hu := Bl het
      cases hv with
      | msl _ _ _ _ cap hid hn hcap =>
       have hb := D7 (P := P) (w := w) (isS := true) (len := n) (cap := cap) hl hln hh hhn bl bh h0 h1 (by omega);refine ⟨.slice (some ⟨K.io id, off + l.toNat * k, none⟩) (h.toNat - l.toNat) (cap - l.toNat), ?_, .msl _ _ _ _ _ hid (by omega) ?_⟩
       ·simp [Instr.sliceAt, Instr.slice, run_underlying hu, hb, AJ hz];by_cases hcl : cap = l.toNat
        ·have : l.toNat = 0 := by omega
         simp [hcl, this]
        ·simp [hcl, CP]
       ·have : l.toNat * k + (cap - l.toNat) * k = cap * k := by rw [<- Nat.add_mul]; congr 1; omega
        omega
     ·split at hs
      ·rename_i hc;obtain ⟨h0, h1, h2⟩ := hc;injection hs with hs; subst hs
       have hu := Bl het
       cases hv with
       | msl _ _ _ _ cap hid hn hcap =>
        have hb := D7 (P := P) (w := w) (isS := true) (len := n) (cap := cap) hl hln hh hhn bl bh h0 (by omega) (by omega);have hz0 : h.toNat - l.toNat = 0 := by omega
        by_cases hcl : cap = l.toNat
        ·refine ⟨.slice (some ⟨K.io id, off, none⟩) 0 0, ?_, .slz k _⟩;subst hcl;simp [Instr.sliceAt, Instr.slice, run_underlying hu, hb, AJ hz, hz0]
        ·refine ⟨.slice (some ⟨K.io id, off + l.toNat * k, none⟩) 0 (cap - l.toNat), ?_, VR.sl (K.io id) (off + l.toNat * k) k [] 0 (cap - l.toNat) (fun _ _ => undef) (by simp) (by simp) (fun i j => by simp; exact .any _) (by simp) (fun h => absurd rfl h)⟩;simp [Instr.sliceAt, Instr.slice, run_underlying hu, hb, AJ hz, hcl, hz0, CP]
      ·simp at hs
    ·simp at hs
   ·simp at hs
  ·simp at hs
 ·simp at hs
end
end Go.Proofs.YtjofelloaofooaaGreatDoor
