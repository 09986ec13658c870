/- Jumps to a label, in step with a plain function. No condition. -/
import Derived.Test.YtjofelloaofooaaGreatDoorRows
import Derived.Test.YtjofelloaofooaaGreatDoorEng24
import Derived.Test.YtjofelloaofooaaGreatDoorEng17
set_option linter.unusedSimpArgs false
set_option linter.unusedVariables false
namespace Go.Proofs.YtjofelloaofooaaGreatDoor
section
variable {P : Program} {Q : Exit -> St -> Prop} {s : St} {β : Type} {G : β -> Prop}
theorem Exit.sel_goto {n : St -> Prop} {l : Nat} (h : Q (.goto l) s) : Exit.sel n Q (.goto l) s := h
theorem Exit.blk_goto {id l : Nat} (h : Q (.goto l) s) : Exit.blk id Q (.goto l) s := h
theorem Exit.jmp_ret {body : Code} (h : Q .ret s) : Exit.jmp P body Q .ret s := h
theorem QK {body rest : Code} {l : Nat} (hf : findLabel body l = some (.seq .skip rest)) (h : WP P rest (Exit.jmp P body Q) s) : Exit.jmp P body Q (.goto l) s := by
 simp only [Exit.jmp, hf];exact JW_step (Pq (GZ h))
theorem Ti {σ : Type} {body rest : Code} {b : σ -> Option β} {f : (σ -> Option β) -> Option β} (l : Nat) (hf : findLabel body l = some (.seq .skip rest)) (hF : OptP (AA b f) G) (R : σ -> St -> Prop) (hb : ∀ (x : σ) (s' : St), OptP (b x) G -> R x s' -> WP P rest Q s')
  (ha : ∀ J : σ -> Option β, (∀ (x : σ) (t : St), OptP (J x) G -> R x t -> WP P rest Q t) -> OptP (f J) G -> WP P body Q s) : WP P body Q s := ha b hb hF
end

set_option linter.unusedSimpArgs false
set_option linter.unusedVariables false
def XT (a b : Nat) : Option Nat := FloatKind.f64.format.add a b
def WQ (a b : Nat) : Option Nat := FloatKind.f64.format.sub a b
def V8 (a b : Nat) : Option Nat := FloatKind.f64.format.mul a b
def feq (a b : Nat) : Bool := FloatKind.f64.format.order a b == some .eq
def fne (a b : Nat) : Bool := FloatKind.f64.format.order a b != some .eq
def flt (a b : Nat) : Bool := FloatKind.f64.format.order a b == some .lt
def fle (a b : Nat) : Bool := FloatKind.f64.format.order a b == some .lt || FloatKind.f64.format.order a b == some .eq
def fgt (a b : Nat) : Bool := FloatKind.f64.format.order a b == some .gt
def fge (a b : Nat) : Bool := FloatKind.f64.format.order a b == some .gt || FloatKind.f64.format.order a b == some .eq
def Aam (a : Nat) : Nat := Op.negFloat .f64 a
def i2f (n : Int) : Nat := FloatKind.f64.nearest n
def f2i (k : IntKind) (b : Nat) : Option Int := match (FloatKind.f64.decode b).toInt .zero with
 | some n => if k.min <= n /\ n <= k.max then some n else none
 | none => none
def Aau (x y : Nat × Nat) : Option (Nat × Nat) := (XT x.1 y.1).bind fun r => (XT x.2 y.2).map fun s => (r, s)
def Aal (x y : Nat × Nat) : Option (Nat × Nat) := (WQ x.1 y.1).bind fun r => (WQ x.2 y.2).map fun s => (r, s)
def Aap (x y : Nat × Nat) : Option (Nat × Nat) := (V8 x.1 y.1).bind fun r => (V8 x.2 y.2).bind fun s => (V8 x.1 y.2).bind fun u => (V8 x.2 y.1).bind fun v =>
 (WQ r s).bind fun p => (XT u v).map fun q => (p, q)
def ceq (x y : Nat × Nat) : Bool := feq x.1 y.1 && feq x.2 y.2
section
variable {P : Program} {md : Nat -> Nat} {w : Bool} {ops : Array Oper} {os : List Oper} {k : St -> Prop} {n : Nat} {l : List (Nat × D)} {h : Heap} {d : Nat} {t ty : TypeId} {pos : String} {af : Array Edge} {x y z : Operand}
variable {β : Type} {G : β -> Prop}
end

set_option linter.unusedSimpArgs false
set_option linter.unusedVariables false
def Zv {α : Type} (o : Option Nat) : List α -> List (α × Option Nat)
 | [] => []
 | [x] => [(x, o)]
 | x :: y :: l => (x, some 0) :: Zv o (y :: l)
def lst {α : Type} (e : List α) (i : Int) : Option α := if i + 1 = (e.length : Int) then idx e i else none
section
variable {α : Type}
end
section
variable {P : Program} {md : Nat -> Nat} {w : Bool} {ops : Array Oper} {os : List Oper} {k : St -> Prop} {n : Nat} {l : List (Nat × D)} {h : Heap} {d : Nat} {t ty : TypeId} {pos : String} {af : Array Edge} {x y z : Operand}
variable {β : Type} {G : β -> Prop} {O : List (Nat × AObj)} {α : Type} {c : α × Option Nat -> List D} {e : List α} {q id r : Nat}
end

set_option linter.unusedVariables false
set_option linter.unusedSimpArgs false
set_option maxRecDepth 20000
open Go.ChangeShapes Go.WideShapes Go.ChangeAt Go.RowKit
theorem L3 {H : Type} (d : DataW H) : 1 <= Rows.uptoBulk d := by
 cases d with
 | lit l => cases l <;> simp [Rows.uptoBulk]
 | nil => simp [Rows.uptoBulk]
 | ptr d => simp [Rows.uptoBulk]
 | slice elems spare => simp [Rows.uptoBulk]
 | agg parts => simp [Rows.uptoBulk]
 | iface t d => simp [Rows.uptoBulk]
 | map entries => simp [Rows.uptoBulk]
 | held h => simp [Rows.uptoBulk]
theorem Q5 {H : Type} (l : List (DataW H)) : Rows.uptoBulkAll l = (l.map Rows.uptoBulk).sum := by
 induction l with
 | nil => simp [Rows.uptoBulkAll]
 | cons x r ih => simp [Rows.uptoBulkAll, ih]
theorem Jr : ∀ (l m : List Nat), l.length = m.length -> (∀ i, i < l.length -> l.getD i 0 <= m.getD i 0) -> l.sum <= m.sum
 | [], [], _, _ => by simp
 | a :: l, b :: m, hl, h => by
  have h0 : a <= b := h 0 (by simp);have := Jr l m (by simpa using hl) (fun i hi => by have := h (i + 1) (by simpa using hi); simpa using this);simp only [List.sum_cons]; omega
namespace B
section
variable {H : Type} {enc : TypeId × Value -> H} {P : Program} {w : World} {base : Nat} {spare : Nat -> Bool} {held : Bool} {fuel : Nat} {t : TypeId} {cs : List Value} {x : DataW H × List MemPlace} {N : Nat}
def Rds (N : Nat) (enc : TypeId × Value -> H) (P : Program) (w : World) (base : Nat) (spare : Nat -> Bool) (held : Bool) (t : TypeId) {X : Type} (ok : X -> Prop) (sz : X -> Nat) (c : X -> List D) : Prop :=
 ∀ fuel, fuel <= N -> ∀ cs x, DataW.trod enc P w base spare held fuel t cs = some x -> ∃ y, (ok y /\ sz y <= Rows.uptoBulk x.1) /\ LR (Kn.init w) cs (c y)
theorem Rds.zero {X : Type} {ok : X -> Prop} {sz : X -> Nat} {c : X -> List D} : Rds 0 enc P w base spare held t ok sz c := fun fuel hf cs x h => by
 obtain rfl : fuel = 0 := by omega
 simp [DataW.trod] at h
theorem rd_int {k : IntKind} (ht : P.underlying t = some (.int k)) : Rds N enc P w base spare held t (okI k) (fun _ => 1) (fun n => [.int k n]) := fun fuel _ cs x h => by
 obtain ⟨n, rfl, _, hw⟩ := DataW.trod_int ht h;exact ⟨n, ⟨(Lit.wf_int_iff k n).1 hw, L3 _⟩, .one rfl (.int k n)⟩
theorem rd_str (ht : P.underlying t = some .string) : Rds N enc P w base spare held t (fun s : List By8 => s.length <= 9223372036854775807) (fun s => s.length + 1) (fun s => [.str s]) := fun fuel _ cs x h => by
 obtain ⟨s, rfl, hx, hw⟩ := DataW.trod_string ht h;refine ⟨s.data.toList, ⟨?_, ?_⟩, .one rfl ?_⟩
 ·unfold maxLen at hw;have : s.data.toList.length = s.size := by rw [Array.length_toList]; rfl
  omega
 ·subst hx; simp [Rows.uptoBulk]
 ·exact VR.str s.data.toList
theorem rd_slice {e : TypeId} {X : Type} {ok : X -> Prop} {sz : X -> Nat} {c : X -> List D} {k : Nat} (ht : P.underlying t = some (.slice e)) (hk : P.cellsOf e = k) (hk0 : 0 < k) (hc : ∀ y, ok y -> (c y).length = k)
  (hE : Rds N enc P w base (fun _ => true) held e ok sz c) : Rds N enc P w base (fun _ => true) held t (fun l : List X => (∀ y ∈ l, ok y) /\ l.length <= 9223372036854775807) (fun l => (l.map sz).sum + 1) (fun l => [.sl k (l.map c) 0]) := fun fuel hN cs x h => by
 rcases DataW.trod_slice ht h with ⟨rfl, _⟩ | ⟨a, len, cap, elems, rest, n, hfn, rfl, hx0, hb, hl, hm, hlen, hel, hsp, _⟩
 ·exact ⟨[], ⟨⟨by simp, by simp⟩, by simpa using L3 _⟩, .one rfl (.slz k none)⟩
 ·have hm' : len <= 9223372036854775807 := by unfold maxLen at hm; omega
  rcases Nat.eq_zero_or_pos cap with h0 | h0
  ·have : len = 0 := by omega
   subst h0 this;exact ⟨[], ⟨⟨by simp, by simp⟩, by simpa using L3 _⟩, .one rfl (.slz k (some a))⟩
  ·rw [hk] at hel hsp;have each : ∀ i, (hi : i < len) -> ∃ csi y, w.cells? base (a.add (i * k)) k = some csi /\ (ok y /\ sz y <= Rows.uptoBulk (elems[i]'(by omega)).1) /\ LR (Kn.init w) csi (c y) := fun i hi => by
    have h1 := hel i hi;have h2 : elems[i]? = some elems[i] := by rw [List.getElem?_eq_getElem]
    rw [h2, Option.bind_eq_some_iff] at h1;obtain ⟨csi, h3, h4⟩ := h1;obtain ⟨y, hy, hr⟩ := hE n (by omega) csi _ h4;exact ⟨csi, y, h3, hy, hr⟩
   have hspot : a.spot = none := by
    have hz : ∃ csi, w.cells? base (a.add (0 * k)) k = some csi := by
     rcases Nat.eq_zero_or_pos len with hl0 | hl0
     ·obtain ⟨hrl, hr⟩ := hsp rfl;have h1 := hr 0 (by omega);have hlt : 0 < rest.length := by omega
      rw [List.getElem?_eq_getElem hlt, Option.bind_eq_some_iff] at h1;obtain ⟨csi, h3, _⟩ := h1;exact ⟨csi, by rw [hl0] at h3; exact h3⟩
     ·obtain ⟨csi, _, h3, _⟩ := each 0 hl0;exact ⟨csi, h3⟩
    obtain ⟨csi, hz⟩ := hz;obtain ⟨_, hlc, hcell⟩ := World.cells?_some hz;have h1 := hcell 0 (by omega);have hlt : 0 < csi.length := by omega
    rw [List.getElem?_eq_getElem hlt] at h1;have e1 : ((a.add (0 * k)).add 0) = a := by simp [Addr.add]
    rw [e1] at h1
    cases hs : a.spot with
    | none => rfl
    | some q =>
     unfold World.cell? at h1;simp only [hs, Option.isSome_some, if_true] at h1;split at h1 <;> simp at h1
   obtain ⟨b, o, sp⟩ := a;simp only at hspot;subst hspot;have hex : ∀ i : Fin len, ∃ y, (ok y /\ sz y <= Rows.uptoBulk (elems[i.1]'(by omega)).1) /\ ∃ csi, w.cells? base (⟨b, o + i.1 * k, none⟩ : Addr) k = some csi /\ LR (Kn.init w) csi (c y) := fun i => by
    obtain ⟨csi, y, h1, h2, h3⟩ := each i.1 i.2;rw [CP] at h1;exact ⟨y, h2, csi, h1, h3⟩
   have hch : ∃ (f : Fin len -> X) (g : Fin len -> List Value), ∀ i, (ok (f i) /\ sz (f i) <= Rows.uptoBulk (elems[i.1]'(by omega)).1) /\ w.cells? base (⟨b, o + i.1 * k, none⟩ : Addr) k = some (g i) /\ LR (Kn.init w) (g i) (c (f i)) :=
    ⟨fun i => Classical.choose (hex i), fun i => Classical.choose (Classical.choose_spec (hex i)).2, fun i => by
     obtain ⟨h1, h2⟩ := Classical.choose_spec (hex i);obtain ⟨h3, h4⟩ := Classical.choose_spec h2
     exact ⟨h1, h3, h4⟩⟩
   obtain ⟨f, g, hf⟩ := hch;have hget : ∀ i (hi : i < len), ((List.ofFn f).map c).getD i [] = c (f ⟨i, hi⟩) := fun i hi => by simp [List.getD, hi]
   have hge : ∀ i, ¬ i < len -> ((List.ofFn f).map c).getD i [] = [] := fun i hi => by simp [List.getD, hi]
   refine ⟨List.ofFn f, ⟨⟨fun y hy => ?_, by simpa using hm'⟩, ?_⟩, .one rfl ?_⟩
   ·obtain ⟨i, rfl⟩ := List.mem_ofFn.1 hy;exact (hf i).1.1
   ·subst hx0;simp only [Rows.uptoBulk];have hs : ((List.ofFn f).map sz).sum <= Rows.uptoBulkAll (elems.map (·.1)) := by
     rw [Q5];refine Jr _ _ (by simp [hlen]) (fun i hi => ?_);have hi' : i < len := by simpa using hi
     have he : i < elems.length := by omega
     have := (hf ⟨i, hi'⟩).1.2;simpa [List.getD, hi', he] using this
    omega
   ·let vs : Nat -> Nat -> Value := fun i j => if h : i < len /\ j < k then (g ⟨i, h.1⟩).getD j undef else undef
    have := VR.sl (K := Kn.init w) b o k ((List.ofFn f).map c) 0 cap vs (fun i hi => by
      have hi' : i < len := by simpa using hi
      rw [hget i hi']; exact hc _ (hf _).1.1)
     (fun i j hi hj => by
      have hi' : i < len := by simpa using hi
      obtain ⟨_, h1, h2⟩ := hf ⟨i, hi'⟩;have hv : vs i j = (g ⟨i, hi'⟩).getD j undef := by simp [vs, hi', hj]
      obtain ⟨_, hlc, hcell⟩ := World.cells?_some h1;have h3 := hcell j hj;have hj' : j < (g ⟨i, hi'⟩).length := by omega
      rw [List.getElem?_eq_getElem hj', CP] at h3;have e : (g ⟨i, hi'⟩).getD j undef = (g ⟨i, hi'⟩)[j] := by simp [List.getD, hj']
      rw [hv, e];refine Oe h3 ?_;have := (h2.get j).2 hj'
      rwa [e] at this)
     (fun i j => by
      by_cases hi : i < len
      ·rw [hget i hi];obtain ⟨h0, h1, h2⟩ := hf ⟨i, hi⟩;by_cases hj : j < k
       ·have hv : vs i j = (g ⟨i, hi⟩).getD j undef := by simp [vs, hi, hj]
        rw [hv]; exact (h2.get j).1
       ·have hcl := hc _ h0.1;have : (c (f ⟨i, hi⟩)).getD j D.any = D.any := by
         simp [List.getD, List.getElem?_eq_none (by omega : (c (f ⟨i, hi⟩)).length <= j)]
        rw [this]; exact .any _
      ·rw [hge i hi]; simp; exact .any _)
     (by simpa using hl) (by simp)
    simpa using this
inductive RdF (N : Nat) (enc : TypeId × Value -> H) (P : Program) (w : World) (base : Nat) (spare : Nat -> Bool) (held : Bool) : (off : Nat) -> List Field -> {X : Type} -> (X -> Prop) -> (X -> Nat) -> (X -> List D) -> Prop
 | nil {off : Nat} : RdF N enc P w base spare held off [] (fun _ : Unit => True) (fun _ => 0) (fun _ => [])
 | cons {off k : Nat} {f : Field} {fs : List Field} {X Y : Type} {ok : X -> Prop} {sz : X -> Nat} {c : X -> List D} {ok' : Y -> Prop} {sz' : Y -> Nat} {c' : Y -> List D} (ho : f.offset = off) (hk : P.cellsOf f.type = k)
   (h : Rds N enc P w base spare held f.type ok sz c) (r : RdF N enc P w base spare held (off + k) fs ok' sz' c') : RdF N enc P w base spare held off (f :: fs) (fun y : X × Y => ok y.1 /\ ok' y.2) (fun y => sz y.1 + sz' y.2) (fun y => c y.1 ++ c' y.2)
theorem RdF.read {off : Nat} {fs : List Field} {X : Type} {ok : X -> Prop} {sz : X -> Nat} {c : X -> List D} (r : RdF N enc P w base spare held off fs ok sz c) : ∀ (n : Nat), n <= N -> ∀ (cs : List Value) (xs : List (DataW H × List MemPlace)),
  (∀ (i : Nat) (f : Field), fs[i]? = some f -> DataW.trod enc P w base spare held n f.type ((cs.drop f.offset).take (P.cellsOf f.type)) = xs[i]?) -> xs.length = fs.length ->
  cs.length = off + (fs.map fun f : Field => P.cellsOf f.type).sum -> ∃ y, (ok y /\ sz y <= Rows.uptoBulkAll (xs.map (·.1))) /\ LR (Kn.init w) (cs.drop off) (c y) := by
 induction r with
 | nil => intro n _ cs xs _ _ hl; exact ⟨(), ⟨trivial, Nat.zero_le _⟩, by simp at hl; rw [List.drop_of_length_le (by omega)]; exact .nil⟩
 | @cons off k f fs X Y ok sz c ok' sz' c' ho hk h r ih =>
  intro n hn cs xs hx hxl hl
  cases xs with
  | nil => simp at hxl
  | cons x xs =>
   have h0 := hx 0 f rfl;simp only [List.getElem?_cons_zero] at h0;obtain ⟨y, hy, hr⟩ := h n hn _ _ h0
   obtain ⟨z, hz, hs⟩ := ih n hn cs xs (fun i g hg => by simpa using hx (i + 1) g (by simpa using hg)) (by simpa using hxl) (by
    simp only [List.map_cons, List.sum_cons, hk] at hl; omega)
   refine ⟨(y, z), ⟨⟨hy.1, hz.1⟩, by have h1 := hy.2; have h2 := hz.2; simp only [List.map_cons, Rows.uptoBulkAll]; omega⟩, ?_⟩;rw [ho, hk] at hr;have := hr.append hs
   rwa [<- List.drop_drop, List.take_append_drop] at this
theorem rd_structS {fs : Array Field} {X Y : Type} {ok : X -> Prop} {sz : X -> Nat} {c : X -> List D} {ok' : Y -> Prop} {sz' : Y -> Nat} {c' : Y -> List D} (ht : P.underlying t = some (.struct fs)) (r : RdF N enc P w base spare held 0 fs.toList ok sz c)
  (hl : P.cellsOf t = (fs.toList.map fun f : Field => P.cellsOf f.type).sum) (g : X -> Y) (hg : ∀ y, ok y -> ok' (g y) /\ sz' (g y) = sz y + 1 /\ c' (g y) = c y) : Rds (N + 1) enc P w base spare held t ok' sz' c' := fun fuel hN cs x h => by
 obtain ⟨xs, n, hfn, hx0, hlen, hxl, hx⟩ := DataW.trod_struct ht h;obtain ⟨y, hy, hr⟩ := r.read n (by omega) cs xs (fun i f hf => hx i f (by simpa using hf)) (by simpa using hxl) (by rw [hlen, hl]; omega);obtain ⟨h1, h2, h3⟩ := hg y hy.1;refine ⟨g y, ⟨h1, ?_⟩, by rw [h3]; simpa using hr⟩;have := hy.2;subst hx0;simp only [Rows.uptoBulk];omega
theorem rd_struct {fs : Array Field} {X Y : Type} {ok : X -> Prop} {sz : X -> Nat} {c : X -> List D} {ok' : Y -> Prop} {sz' : Y -> Nat} {c' : Y -> List D} (ht : P.underlying t = some (.struct fs)) (r : RdF N enc P w base spare held 0 fs.toList ok sz c)
  (hl : P.cellsOf t = (fs.toList.map fun f : Field => P.cellsOf f.type).sum) (g : X -> Y) (hg : ∀ y, ok y -> ok' (g y) /\ sz' (g y) = sz y + 1 /\ c' (g y) = c y) : Rds N enc P w base spare held t ok' sz' c' :=
 fun fuel hN => rd_structS ht r hl g hg fuel (by omega)
theorem mono {X : Type} {ok : X -> Prop} {sz : X -> Nat} {c : X -> List D} {ok' : X -> Prop} (h : Rds N enc P w base spare held t ok sz c) (hok : ∀ y, ok y -> ok' y) : Rds N enc P w base spare held t ok' sz c := fun fuel hN cs x hx => by
 obtain ⟨y, hy, hr⟩ := h fuel hN cs x hx;exact ⟨y, ⟨hok y hy.1, hy.2⟩, hr⟩
end
end B

set_option linter.unusedSimpArgs false
set_option linter.unusedVariables false
def XE (P : Program) (md : Nat -> Nat) (ops : Array Oper) : List Nat -> Array Bool -> Bool
 | [], _ => true
 | i :: is, listed => (Region.ready .any ops listed).contains i && (Region.ready .any ops listed == [i] || (PJ P N0 md ops listed i || Pp P N0 md ops listed i)) && XE P md ops is (listed.setIfInBounds i true)
def OZ : List Nat -> Array Bool -> Array Bool
 | [], L => L
 | i :: is, L => OZ is (L.setIfInBounds i true)
section
variable {P : Program} {md : Nat -> Nat} {l : List Oper} {n m : Nat} {k : St -> Prop} {listed : Array Bool} {s : St}
end
def Aat (a b : Nat) : Option Nat := match FloatKind.f64.format.order a b with
 | some .lt => some a
 | some .gt => some b
 | some .eq => some (if (FloatKind.f64.decode a).neg then a else b)
 | none => none
def Aay (a b : Nat) : Option Nat := match FloatKind.f64.format.order a b with
 | some .lt => some b
 | some .gt => some a
 | some .eq => some (if (FloatKind.f64.decode a).neg then b else a)
 | none => none
section
variable {P : Program} {md : Nat -> Nat} {w : Bool} {ops : Array Oper} {os : List Oper} {k : St -> Prop} {n : Nat} {l : List (Nat × D)} {h : Heap} {d : Nat} {t ty : TypeId} {pos : String} {af : Array Edge} {x y z : Operand}
variable {β : Type} {G : β -> Prop}
end
section
variable {P : Program} {md : Nat -> Nat} {ops : Array Oper} {os : List Oper} {k : St -> Prop} {n : Nat} {l : List (Nat × D)} {h : Heap} {O : List (Nat × AObj)}
end

set_option linter.unusedSimpArgs false
set_option linter.unusedVariables false
def X6 {α : Type} (m : Nat) (l : List α) (i : Int) : Option α := if i < (m : Int) then idx l i else none
section
variable {P : Program} {md : Nat -> Nat} {w : Bool} {ops : Array Oper} {os : List Oper} {k : St -> Prop} {n : Nat} {l : List (Nat × D)} {h : Heap} {d : Nat} {t ty : TypeId} {pos : String} {af : Array Edge} {x y z : Operand}
variable {β : Type} {G : β -> Prop}
end

set_option linter.unusedSimpArgs false
set_option linter.unusedVariables false
section
variable {P : Program} {md : Nat -> Nat} {w : Bool} {ops : Array Oper} {os : List Oper} {k : St -> Prop} {n : Nat} {l : List (Nat × D)} {h : Heap} {d : Nat} {t ty : TypeId} {pos : String} {af : Array Edge} {x y z : Operand}
variable {β : Type} {G : β -> Prop}
end

set_option linter.unusedSimpArgs false
set_option linter.unusedVariables false
def moY {α : Type} (id : Nat) (c : α -> List D) (e : List α) : Nat × AObj := match id with
 | 0 => (0, .room)
 | i + 1 => (i + 1, .bytes (fl c e))
section
variable {P : Program} {md : Nat -> Nat} {w : Bool} {ops : Array Oper} {os : List Oper} {k : St -> Prop} {n : Nat} {l : List (Nat × D)} {h : Heap} {d : Nat} {t ty : TypeId} {pos : String} {af : Array Edge} {x y z : Operand}
variable {β : Type} {G : β -> Prop} {O : List (Nat × AObj)}
end
section
variable {P : Program} {md : Nat -> Nat} {w : Bool} {ops : Array Oper} {os : List Oper} {k : St -> Prop} {n : Nat} {l : List (Nat × D)} {h : Heap} {d : Nat} {t ty : TypeId} {pos : String} {af : Array Edge} {x y z : Operand}
variable {β : Type} {G : β -> Prop} {O : List (Nat × AObj)} {α : Type} {c : α -> List D} {e : List α} {q id : Nat}
end

set_option linter.unusedSimpArgs false
set_option linter.unusedVariables false
section
variable {P : Program} {md : Nat -> Nat} {w : Bool} {ops : Array Oper} {os : List Oper} {k : St -> Prop} {n : Nat} {l : List (Nat × D)} {h : Heap} {d : Nat} {t ty : TypeId} {pos : String} {af : Array Edge} {x y z : Operand}
variable {β : Type} {G : β -> Prop}
end

set_option linter.unusedSimpArgs false
set_option linter.unusedVariables false
section
variable {P : Program} {md : Nat -> Nat} {w : Bool} {ops : Array Oper} {os : List Oper} {k : St -> Prop} {n : Nat} {l : List (Nat × D)} {h : Heap} {d : Nat} {t ty : TypeId} {pos : String} {af : Array Edge} {x y z : Operand}
variable {β : Type} {G : β -> Prop} {O : List (Nat × AObj)}
end
end Go.Proofs.YtjofelloaofooaaGreatDoor
