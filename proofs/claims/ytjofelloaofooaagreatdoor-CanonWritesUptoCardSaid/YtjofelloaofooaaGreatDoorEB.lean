/- Jumps to a label, in step with a plain function. No condition. -/
import Derived.Test.YtjofelloaofooaaGreatDoorRows
import Derived.Test.YtjofelloaofooaaGreatDoorEng24
import Derived.Test.YtjofelloaofooaaGreatDoorEng17
set_option linter.unusedSimpArgs false
set_option linter.unusedVariables false
namespace Go.Proofs.YtjofelloaofooaaGreatDoor
section
variable {P : Program} {Q : Exit -> St -> Prop} {s : St} {β : Type} {G : β -> Prop}
theorem Exit.sel_goto {n : St -> Prop} {l : Nat} (h : Q (.goto l) s) : Exit.sel n Q (.goto l) s := h
theorem Exit.blk_goto {id l : Nat} (h : Q (.goto l) s) : Exit.blk id Q (.goto l) s := h
theorem Exit.jmp_ret {body : Code} (h : Q .ret s) : Exit.jmp P body Q .ret s := h
theorem SQ {body rest : Code} {l : Nat} (hf : findLabel body l = some (.seq .skip rest)) (h : WP P rest (Exit.jmp P body Q) s) : Exit.jmp P body Q (.goto l) s := by
 simp only [Exit.jmp, hf];exact JW_step (RP (IT h))
theorem Vl {σ : Type} {body rest : Code} {b : σ -> Option β} {f : (σ -> Option β) -> Option β} (l : Nat) (hf : findLabel body l = some (.seq .skip rest)) (hF : OptP (AJ b f) G) (R : σ -> St -> Prop) (hb : ∀ (x : σ) (s' : St), OptP (b x) G -> R x s' -> WP P rest Q s')
  (ha : ∀ J : σ -> Option β, (∀ (x : σ) (t : St), OptP (J x) G -> R x t -> WP P rest Q t) -> OptP (f J) G -> WP P body Q s) : WP P body Q s := ha b hb hF
end

set_option linter.unusedSimpArgs false
set_option linter.unusedVariables false
def ZU (a b : Nat) : Option Nat := FloatKind.f64.format.add a b
def ZY (a b : Nat) : Option Nat := FloatKind.f64.format.sub a b
def Zv (a b : Nat) : Option Nat := FloatKind.f64.format.mul a b
def feq (a b : Nat) : Bool := FloatKind.f64.format.order a b == some .eq
def fne (a b : Nat) : Bool := FloatKind.f64.format.order a b != some .eq
def flt (a b : Nat) : Bool := FloatKind.f64.format.order a b == some .lt
def fle (a b : Nat) : Bool := FloatKind.f64.format.order a b == some .lt || FloatKind.f64.format.order a b == some .eq
def fgt (a b : Nat) : Bool := FloatKind.f64.format.order a b == some .gt
def fge (a b : Nat) : Bool := FloatKind.f64.format.order a b == some .gt || FloatKind.f64.format.order a b == some .eq
def Ae5 (a : Nat) : Nat := Op.negFloat .f64 a
def i2f (n : Int) : Nat := FloatKind.f64.nearest n
def f2i (k : IntKind) (b : Nat) : Option Int := match (FloatKind.f64.decode b).toInt .zero with
 | some n => if k.min <= n /\ n <= k.max then some n else none
 | none => none
def Afd (x y : Nat × Nat) : Option (Nat × Nat) := (ZU x.1 y.1).bind fun r => (ZU x.2 y.2).map fun s => (r, s)
def Ae7 (x y : Nat × Nat) : Option (Nat × Nat) := (ZY x.1 y.1).bind fun r => (ZY x.2 y.2).map fun s => (r, s)
def Afa (x y : Nat × Nat) : Option (Nat × Nat) := (Zv x.1 y.1).bind fun r => (Zv x.2 y.2).bind fun s => (Zv x.1 y.2).bind fun u => (Zv x.2 y.1).bind fun v =>
 (ZY r s).bind fun p => (ZU u v).map fun q => (p, q)
def ceq (x y : Nat × Nat) : Bool := feq x.1 y.1 && feq x.2 y.2
section
variable {P : Program} {md : Nat -> Nat} {w : Bool} {ops : Array Oper} {os : List Oper} {k : St -> Prop} {n : Nat} {l : List (Nat × D)} {h : Heap} {d : Nat} {t ty : TypeId} {pos : String} {af : Array Edge} {x y z : Operand}
variable {β : Type} {G : β -> Prop}
end

set_option linter.unusedSimpArgs false
set_option linter.unusedVariables false
def Aew {α : Type} (o : Option Nat) : List α -> List (α × Option Nat)
 | [] => []
 | [x] => [(x, o)]
 | x :: y :: l => (x, some 0) :: Aew o (y :: l)
def lst {α : Type} (e : List α) (i : Int) : Option α := if i + 1 = (e.length : Int) then idx e i else none
section
variable {α : Type}
end
section
variable {P : Program} {md : Nat -> Nat} {w : Bool} {ops : Array Oper} {os : List Oper} {k : St -> Prop} {n : Nat} {l : List (Nat × D)} {h : Heap} {d : Nat} {t ty : TypeId} {pos : String} {af : Array Edge} {x y z : Operand}
variable {β : Type} {G : β -> Prop} {O : List (Nat × AObj)} {α : Type} {c : α × Option Nat -> List D} {e : List α} {q id r : Nat}
end

set_option linter.unusedVariables false
set_option linter.unusedSimpArgs false
set_option maxRecDepth 20000
open Go.ChangeShapes Go.WideShapes Go.ChangeAt Go.RowKit
theorem Od {H : Type} (d : DataW H) : 1 <= Rows.uptoBulk d := by
 cases d with
 | lit l => cases l <;> simp [Rows.uptoBulk]
 | nil => simp [Rows.uptoBulk]
 | ptr d => simp [Rows.uptoBulk]
 | slice elems spare => simp [Rows.uptoBulk]
 | agg parts => simp [Rows.uptoBulk]
 | iface t d => simp [Rows.uptoBulk]
 | map entries => simp [Rows.uptoBulk]
 | held h => simp [Rows.uptoBulk]
theorem S3 {H : Type} (l : List (DataW H)) : Rows.uptoBulkAll l = (l.map Rows.uptoBulk).sum := by
 induction l with
 | nil => simp [Rows.uptoBulkAll]
 | cons x r ih => simp [Rows.uptoBulkAll, ih]
theorem Ly : ∀ (l m : List Nat), l.length = m.length -> (∀ i, i < l.length -> l.getD i 0 <= m.getD i 0) -> l.sum <= m.sum
 | [], [], _, _ => by simp
 | a :: l, b :: m, hl, h => by
  have h0 : a <= b := h 0 (by simp);have := Ly l m (by simpa using hl) (fun i hi => by have := h (i + 1) (by simpa using hi); simpa using this);simp only [List.sum_cons]; omega
namespace B
section
variable {H : Type} {enc : TypeId × Value -> H} {P : Program} {w : World} {base : Nat} {spare : Nat -> Bool} {held : Bool} {fuel : Nat} {t : TypeId} {cs : List Value} {x : DataW H × List MemPlace} {N : Nat}
def Rds (N : Nat) (enc : TypeId × Value -> H) (P : Program) (w : World) (base : Nat) (spare : Nat -> Bool) (held : Bool) (t : TypeId) {X : Type} (ok : X -> Prop) (sz : X -> Nat) (c : X -> List D) : Prop :=
 ∀ fuel, fuel <= N -> ∀ cs x, DataW.trod enc P w base spare held fuel t cs = some x -> ∃ y, (ok y /\ sz y <= Rows.uptoBulk x.1) /\ LR (Kn.init w) cs (c y)
theorem Rds.zero {X : Type} {ok : X -> Prop} {sz : X -> Nat} {c : X -> List D} : Rds 0 enc P w base spare held t ok sz c := fun fuel hf cs x h => by
 obtain rfl : fuel = 0 := by omega
 simp [DataW.trod] at h
theorem rd_int {k : IntKind} (ht : P.underlying t = some (.int k)) : Rds N enc P w base spare held t (okI k) (fun _ => 1) (fun n => [.int k n]) := fun fuel _ cs x h => by
 obtain ⟨n, rfl, _, hw⟩ := DataW.trod_int ht h;exact ⟨n, ⟨(Lit.wf_int_iff k n).1 hw, Od _⟩, .one rfl (.int k n)⟩
theorem rd_str (ht : P.underlying t = some .string) : Rds N enc P w base spare held t (fun s : List By8 => s.length <= 9223372036854775807) (fun s => s.length + 1) (fun s => [.str s]) := fun fuel _ cs x h => by
 obtain ⟨s, rfl, hx, hw⟩ := DataW.trod_string ht h;refine ⟨s.data.toList, ⟨?_, ?_⟩, .one rfl ?_⟩
 ·unfold maxLen at hw;have : s.data.toList.length = s.size := by rw [Array.length_toList]; rfl
  omega
 ·subst hx; simp [Rows.uptoBulk]
 ·exact VR.str s.data.toList
theorem rd_slice {e : TypeId} {X : Type} {ok : X -> Prop} {sz : X -> Nat} {c : X -> List D} {k : Nat} (ht : P.underlying t = some (.slice e)) (hk : P.cellsOf e = k) (hk0 : 0 < k) (hc : ∀ y, ok y -> (c y).length = k)
  (hE : Rds N enc P w base (fun _ => true) held e ok sz c) : Rds N enc P w base (fun _ => true) held t (fun l : List X => (∀ y ∈ l, ok y) /\ l.length <= 9223372036854775807) (fun l => (l.map sz).sum + 1) (fun l => [.sl k (l.map c) 0]) := fun fuel hN cs x h => by
 rcases DataW.trod_slice ht h with ⟨rfl, _⟩ | ⟨a, len, cap, elems, rest, n, hfn, rfl, hx0, hb, hl, hm, hlen, hel, hsp, _⟩
 ·exact ⟨[], ⟨⟨by simp, by simp⟩, by simpa using Od _⟩, .one rfl (.slz k none)⟩
 ·have hm' : len <= 9223372036854775807 := by unfold maxLen at hm; omega
  rcases Nat.eq_zero_or_pos cap with h0 | h0
  ·have : len = 0 := by omega
   subst h0 this;exact ⟨[], ⟨⟨by simp, by simp⟩, by simpa using Od _⟩, .one rfl (.slz k (some a))⟩
  ·rw [hk] at hel hsp;have each : ∀ i, (hi : i < len) -> ∃ csi y, w.cells? base (a.add (i * k)) k = some csi /\ (ok y /\ sz y <= Rows.uptoBulk (elems[i]'(by omega)).1) /\ LR (Kn.init w) csi (c y) := fun i hi => by
    have h1 := hel i hi;have h2 : elems[i]? = some elems[i] := by rw [List.getElem?_eq_getElem]
    rw [h2, Option.bind_eq_some_iff] at h1;obtain ⟨csi, h3, h4⟩ := h1;obtain ⟨y, hy, hr⟩ := hE n (by omega) csi _ h4;exact ⟨csi, y, h3, hy, hr⟩
   have hspot : a.spot = none := by
    have hz : ∃ csi, w.cells? base (a.add (0 * k)) k = some csi := by
     rcases Nat.eq_zero_or_pos len with hl0 | hl0
     ·obtain ⟨hrl, hr⟩ := hsp rfl;have h1 := hr 0 (by omega);have hlt : 0 < rest.length := by omega
      rw [List.getElem?_eq_getElem hlt, Option.bind_eq_some_iff] at h1;obtain ⟨csi, h3, _⟩ := h1;exact ⟨csi, by rw [hl0] at h3; exact h3⟩
     ·obtain ⟨csi, _, h3, _⟩ := each 0 hl0;exact ⟨csi, h3⟩
    obtain ⟨csi, hz⟩ := hz;obtain ⟨_, hlc, hcell⟩ := World.cells?_some hz;have h1 := hcell 0 (by omega);have hlt : 0 < csi.length := by omega
    rw [List.getElem?_eq_getElem hlt] at h1;have e1 : ((a.add (0 * k)).add 0) = a := by simp [Addr.add]
    rw [e1] at h1
    cases hs : a.spot with
    | none => rfl
    | some q =>
     unfold World.cell? at h1;simp only [hs, Option.isSome_some, if_true] at h1;split at h1 <;> simp at h1
   obtain ⟨b, o, sp⟩ := a;simp only at hspot;subst hspot;have hex : ∀ i : Fin len, ∃ y, (ok y /\ sz y <= Rows.uptoBulk (elems[i.1]'(by omega)).1) /\ ∃ csi, w.cells? base (⟨b, o + i.1 * k, none⟩ : Addr) k = some csi /\ LR (Kn.init w) csi (c y) := fun i => by
    obtain ⟨csi, y, h1, h2, h3⟩ := each i.1 i.2;rw [DO] at h1;exact ⟨y, h2, csi, h1, h3⟩
   have hch : ∃ (f : Fin len -> X) (g : Fin len -> List Value), ∀ i, (ok (f i) /\ sz (f i) <= Rows.uptoBulk (elems[i.1]'(by omega)).1) /\ w.cells? base (⟨b, o + i.1 * k, none⟩ : Addr) k = some (g i) /\ LR (Kn.init w) (g i) (c (f i)) :=
    ⟨fun i => Classical.choose (hex i), fun i => Classical.choose (Classical.choose_spec (hex i)).2, fun i => by
     obtain ⟨h1, h2⟩ := Classical.choose_spec (hex i);obtain ⟨h3, h4⟩ := Classical.choose_spec h2
     exact ⟨h1, h3, h4⟩⟩
   obtain ⟨f, g, hf⟩ := hch;have hget : ∀ i (hi : i < len), ((List.ofFn f).map c).getD i [] = c (f ⟨i, hi⟩) := fun i hi => by simp [List.getD, hi]
   have hge : ∀ i, ¬ i < len -> ((List.ofFn f).map c).getD i [] = [] := fun i hi => by simp [List.getD, hi]
   refine ⟨List.ofFn f, ⟨⟨fun y hy => ?_, by simpa using hm'⟩, ?_⟩, .one rfl ?_⟩
   ·obtain ⟨i, rfl⟩ := List.mem_ofFn.1 hy;exact (hf i).1.1
   ·subst hx0;simp only [Rows.uptoBulk];have hs : ((List.ofFn f).map sz).sum <= Rows.uptoBulkAll (elems.map (·.1)) := by
     rw [S3];refine Ly _ _ (by simp [hlen]) (fun i hi => ?_);have hi' : i < len := by simpa using hi
     have he : i < elems.length := by omega
     have := (hf ⟨i, hi'⟩).1.2;simpa [List.getD, hi', he] using this
    omega
   ·let vs : Nat -> Nat -> Value := fun i j => if h : i < len /\ j < k then (g ⟨i, h.1⟩).getD j undef else undef
    have := VR.sl (K := Kn.init w) b o k ((List.ofFn f).map c) 0 cap vs (fun i hi => by
      have hi' : i < len := by simpa using hi
      rw [hget i hi']; exact hc _ (hf _).1.1)
     (fun i j hi hj => by
      have hi' : i < len := by simpa using hi
      obtain ⟨_, h1, h2⟩ := hf ⟨i, hi'⟩;have hv : vs i j = (g ⟨i, hi'⟩).getD j undef := by simp [vs, hi', hj]
      obtain ⟨_, hlc, hcell⟩ := World.cells?_some h1;have h3 := hcell j hj;have hj' : j < (g ⟨i, hi'⟩).length := by omega
      rw [List.getElem?_eq_getElem hj', DO] at h3;have e : (g ⟨i, hi'⟩).getD j undef = (g ⟨i, hi'⟩)[j] := by simp [List.getD, hj']
      rw [hv, e];refine Rc h3 ?_;have := (h2.get j).2 hj'
      rwa [e] at this)
     (fun i j => by
      by_cases hi : i < len
      ·rw [hget i hi];obtain ⟨h0, h1, h2⟩ := hf ⟨i, hi⟩;by_cases hj : j < k
       ·have hv : vs i j = (g ⟨i, hi⟩).getD j undef := by simp [vs, hi, hj]
        rw [hv]; exact (h2.get j).1
       ·have hcl := hc _ h0.1;have : (c (f ⟨i, hi⟩)).getD j D.any = D.any := by
         simp [List.getD, List.getElem?_eq_none (by omega : (c (f ⟨i, hi⟩)).length <= j)]
        rw [this]; exact .any _
      ·rw [hge i hi]; simp; exact .any _)
     (by simpa using hl) (by simp)
    simpa using this
inductive RdF (N : Nat) (enc : TypeId × Value -> H) (P : Program) (w : World) (base : Nat) (spare : Nat -> Bool) (held : Bool) : (off : Nat) -> List Field -> {X : Type} -> (X -> Prop) -> (X -> Nat) -> (X -> List D) -> Prop
 | nil {off : Nat} : RdF N enc P w base spare held off [] (fun _ : Unit => True) (fun _ => 0) (fun _ => [])
 | cons {off k : Nat} {f : Field} {fs : List Field} {X Y : Type} {ok : X -> Prop} {sz : X -> Nat} {c : X -> List D} {ok' : Y -> Prop} {sz' : Y -> Nat} {c' : Y -> List D} (ho : f.offset = off) (hk : P.cellsOf f.type = k)
   (h : Rds N enc P w base spare held f.type ok sz c) (r : RdF N enc P w base spare held (off + k) fs ok' sz' c') : RdF N enc P w base spare held off (f :: fs) (fun y : X × Y => ok y.1 /\ ok' y.2) (fun y => sz y.1 + sz' y.2) (fun y => c y.1 ++ c' y.2)
theorem RdF.read {off : Nat} {fs : List Field} {X : Type} {ok : X -> Prop} {sz : X -> Nat} {c : X -> List D} (r : RdF N enc P w base spare held off fs ok sz c) : ∀ (n : Nat), n <= N -> ∀ (cs : List Value) (xs : List (DataW H × List MemPlace)),
  (∀ (i : Nat) (f : Field), fs[i]? = some f -> DataW.trod enc P w base spare held n f.type ((cs.drop f.offset).take (P.cellsOf f.type)) = xs[i]?) -> xs.length = fs.length ->
  cs.length = off + (fs.map fun f : Field => P.cellsOf f.type).sum -> ∃ y, (ok y /\ sz y <= Rows.uptoBulkAll (xs.map (·.1))) /\ LR (Kn.init w) (cs.drop off) (c y) := by
 induction r with
 | nil => intro n _ cs xs _ _ hl; exact ⟨(), ⟨trivial, Nat.zero_le _⟩, by simp at hl; rw [List.drop_of_length_le (by omega)]; exact .nil⟩
 | @cons off k f fs X Y ok sz c ok' sz' c' ho hk h r ih =>
  intro n hn cs xs hx hxl hl
  cases xs with
  | nil => simp at hxl
  | cons x xs =>
   have h0 := hx 0 f rfl;simp only [List.getElem?_cons_zero] at h0;obtain ⟨y, hy, hr⟩ := h n hn _ _ h0
   obtain ⟨z, hz, hs⟩ := ih n hn cs xs (fun i g hg => by simpa using hx (i + 1) g (by simpa using hg)) (by simpa using hxl) (by
    simp only [List.map_cons, List.sum_cons, hk] at hl; omega)
   refine ⟨(y, z), ⟨⟨hy.1, hz.1⟩, by have h1 := hy.2; have h2 := hz.2; simp only [List.map_cons, Rows.uptoBulkAll]; omega⟩, ?_⟩;rw [ho, hk] at hr;have := hr.append hs
   rwa [<- List.drop_drop, List.take_append_drop] at this
theorem rd_structS {fs : Array Field} {X Y : Type} {ok : X -> Prop} {sz : X -> Nat} {c : X -> List D} {ok' : Y -> Prop} {sz' : Y -> Nat} {c' : Y -> List D} (ht : P.underlying t = some (.struct fs)) (r : RdF N enc P w base spare held 0 fs.toList ok sz c)
  (hl : P.cellsOf t = (fs.toList.map fun f : Field => P.cellsOf f.type).sum) (g : X -> Y) (hg : ∀ y, ok y -> ok' (g y) /\ sz' (g y) = sz y + 1 /\ c' (g y) = c y) : Rds (N + 1) enc P w base spare held t ok' sz' c' := fun fuel hN cs x h => by
 obtain ⟨xs, n, hfn, hx0, hlen, hxl, hx⟩ := DataW.trod_struct ht h;obtain ⟨y, hy, hr⟩ := r.read n (by omega) cs xs (fun i f hf => hx i f (by simpa using hf)) (by simpa using hxl) (by rw [hlen, hl]; omega);obtain ⟨h1, h2, h3⟩ := hg y hy.1;refine ⟨g y, ⟨h1, ?_⟩, by rw [h3]; simpa using hr⟩;have := hy.2;subst hx0;simp only [Rows.uptoBulk];omega
theorem rd_struct {fs : Array Field} {X Y : Type} {ok : X -> Prop} {sz : X -> Nat} {c : X -> List D} {ok' : Y -> Prop} {sz' : Y -> Nat} {c' : Y -> List D} (ht : P.underlying t = some (.struct fs)) (r : RdF N enc P w base spare held 0 fs.toList ok sz c)
  (hl : P.cellsOf t = (fs.toList.map fun f : Field => P.cellsOf f.type).sum) (g : X -> Y) (hg : ∀ y, ok y -> ok' (g y) /\ sz' (g y) = sz y + 1 /\ c' (g y) = c y) : Rds N enc P w base spare held t ok' sz' c' :=
 fun fuel hN => rd_structS ht r hl g hg fuel (by omega)
theorem mono {X : Type} {ok : X -> Prop} {sz : X -> Nat} {c : X -> List D} {ok' : X -> Prop} (h : Rds N enc P w base spare held t ok sz c) (hok : ∀ y, ok y -> ok' y) : Rds N enc P w base spare held t ok' sz c := fun fuel hN cs x hx => by
 obtain ⟨y, hy, hr⟩ := h fuel hN cs x hx;exact ⟨y, ⟨hok y hy.1, hy.2⟩, hr⟩
end
end B

set_option linter.unusedSimpArgs false
set_option linter.unusedVariables false
def Ty (P : Program) (md : Nat -> Nat) (ops : Array Oper) : List Nat -> Array Bool -> Bool
 | [], _ => true
 | i :: is, listed => (Region.ready .any ops listed).contains i && (Region.ready .any ops listed == [i] || (Ry P N0 md ops listed i || Rh P N0 md ops listed i)) && Ty P md ops is (listed.setIfInBounds i true)
def KL : List Nat -> Array Bool -> Array Bool
 | [], L => L
 | i :: is, L => KL is (L.setIfInBounds i true)
theorem I2 {P : Program} {md : Nat -> Nat} {ops : Array Oper} {m : Nat} {k : St -> Prop} : ∀ (l : List Nat) (listed : Array Bool) {s : St}, Ty P md ops l listed = true ->
  GC P N0 md ops l s (fun s' => KF P N0 md ops k m (KL l listed) s') -> KF P N0 md ops k (l.length + m) listed s
 | [], listed, s, ho, h => by
  show KF P N0 md ops k (0 + m) listed s;rw [Nat.zero_add]; exact h
 | i :: is, listed, s, ho, h => by
  simp only [Ty, Bool.and_eq_true, Bool.or_eq_true, beq_iff_eq] at ho;obtain ⟨⟨hr, hf⟩, hrest⟩ := ho;have hr' : i ∈ Region.ready .any ops listed := by simpa using hr
  obtain ⟨_, oi, hoi, _⟩ := mem_ready.1 hr';simp only [GC, hoi] at h;have e : (i :: is).length + m = (is.length + m) + 1 := by simp only [bi]; omega
  rw [e];rcases hf with hone | hfree | hdeep
  ·refine ⟨fun h0 => (by rw [h0] at hr'; cases hr'), fun j hj => ?_⟩;rw [hone] at hj;have : j = i := by simpa using hj
   subst this;simp only [hoi];exact Df h fun s' h' => I2 is _ hrest h'
  ·obtain ⟨hci, hfr⟩ := Jp hoi hfree;obtain ⟨d, hv, hk⟩ := (Ei hci).1 h;exact JC hoi hci _ listed s hfr hr' hv (I2 is _ hrest hk)
  ·obtain ⟨hci, hdep, hlist, hfr⟩ := Jo hoi hdeep;obtain ⟨d, hv, hk⟩ := (Ei hci).1 h;exact IV hoi hci _ hdep _ listed s hlist hfr hr' hv (I2 is _ hrest hk)
section
variable {P : Program} {md : Nat -> Nat} {l : List Oper} {n m : Nat} {k : St -> Prop} {listed : Array Bool} {s : St}
theorem A_seq (pl : List Nat) (l2 : List Oper) (m : Nat) (listed' : Array Bool) (hn : pl.length + m = n) (h2 : pl.map (fun i => l[i]?) = l2.map some) (ho : Ty P md l.toArray pl listed = true) (hl : KL pl listed = listed')
  (h : AY P md false l.toArray l2 s fun s' => KF P N0 md l.toArray k m listed' s') : KF P N0 md l.toArray k n listed s := by
 subst hl; subst hn;exact I2 pl listed ho (FI pl l2 (by simpa using h2) (EK h))
theorem A_end (he : (Region.ready .any l.toArray listed).isEmpty = true) (h : k s) : KF P N0 md l.toArray k 0 listed s := ⟨by simpa using he, h⟩
theorem A_one {i : Nat} {o : Oper} {L : Array Bool} (hi : l[i]? = some o) (hL : listed.setIfInBounds i true = L) (h : AY P md false l.toArray [o] s fun s' => KF P N0 md l.toArray k n L s') :
  ∀ r : Option Oper, l.toArray[i]? = r -> (match r with | some o => Fy P N0 md l.toArray o s fun s' => KF P N0 md l.toArray k n (listed.setIfInBounds i true) s' | none => KF P N0 md l.toArray k n (listed.setIfInBounds i true) s) := by
 intro r hr;have : r = some o := by rw [<- hr]; simpa using hi
 subst this;subst hL;exact EK h
theorem A_two (a b : Nat) (oa ob : Oper) (la lb : Array Bool) (hr : (Region.ready .any l.toArray listed == [a, b]) = true) (ha : l[a]? = some oa) (hb : l[b]? = some ob) (hla : listed.setIfInBounds a true = la) (hlb : listed.setIfInBounds b true = lb)
  (h1 : AY P md false l.toArray [oa] s fun s' => KF P N0 md l.toArray k n la s') (h2 : AY P md false l.toArray [ob] s fun s' => KF P N0 md l.toArray k n lb s') : KF P N0 md l.toArray k (n + 1) listed s := by
 have hr' := beq_iff_eq.1 hr;refine ⟨fun h0 => (by rw [h0] at hr'; cases hr'), fun i hi => ?_⟩;rw [hr'] at hi;have : i = a \/ i = b := by simpa using hi
 rcases this with rfl | rfl
 ·exact A_one ha hla h1 _ rfl
 ·exact A_one hb hlb h2 _ rfl
end
def Ae0 (a b : Nat) : Option Nat := match FloatKind.f64.format.order a b with
 | some .lt => some a
 | some .gt => some b
 | some .eq => some (if (FloatKind.f64.decode a).neg then a else b)
 | none => none
def Ae9 (a b : Nat) : Option Nat := match FloatKind.f64.format.order a b with
 | some .lt => some b
 | some .gt => some a
 | some .eq => some (if (FloatKind.f64.decode a).neg then b else a)
 | none => none
section
variable {P : Program} {md : Nat -> Nat} {w : Bool} {ops : Array Oper} {os : List Oper} {k : St -> Prop} {n : Nat} {l : List (Nat × D)} {h : Heap} {d : Nat} {t ty : TypeId} {pos : String} {af : Array Edge} {x y z : Operand}
variable {β : Type} {G : β -> Prop}
theorem JR {K : IntKind} {id off m q i : Nat} {e : TypeId} (hx : opL n l x = .ptr id off) (hy : opL n l y = .int K (i : Int)) (ha : arD P t = some (m, e)) (hq : szD P e = some q) (hi : Nat.blt i m = true)
  (hk : AY P md w ops os ⟨AK n ((d, .ptr id (off + i * q)) :: l), h⟩ k) : AY P md w ops (⟨some d, .indexAddr t x y, ty, pos, af, none⟩ :: os) ⟨AK n l, h⟩ k := Fv (by
 have hi' : i < m := by simpa using hi
 simp only [CC, hx, hy, NG, ha, hq];rw [if_pos (by omega), Int.toNat_natCast, OptP_some]
 exact hk)
end
section
variable {P : Program} {md : Nat -> Nat} {ops : Array Oper} {os : List Oper} {k : St -> Prop} {n : Nat} {l : List (Nat × D)} {h : Heap} {O : List (Nat × AObj)}
end

set_option linter.unusedSimpArgs false
set_option linter.unusedVariables false
def Pd {α : Type} (m : Nat) (l : List α) (i : Int) : Option α := if i < (m : Int) then idx l i else none
theorem Tl {P : Program} {t e : TypeId} {k n : Nat} {z cs : List D} {parts : List (Nat × D)} (hz : zcD P t = some z) (hp : plD P t = none) (ha : arD P t = some (n, e)) (hs : szD P e = some k) (hf : Ho (fun i => some (i * k, k)) z parts = some cs) : I4 P t parts = some (.agg cs) := by
  simp only [I4, hz, hp, ha, hs, hf]; rfl
section
variable {P : Program} {md : Nat -> Nat} {w : Bool} {ops : Array Oper} {os : List Oper} {k : St -> Prop} {n : Nat} {l : List (Nat × D)} {h : Heap} {d : Nat} {t ty : TypeId} {pos : String} {af : Array Edge} {x y z : Operand}
variable {β : Type} {G : β -> Prop}
theorem Aav {α : Type} {g : α -> D} {K : IntKind} {i : Int} {m : Nat} {e : TypeId} {a : List α} {f : α -> Option β} (hx : opL n l x = .agg (List.map g a)) (hy : opL n l y = .int K i) (ha : arD P t = some (m, e)) (hq : szD P e = some 1) (hg : agD P e = some false)
    (hF : OptP ((Pd m a i).bind f) G) (hk : ∀ b, Pd m a i = some b -> OptP (f b) G -> AY P md w ops os ⟨AK n ((d, g b) :: l), h⟩ k) : AY P md w ops (⟨some d, .index t x y, ty, pos, af, none⟩ :: os) ⟨AK n l, h⟩ k := Fv (by
  obtain ⟨b, hb, hF⟩ := AM hF;have hb' := hb;unfold Pd at hb';split at hb'
  · rename_i h1;unfold idx at hb';split at hb'
    · rename_i h0;have hd : (List.map g a).drop (i.toNat * 1) = g b :: (List.map g a).drop (i.toNat * 1 + 1) := by
        obtain ⟨hlt, he⟩ := List.getElem?_eq_some_iff.1 hb';rw [Nat.mul_one, List.drop_eq_getElem_cons (by simpa using hlt), List.getElem_map, he]
      have hD : KE P t (.agg (List.map g a)) (.int K i) = some (g b) := by
        simp only [KE, ha, hq];rw [if_pos ⟨h0, h1⟩];exact Az hg hq hd
      simp only [CC, hx, hy, hD, OptP_some];exact hk b hb hF
    · cases hb'
  · cases hb')
theorem YK {α : Type} {g : α -> D} {K : IntKind} {i : Int} {m : Nat} {e : TypeId} {a : List α} {f : α -> Option β} (hx : opL n l x = .iptr (List.map g a)) (hy : opL n l y = .int K i) (ha : arD P t = some (m, e)) (hq : szD P e = some 1)
    (hF : OptP ((Pd m a i).bind f) G) (hk : ∀ b, Pd m a i = some b -> OptP (f b) G -> AY P md w ops os ⟨AK n ((d, .iptr (g b :: (List.map g a).drop (i.toNat + 1))) :: l), h⟩ k) : AY P md w ops (⟨some d, .indexAddr t x y, ty, pos, af, none⟩ :: os) ⟨AK n l, h⟩ k := Fv (by
  obtain ⟨b, hb, hF⟩ := AM hF;have hb' := hb;unfold Pd at hb';split at hb'
  · rename_i h1;unfold idx at hb';split at hb'
    · rename_i h0;obtain ⟨hlt, he⟩ := List.getElem?_eq_some_iff.1 hb';have hd : (List.map g a).drop (i.toNat * 1) = g b :: (List.map g a).drop (i.toNat + 1) := by
        rw [Nat.mul_one, List.drop_eq_getElem_cons (by simpa using hlt), List.getElem_map, he]
      simp only [CC, hx, hy, Qj, ha, hq];rw [if_pos ⟨h0, h1⟩, if_pos (by rw [List.length_map]; omega), hd, OptP_some];exact hk b hb hF
    · cases hb'
  · cases hb')
end

set_option linter.unusedSimpArgs false
set_option linter.unusedVariables false
section
variable {P : Program} {md : Nat -> Nat} {w : Bool} {ops : Array Oper} {os : List Oper} {k : St -> Prop} {n : Nat} {l : List (Nat × D)} {h : Heap} {d : Nat} {t ty : TypeId} {pos : String} {af : Array Edge} {x y z : Operand}
variable {β : Type} {G : β -> Prop}
end

set_option linter.unusedSimpArgs false
set_option linter.unusedVariables false
def moY {α : Type} (id : Nat) (c : α -> List D) (e : List α) : Nat × AObj := match id with
 | 0 => (0, .room)
 | i + 1 => (i + 1, .bytes (fl c e))
theorem My {α : Type} {c : α -> List D} {id : Nat} {e : List α} (h : id ≠ 0) : moY id c e = (id, .bytes (fl c e)) := by cases id with | zero => exact absurd rfl h | succ i => rfl
theorem RQ {P : Program} {t : TypeId} (h : stD P t = true) : slD P t = none := by
 unfold stD at h; unfold slD
 cases hu : P.underlying t with
 | none => rfl
 | some x => rw [hu] at h; cases x <;> first | rfl | cases h
theorem VS (e : List By8) : e.map Gf = fl EO e := by
 unfold fl
 induction e with
 | nil => rfl
 | cons b e ih => simp only [List.map_cons, List.flatten_cons, ih]; rfl
theorem PI (e : List By8) : Dp 1 e.length (fl EO e) = e.map EO := QG (q := 1) (fun _ => rfl) e
section
variable {P : Program} {md : Nat -> Nat} {w : Bool} {ops : Array Oper} {os : List Oper} {k : St -> Prop} {n : Nat} {l : List (Nat × D)} {h : Heap} {d : Nat} {t ty : TypeId} {pos : String} {af : Array Edge} {x y z : Operand}
variable {β : Type} {G : β -> Prop} {O : List (Nat × AObj)}
theorem Aa2 {α : Type} {q id off f0 j : Nat} {c : α -> List D} {e : List α} {i : Int} {a b : α} {v : D} (ok : OK h O) (hx : opL n l x = .ptr id off) (hy : opL n l y = v) (hj : O[j]? = some (id, .bytes (fl c e))) (hid : id ≠ 0) (hc : ∀ a, (c a).length = q)
  (hi : idx e i = some a) (ho : off = i.toNat * q + f0) (h1 : v.lay = true) (h2 : szD P t = some v.cells.length) (hle : Nat.ble (f0 + v.cells.length) q = true) (hb : Fx (c a) f0 v.cells = c b)
  (hk : OK h (O.set j (id, .bytes (fl c (e.set i.toNat b)))) -> AY P md w ops os ⟨AK n l, Hp h (O.set j (id, .bytes (fl c (e.set i.toNat b))))⟩ k) :
  AY P md w ops (⟨none, .store t x y, ty, pos, af, none⟩ :: os) ⟨AK n l, Hp h O⟩ k := TA (by
 obtain ⟨_, g1, _⟩ := LY hi;obtain ⟨g2, g3⟩ := Kg hc g1;have hle' := Nat.le_of_ble_eq_true hle;have hca := hc a;have e1 : Fx (fl c e) off v.cells = fl c (e.set i.toNat b) := by
  rw [UC hc g1, <- hb, g2];unfold Fx;rw [ho];have t1 : (fl c (e.take i.toNat) ++ (c a ++ fl c (e.drop (i.toNat + 1)))).take (i.toNat * q + f0) = fl c (e.take i.toNat) ++ (c a).take f0 := by
   rw [<- g3, List.take_length_add_append, List.take_append_of_le_length (by omega)]
  have t2 : (fl c (e.take i.toNat) ++ (c a ++ fl c (e.drop (i.toNat + 1)))).drop (i.toNat * q + f0 + v.cells.length) = (c a).drop (f0 + v.cells.length) ++ fl c (e.drop (i.toNat + 1)) := by
   rw [Nat.add_assoc, <- g3, List.drop_length_add_append, List.drop_append_of_le_length (by omega)]
  rw [t1, t2]; simp
 have e2 : off + v.cells.length <= (fl c e).length := by
  rw [g2, ho]; simp only [bm, g3, hca]; omega
 obtain ⟨e3, e4⟩ := Hp_set (y := .bytes (fl c (e.set i.toNat b))) j ok hj hid;subst hy;simp only [CC, hx, KW, Hp_get j ok hj hid];refine ⟨h1, h2, e2, ?_⟩
 rw [e1, e3]; exact hk e4)
theorem XA {u et : TypeId} {a : List By8} (ok : OK h O) (hm : md d = 1) (hx : opL n l x = .str a) (hs : slD P u = some et) (ht : stD P t = true) (he : kiD P et = some .u8)
  (hk : ∀ i, (i = 0 -> a = []) -> OK h (moY i EO a :: O) -> AY P md w ops os ⟨AK n ((d, EC 1 i a) :: l), Hp h (moY i EO a :: O)⟩ k) :
  AY P md w ops (⟨some d, .convert t u x, ty, pos, af, none⟩ :: os) ⟨AK n l, Hp h O⟩ k := Fv (by
 simp only [CC, hs, hx, Wl, ht, he, hm, true_and];refine ⟨fun _ i hf hi => ?_, fun h0 => absurd rfl h0⟩;obtain ⟨e1, e2⟩ := Hp_new (x := .bytes (a.map Gf)) ok hf hi;rw [e1];rw [VS] at e2 ⊢;have := hk i (fun h0 => absurd h0 hi) (by rw [My hi]; exact e2);rw [Ii hi, My hi] at this
 exact this)
theorem Abp {s et : TypeId} {id j : Nat} {e : List By8} (ok : OK h O) (hz : id = 0 -> e = []) (hx : opL n l x = EC 1 id e) (hj : O[j]? = some (moY id EO e)) (hs : slD P s = some et) (he : kiD P et = some .u8) (ht : stD P t = true) (hn : slD P t = none)
  (hk : AY P md w ops os ⟨AK n ((d, .str e) :: l), Hp h O⟩ k) : AY P md w ops (⟨some d, .convert s t x, ty, pos, af, none⟩ :: os) ⟨AK n l, Hp h O⟩ k := Fv (by
 cases id with
 | zero =>
  have e1 := hz rfl;subst e1;have hx' : opL n l x = .snil := hx;have hc : Id P (Hp h O) s t .snil = some (.str []) := by rw [OC, hs]; simp [he, ht]
  simp only [CC, hn, hx', hc, OptP_some];exact hk
 | succ i =>
  have hx' : opL n l x = .msl 1 (i + 1) 0 e.length := hx;have hh := Hp_get j ok hj (Nat.succ_ne_zero i);have hl : (fl EO e).length = e.length := by rw [FN (q := 1) (fun _ => rfl)]; omega
  have hb : Ep (Dp 1 e.length (fl EO e)) = some e := by
   rw [PI];have := KG e;have e1 : (e.map fun b => [Gf b]) = e.map EO := rfl;rw [<- e1]; exact this
  have hc : Id P (Hp h O) s t (.msl 1 (i + 1) 0 e.length) = some (.str e) := by
   simp only [Id, hs, he, ht, hh, List.drop_zero, Nat.zero_add, and_self, if_true];rw [if_pos (by omega), hb]; rfl
  simp only [CC, hn, hx', hc, OptP_some]
  exact hk)
end
section
variable {P : Program} {md : Nat -> Nat} {w : Bool} {ops : Array Oper} {os : List Oper} {k : St -> Prop} {n : Nat} {l : List (Nat × D)} {h : Heap} {d : Nat} {t ty : TypeId} {pos : String} {af : Array Edge} {x y z : Operand}
variable {β : Type} {G : β -> Prop} {O : List (Nat × AObj)} {α : Type} {c : α -> List D} {e : List α} {q id : Nat}
theorem XC {off f0 j : Nat} {i : Int} {a b : α} {v : D} (ok : OK h O) (hz : id = 0 -> e = []) (hx : opL n l x = .ptr id off) (hy : opL n l y = v) (hj : O[j]? = some (moY id c e)) (hc : ∀ a, (c a).length = q)
  (hi : idx e i = some a) (ho : off = i.toNat * q + f0) (h1 : v.lay = true) (h2 : szD P t = some v.cells.length) (hle : Nat.ble (f0 + v.cells.length) q = true) (hb : Fx (c a) f0 v.cells = c b)
  (hk : (id = 0 -> e.set i.toNat b = []) -> OK h (O.set j (moY id c (e.set i.toNat b))) -> AY P md w ops os ⟨AK n l, Hp h (O.set j (moY id c (e.set i.toNat b)))⟩ k) :
  AY P md w ops (⟨none, .store t x y, ty, pos, af, none⟩ :: os) ⟨AK n l, Hp h O⟩ k := by
 have h0 := W9 hz hi;refine Aa2 ok hx hy (by rw [hj, My h0]) h0 hc hi ho h1 h2 hle hb fun ok' => ?_;have := hk (fun h => absurd h h0);rw [My h0] at this;exact this ok'
end

set_option linter.unusedSimpArgs false
set_option linter.unusedVariables false
section
variable {P : Program} {md : Nat -> Nat} {w : Bool} {ops : Array Oper} {os : List Oper} {k : St -> Prop} {n : Nat} {l : List (Nat × D)} {h : Heap} {d : Nat} {t ty : TypeId} {pos : String} {af : Array Edge} {x y z : Operand}
variable {β : Type} {G : β -> Prop}
theorem Abz {α : Type} {K : IntKind} {i : Int} {id m : Nat} {e : TypeId} {a : List α} {f : α -> Option β} (hx : opL n l x = .ptr id 0) (hy : opL n l y = .int K i) (ha : arD P t = some (m, e)) (hq : szD P e = some 1)
  (hF : OptP ((Pd m a i).bind f) G) (hk : ∀ b, Pd m a i = some b -> OptP (f b) G -> AY P md w ops os ⟨AK n ((d, .ptr id i.toNat) :: l), h⟩ k) : AY P md w ops (⟨some d, .indexAddr t x y, ty, pos, af, none⟩ :: os) ⟨AK n l, h⟩ k := Fv (by
 obtain ⟨b, hb, hF⟩ := AM hF;have hb' := hb;unfold Pd at hb';split at hb'
 ·rename_i h1;unfold idx at hb';split at hb'
  ·rename_i h0;simp only [CC, hx, hy, NG, ha, hq];rw [if_pos ⟨h0, h1⟩, OptP_some, Nat.mul_one, Nat.zero_add];exact hk b hb hF
  ·cases hb'
 ·cases hb')
theorem ZB {α : Type} {g : α -> D} {m q : Nat} {a : List α} {i : Int} {b : α} (hb : Pd m a i = some b) (ha : agD P t = some false) (hs : szD P t = some q) : Ey P t ((a.map g).drop i.toNat) = some (g b) := by
 unfold Pd at hb;split at hb
 ·unfold idx at hb;split at hb
  ·obtain ⟨hlt, he⟩ := List.getElem?_eq_some_iff.1 hb;refine Az (ds := (a.map g).drop (i.toNat + 1)) ha hs ?_;rw [List.drop_eq_getElem_cons (by simpa using hlt), List.getElem_map, he]
  ·cases hb
 ·cases hb
end

set_option linter.unusedSimpArgs false
set_option linter.unusedVariables false
theorem HR.frzY {K : Kn} {h : Heap} {w : World} (H : HR K h w) {id : Nat} {cs : List D} (hx : h id = some (.bytes cs)) : Ext K (K.frz w id cs.length) /\ HR (K.frz w id cs.length) (h.upd id none) w := by
 obtain ⟨hc, _, _⟩ := H.ok id _ hx;have E : Ext K (K.frz w id cs.length) := by
  refine ⟨fun b o v hv => ?_, fun _ _ => rfl, fun _ _ => rfl, fun _ _ => rfl, Nat.le_refl _, rfl, rfl⟩;by_cases e : b = K.io id
  ·have := H.nomu id _ hx b o e; rw [hv] at this; simp at this
  ·simp only [Kn.frz, if_neg e]; exact hv
 have h0 : id ≠ 0 := fun e => by have := H.z; rw [<- e, hx] at this; simp at this
 refine ⟨E, HR.change (C := fun i => i = id) H E (Keep.refl w (fun _ _ => False)) (fun _ _ h => h.elim) (fun j hj => .inl (Heap.upd_ne _ _ hj)) (fun b o v hv => ?_) (by rw [Heap.upd_ne h _ (Ne.symm h0)]; exact H.z) (fun i z hi hz => ?_)⟩
 ·by_cases e : b = K.io id
  ·right;simp only [Kn.frz, if_pos e] at hv;split at hv
   ·rename_i ho;obtain ⟨u, hu, h1, _⟩ := hc o (by omega);rw [<- e, hv] at hu;injection hu with hu
    subst hu;exact ⟨hv, h1, fun j y hj hy hoy => H.sep id j _ y (Ne.symm hj) hx hy b o e hoy⟩
   ·simp at hv
  ·left; simpa only [Kn.frz, if_neg e] using hv
 ·subst hi; rw [Heap.upd_same] at hz; simp at hz
theorem VR.frzSY {K : Kn} {h : Heap} {w : World} (H : HR K h w) {id k : Nat} {es : List (List D)} (hx : h id = some (.bytes es.flatten)) (hk : ∀ r ∈ es, r.length = k) {v : Value} (hv : VR K v (.msl k id 0 es.length)) : VR (K.frz w id es.flatten.length) v (.sl k es 0) := by
 obtain ⟨hc, _, _⟩ := H.ok id _ hx;have E := (H.frzY hx).1
 cases hv with
 | msl _ _ _ _ cap hid hcn hcap =>
  refine .sl (K.io id) 0 k es 0 cap (fun i j => (w.cell? ⟨K.io id, i * k + j, none⟩).getD undef) (fun i hi => by simpa [List.getD, hi] using hk _ (bn hi)) (fun i j hi hj => ?_) (fun i j => ?_) hcn (fun h0 => absurd rfl h0)
  ·obtain ⟨e, hlt⟩ := Jl hk hi hj;obtain ⟨u, hu, _⟩ := hc (i * k + j) (by omega);simp only [Kn.frz, if_true, Nat.zero_add, if_pos hlt, hu, Option.getD_some]
  ·by_cases hi : i < es.length
   ·by_cases hj : j < k
    ·obtain ⟨e, hlt⟩ := Jl hk hi hj;obtain ⟨u, hu, _, hur⟩ := hc (i * k + j) (by omega);rw [<- e, hu, Option.getD_some];exact hur.mono E
    ·have : (es.getD i []).length = k := by simpa [List.getD, hi] using hk _ (bn hi)
     rw [List.getD_eq_getElem?_getD, List.getElem?_eq_none (by omega)]; exact .any _
   ·have : es.getD i [] = [] := by simp [List.getD, Nat.le_of_not_lt hi]
    rw [this]; exact .any _
section
variable {P : Program} {md : Nat -> Nat} {w : Bool} {ops : Array Oper} {os : List Oper} {k : St -> Prop} {n : Nat} {l : List (Nat × D)} {h : Heap} {d : Nat} {t ty : TypeId} {pos : String} {af : Array Edge} {x y z : Operand}
variable {β : Type} {G : β -> Prop} {O : List (Nat × AObj)}
theorem Cn_frzY {cs : List D} {X : St -> Prop} {old new : D} {id : Nat} (j d : Nat) (ok : OK h O) (hv : G3 l d = old) (hO : O[j]? = some (id, .bytes cs)) (hid : id ≠ 0)
  (hV : ∀ (K : Kn) (w : World) (v : Value), HR K (Hp h O) w -> VR K v old -> VR (K.frz w id cs.length) v new)
  (hk : OK h (O.set j (0, .room)) -> X ⟨AK n ((d, new) :: l), Hp h (O.set j (0, .room))⟩) : Cn true ⟨AK n l, Hp h O⟩ X := fun df K a u S => by
 have hx := Hp_get j ok hO hid;obtain ⟨E, H'⟩ := S.h.frzY hx;obtain ⟨e1, e2⟩ := Hp_rel j ok hO hid;simp only [e1] at H';refine ⟨K.frz u id cs.length, _, E, ⟨H', S.d, by rw [S.n]; simp [EG], fun i => ?_⟩, hk e2⟩;have hvi := S.v i;simp only [Fq] at hvi ⊢;split
 ·rename_i hi;rw [if_pos hi] at hvi;show VR _ _ (match Nat.beq d i with | true => new | false => G3 l i)
  cases hb : Nat.beq d i with
  | true =>
   rw [Nat.beq_eq] at hb; subst hb;rw [hv] at hvi;exact hV K u _ S.h hvi
  | false => exact hvi.mono E
 ·exact .any _
theorem Ys {α : Type} {q id : Nat} {c : α -> List D} {e : List α} (j d : Nat) (ok : OK h O) (hz : id = 0 -> e = []) (hv : G3 l d = EC q id e) (hO : O[j]? = some (moY id c e)) (hc : ∀ a, (c a).length = q)
  (hk : OK h (O.set j (0, .room)) -> AY P md true ops os ⟨AK n ((d, .sl q (e.map c) 0) :: l), Hp h (O.set j (0, .room))⟩ k) : AY P md true ops os ⟨AK n l, Hp h O⟩ k := by
 cases id with
 | succ m => exact Wf (Cn_frzY j d ok hv hO (Nat.succ_ne_zero m) (fun K w v H hV => VR.frzSY H (es := e.map c) (Hp_get j ok hO (Nat.succ_ne_zero m)) (by simp; exact fun a _ => hc a) (by simpa [EC] using hV)) hk)
 | zero =>
  have e1 := hz rfl;subst e1;have hset : O.set j (0, .room) = O := by
   obtain ⟨hlt, he⟩ := List.getElem?_eq_some_iff.1 hO;have he' : O[j] = (0, .room) := he;rw [<- he']; exact List.set_getElem_self hlt
  rw [hset] at hk;exact Gi d (v := .sl q [] 0) (by rw [hv]; exact .nil q) (hk ok)
end
end Go.Proofs.YtjofelloaofooaaGreatDoor
