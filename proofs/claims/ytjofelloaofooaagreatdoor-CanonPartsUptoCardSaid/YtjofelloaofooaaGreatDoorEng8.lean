/- One operation of the abstract machine, and that the model does what it does. No condition. -/
import Derived.Test.YtjofelloaofooaaGreatDoorEng7
set_option linter.unusedSimpArgs false
set_option linter.unusedVariables false
namespace Go.Proofs.YtjofelloaofooaaGreatDoor
def Ds (P : Program) (f : FuncId) : Bool := match P.funcs[f]? with
 | some fn => fn.body.isSome && !(fn.name == "runtime.NumGoroutine")
 | none => false
def CallsB (P : Program) (f : FuncId) (args : List D) (h : Heap) (R : D -> Heap -> Prop) : Prop :=
 Ds P f = true /\ ∀ (K : Kn) (w : World) (vs : Array Value), HR K h w -> vs.size = args.length -> (∀ i, VR K (vs.getD i undef) (args.getD i .any)) ->
  Calls P f vs w fun e w' => ∃ v d K' h', e = .returned v /\ Ext K K' /\ HR K' h' w' /\ VR K' v d /\ R d h'
def CallsX (P : Program) (f : FuncId) (args : List D) (h : Heap) (R : D -> Heap -> Prop) : Prop :=
 ∀ (K : Kn) (w : World) (vs : Array Value), HR K h w -> vs.size = args.length -> (∀ i, VR K (vs.getD i undef) (args.getD i .any)) ->
  ∃ v w' d K' h', (callFunc f vs).run P w = .ok (.value v) w' /\ Ext K K' /\ HR K' h' w' /\ VR K' v d /\ R d h'
def CallsA (P : Program) (f : FuncId) (args : List D) (h : Heap) (R : D -> Heap -> Prop) : Prop := CallsB P f args h R \/ CallsX P f args h R
theorem CallsA.mono {P : Program} {f : FuncId} {args : List D} {h : Heap} {R S : D -> Heap -> Prop} (c : CallsA P f args h R) (hRS : ∀ d h', R d h' -> S d h') : CallsA P f args h S :=
 c.imp (fun c => ⟨c.1, fun K w vs H hl hv => (c.2 K w vs H hl hv).mono fun e w' ⟨v, d, K', h', a, b, cc, dd, ee⟩ => ⟨v, d, K', h', a, b, cc, dd, hRS _ _ ee⟩⟩)
  fun c K w vs H hl hv => let ⟨v, w', d, K', h', a, b, cc, dd, ee⟩ := c K w vs H hl hv; ⟨v, w', d, K', h', a, b, cc, dd, hRS _ _ ee⟩
def OptP {α : Type} (x : Option α) (k : α -> Prop) : Prop := ∃ a, x = some a /\ k a
theorem OptP_some {α : Type} (a : α) (k : α -> Prop) : OptP (some a) k = k a := by simp [OptP]
theorem OptP_none {α : Type} (k : α -> Prop) : OptP none k = False := by simp [OptP]
theorem OptP_map {α β : Type} (f : α -> β) (x : Option α) (k : β -> Prop) : OptP (x.map f) k = OptP x (fun a => k (f a)) := by cases x <;> simp [OptP]
theorem OptP_bind {α β : Type} (f : α -> Option β) (x : Option α) (k : β -> Prop) : OptP (x.bind f) k = OptP x (fun a => OptP (f a) k) := by cases x <;> simp [OptP]
theorem OptP_mono {α : Type} {x : Option α} {k l : α -> Prop} (h : OptP x k) (hk : ∀ a, k a -> l a) : OptP x l := ⟨h.choose, h.choose_spec.1, hk _ h.choose_spec.2⟩
def Jk (P : Program) (h : Heap) (t : TypeId) (a x : D) (R : Heap -> Prop) : Prop :=
 match a with
 | .ptr id off => match h id with
  | some (.cells cs) => x.lay = true /\ szD P t = some x.cells.length /\ off + x.cells.length <= cs.length /\ R (h.upd id (some (.cells (Fk cs off x.cells))))
  | some (.bytes cs) => x.lay = true /\ szD P t = some x.cells.length /\ off + x.cells.length <= cs.length /\ R (h.upd id (some (.bytes (Fk cs off x.cells))))
  | _ => False
 | _ => False
def UQ : D -> Option D
 | .ptr i o => some (.ptr i o)
 | .iptr cs => some (.iptr cs)
 | .fn (.func f) a b => some (.fn (.func f) a b)
 | _ => none
def We (P : Program) (t : TypeId) (d : D) : Option D := match P.underlying t with
 | none => none
 | some (.interface _) => none
 | some _ => some (.ifd t d)
def S0 (P : Program) (t : TypeId) (n : String) : Option FuncId := match P.underlying t with
 | some (.pointer _) => (P.info? t).bind fun i => (i.methods.find? (·.name == n)).bind fun m => if m.path.isEmpty = true then (match m.func with | some (f, true) => some f | _ => none) else none
 | _ => none
def QZ (i : Nat) : D -> Option D
 | .tup cs => cs[i]?
 | _ => none
def VK (mx : Bool) : List D -> Option D
 | [.int k x, .int _ y] => some (.int k (if mx then (if y > x then y else x) else (if y < x then y else x)))
 | [.float k x, .float _ y] => match k.format.order x y with
  | some .lt => some (.float k (if mx then y else x))
  | some .gt => some (.float k (if mx then x else y))
  | some .eq => some (.float k (if mx then (if (k.decode x).neg then y else x) else (if (k.decode x).neg then x else y)))
  | none => none
 | _ => none
def Me (P : Program) (m : Nat) (h : Heap) (t : TypeId) (a : D) : Option D := if m = 3 then (match a with | .iptr cs => DR P t cs | _ => none) else I6 P h t a
theorem Rb {P : Program} {m : Nat} {h : Heap} {t : TypeId} {a d : D} (he : Me P m h t a = some d) : I6 P h t a = some d := by
 unfold Me at he;split at he
 ·split at he
  ·exact he
  ·simp at he
 ·exact he
theorem Ol {P : Program} {h : Heap} {t : TypeId} {a : D} : Me P 0 h t a = I6 P h t a := rfl
theorem TA {P : Program} {m : Nat} {h : Heap} {t : TypeId} {cs : List D} : Me P m h t (.iptr cs) = DR P t cs := by
 unfold Me; split <;> rfl
def L9 : Builtin -> List D -> Option D
 | .min, l => VK false l
 | .max, l => VK true l
 | .real, [.cplx k a _] => some (.float k a)
 | .imag, [.cplx k _ b] => some (.float k b)
 | .complex, [.float k a, .float k' b] => if k = k' then some (.cplx k a b) else none
 | _, _ => none
def KV (P : Program) (h : Heap) (t : TypeId) (x : D) (R : Heap -> Prop) : Prop :=
 match slD P t, x with
 | some e, .msl k id off n => match zcD P e, h id with
  | some z, some (.cells cs) => z.length = k /\ 0 < n /\ 0 < k /\ off + n * k <= cs.length /\ R (h.upd id (some (.cells (Fk cs off (List.replicate n z).flatten))))
  | _, _ => False
 | _, _ => False
def ES (P : Program) (m : Nat) (b : Builtin) (ts : List TypeId) (args : List D) (h : Heap) (R : D -> Heap -> Prop) : Prop :=
 match b, ts, args with
 | .len, [t], [x] => OptP (NB P h t x) fun d => R d h
 | .append, [t, u], [s, x] => Ff P m h t u s x R
 | .delete, [t, _], [mp, k] => Px P h t mp k fun h' => R (.tup []) h'
 | .cap, [t], [.slx k es sp] => (slD P t).isSome = true /\ ∀ c : Nat, (es ++ sp).length <= c -> R (.int .i64 c) h
 | .clear, [t], [x] => KV P h t x fun h' => R (.tup []) h'
 | b, _, args => OptP (L9 b args) fun d => R d h
def BB (P : Program) (Γ : FuncId -> Option (List D -> Option D)) (m : Nat) (op : Op) (ρ : Operand -> D) (h : Heap) (R : D -> Heap -> Prop) : Prop :=
 match op with
 | .move x => R (ρ x) h
 | .assign x => R (ρ x) h
 | .pick c a b => match ρ c with
  | .bool t => R (if t = true then ρ a else ρ b) h
  | _ => False
 | .alloc t => OptP (zcD P t) fun z => N8 m t h z R
 | .box t x => (ρ x).lay = true /\ N8 m t h (ρ x).cells R
 | .build t ps => OptP (Im P t (ps.toList.map fun p => (p.1, ρ p.2))) fun d => R d h
 | .buildSlice t n ps => T0 P m h t n (ps.toList.map fun p => (p.1, ρ p.2)) R
 | .load t a => OptP (Me P m h t (ρ a)) fun d => R d h
 | .store t a x => Jk P h t (ρ a) (ρ x) fun h' => R (.tup []) h'
 | .nilCheck x => OptP (UQ (ρ x)) fun d => R d h
 | .makeInterface t x => OptP (We P t (ρ x)) fun d => R d h
 | .binOp op t x y _ => OptP (FW P h op t (ρ x) (ρ y) y) fun d => R d h
 | .unOp op _ x => OptP (unD op (ρ x)) fun d => R d h
 | .convert src dst x => match slD P dst, ρ x with
  | some _, .str s => TP P m h src dst s R
  | some _, .msl k id off n => if m = 5 then XL P h src dst k id off n R else OptP (Hl P h src dst (.msl k id off n)) fun d => R d h
  | _, y => OptP (Hl P h src dst y) fun d => R d h
 | .makeFunc f a b => R (.fn f (a.toList.map ρ) (b.toList.map ρ)) h
 | .makeMap _ none => Pt h R
 | .makeSlice t l c => PQ P m h t (ρ l) (ρ c) R
 | .slice t x lo hi none => OptP (Gj P t (ρ x) (lo.map ρ) (hi.map ρ)) fun d => R d h
 | .fieldAddr t x f => OptP (D2 P t f (ρ x)) fun d => R d h
 | .field t x f => OptP (Nf P t f (ρ x)) fun d => R d h
 | .indexAddr t x i => OptP (Dd P t (ρ x) (ρ i)) fun d => R d h
 | .index t x i => OptP (Lq P t (ρ x) (ρ i)) fun d => R d h
 | .lookup t x i ok => OptP (Q8 P h t (ρ x) (ρ i) ok) fun d => R d h
 | .mapUpdate t a k v => L7 P h t (ρ a) (ρ k) (ρ v) fun h' => R (.tup []) h'
 | .insert t a k v => L7 P h t (ρ a) (ρ k) (ρ v) fun h' => R (.tup []) h'
 | .mapEntry t a k => PP P h t (ρ a) (ρ k) R
 | .entryStore _ a s v => Pw h (ρ a) (ρ s) (ρ v) fun h' => R (.tup []) h'
 | .range t x => KT P h t (ρ x) R
 | .next it s => Pa h (ρ it) s R
 | .entry it => OptP (PW h (ρ it)) fun d => R d h
 | .extract t i => OptP (QZ i (ρ t)) fun d => R d h
 | .call c => match c.callee with
  | .builtin b => ES P m b c.argTypes.toList (c.args.toList.map ρ) h R
  | .value f => match ρ f with
   | .fn (.func g) fi ca => match Γ g with
    | some F => OptP (F (fi ++ c.args.toList.map ρ ++ ca)) fun d => R d h
    | none => CallsA P g (fi ++ c.args.toList.map ρ ++ ca) h R
   | _ => False
  | .invoke r n => match ρ r with
   | .ifd t d => match S0 P t n with
    | some g => CallsA P g (d :: c.args.toList.map ρ) h R
    | none => False
   | _ => False
 | _ => False
def GammaOk (P : Program) (Γ : FuncId -> Option (List D -> Option D)) : Prop :=
 ∀ f F, Γ f = some F -> ∀ args d, F args = some d -> ∀ h, CallsA P f args h fun d' h' => d' = d /\ h' = h
theorem MC (P : Program) : GammaOk P (fun _ => none) := fun _ _ h => by simp at h
section
variable {P : Program} {K : Kn} {h : Heap} {w : World}
theorem KB (H : HR K h w) {t : TypeId} {a x : D} {va vx : Value} {R : Heap -> Prop} (ha : VR K va a) (hx : VR K vx x) (hR : Jk P h t a x R) :
  ∃ w' h', (Instr.storeAt t va vx).run P w = .ok () w' /\ HR K h' w' /\ R h' := by
 unfold Jk at hR;split at hR
 ·rename_i id off;split at hR
  ·rename_i cs hid;obtain ⟨hlay, hsz, hl, hR⟩ := hR;cases ha;have hcells := AR.cells hx hlay;obtain ⟨hszl, hcs, _, hfz⟩ := H.ok id _ hid
   have hst := run_storeCells_cells (P := P) (K.io id) off vx.cells.toList 0 w (fun j hj => by
     simp at hj;obtain ⟨v, hv, _⟩ := hcs (off + j) (by rw [hcells.1] at hj; omega)
     simp [hv]) (fun j hj => hfz _) (AR.one hcells)
   have hH := H.store hid hl (vs := vx.cells.toList) (by simp [hcells.1]) (AR.one hcells) (fun j => by have := hcells.2.2 j; simpa [Array.getD_eq_getD_getElem?, List.getD_eq_getElem?_getD] using this);refine ⟨_, _, ?_, hH, hR⟩;simp [Instr.storeAt, Instr.sureAddr, storeVar, AJ hsz, hcells.1];simpa using hst
  ·rename_i cs hid;obtain ⟨hlay, hsz, hl, hR⟩ := hR;cases ha;have hcells := AR.cells hx hlay;obtain ⟨hcs, _, hfz⟩ := H.ok id _ hid
   have hst := run_storeCells_cells (P := P) (K.io id) off vx.cells.toList 0 w (fun j hj => by
     simp at hj;obtain ⟨v, hv, _⟩ := hcs (off + j) (by rw [hcells.1] at hj; omega)
     simp [hv]) (fun j hj => hfz _ (by simp at hj; rw [hcells.1] at hj; omega)) (AR.one hcells)
   have hH := H.storeB hid hl (vs := vx.cells.toList) (by simp [hcells.1]) (AR.one hcells) (fun j => by have := hcells.2.2 j; simpa [Array.getD_eq_getD_getElem?, List.getD_eq_getElem?_getD] using this);refine ⟨_, _, ?_, hH, hR⟩;simp [Instr.storeAt, Instr.sureAddr, storeVar, AJ hsz, hcells.1];simpa using hst
  ·exact hR.elim
 ·exact hR.elim
def Hz : Value -> Bool
 | .pointer none | .nilIface | .nilFunc | .func (.method _) _ _ => false
 | _ => true
theorem Nt {x d : D} {v : Value} (hv : VR K v x) (hd : UQ x = some d) : x = d /\ Hz v = true := by
 unfold UQ at hd;split at hd <;> first
  | (injection hd with hd; subst hd; cases hv; exact ⟨rfl, rfl⟩)
  | simp at hd
theorem O6 {K : Kn} {w : World} {x d : D} {v : Value} {t : TypeId} (hv : VR K v x) (hd : We P t x = some d) : Says P K w (Instr.makeInterface t v) d := by
 unfold We at hd
 cases hu : P.underlying t with
 | none => simp [hu] at hd
 | some u =>
  have hr : (underlying t).run P w = .ok u w := run_underlying hu w
  cases u with
  | interface m => simp [hu] at hd
  | _ =>
   simp only [hu, Option.some.injEq] at hd;subst hd;exact ⟨.iface t v, by simp [Instr.makeInterface, Sem.run_bind, hr], .ifd t v x hv⟩
theorem Qp {w : World} {v : Value} {t : TypeId} {n : String} {g : FuncId} (hg : S0 P t n = some g) (args : Array Value) : (callMethod (.iface t v) n args).run P w = (callFunc g (#[v] ++ args)).run P w := by
 unfold S0 at hg
 cases hu : P.underlying t with
 | none => simp [hu] at hg
 | some u =>
  cases u with
  | pointer e =>
   simp only [hu] at hg;obtain ⟨i, hi, hg⟩ := Option.bind_eq_some_iff.1 hg;obtain ⟨m, hm, hg⟩ := Option.bind_eq_some_iff.1 hg;split at hg
   ·rename_i hp
    cases hf : m.func with
    | none => simp [hf] at hg
    | some fp =>
     obtain ⟨f, b⟩ := fp
     cases b with
     | false => simp [hf] at hg
     | true =>
      simp only [hf, Option.some.injEq] at hg;subst hg;have hpl : m.path.toList = [] := by simpa using hp
      have hr : (underlying t).run P w = .ok (.pointer e) w := run_underlying hu w;have ht : (typeInfo t).run P w = .ok i w := run_typeInfo w hi;have hd : P.types.size + Made.depth = (P.types.size + 99) + 1 := rfl;have hm1 : (method (P.types.size + Made.depth) t v n).run P w = .ok (f, v) w := by
       rw [hd];generalize P.types.size + 99 = k;simp only [method, Sem.run_bind, ht, Result.andThen_ok, hm, hpl, follow, Sem.run_pure, hf, receiverAt, hr, Place.get]
      simp only [callMethod, Sem.run_bind, run_program, Result.andThen_ok, hm1]
   ·cases hg
  | _ => simp [hu] at hg
theorem LV {ρ : Operand -> Value} {x : Operand} {dst : Option Tmp} {ty : TypeId} {pos : String} {after : Array Edge} {guard : Option (Nat × Bool)} (hs : Hz (ρ x) = true) :
  execOp ρ { dst, op := .nilCheck x, type := ty, pos, after, guard } = pure (.value (ρ x)) := by
 simp only [execOp];generalize ρ x = q at hs ⊢
 cases q with
 | pointer p => cases p with
  | none => simp [Hz] at hs
  | some p => rfl
 | nilIface => simp [Hz] at hs
 | nilFunc => simp [Hz] at hs
 | func f b c => cases f with
  | method n => simp [Hz] at hs
  | _ => rfl
 | _ => rfl
theorem Gq {ρv : Operand -> Value} {ρ : Operand -> D} (hρ : ∀ x, VR K (ρv x) (ρ x)) (l : Array Operand) (i : Nat) : VR K ((l.map ρv).getD i undef) ((l.toList.map ρ).getD i .any) := by
 by_cases hi : i < l.size
 ·simp [Array.getD, hi, List.getD]; exact hρ _
 ·simp [Array.getD, hi, List.getD]; exact .any _
theorem EI {x y : Array Value} {a b : List D} (hs : x.size = a.length) (hx : ∀ i, VR K (x.getD i undef) (a.getD i .any)) (hy : ∀ i, VR K (y.getD i undef) (b.getD i .any)) (i : Nat) : VR K ((x ++ y).getD i undef) ((a ++ b).getD i .any) := by
 by_cases hi : i < x.size
 ·have e1 : (x ++ y).getD i undef = x.getD i undef := by simp [Array.getD_eq_getD_getElem?, Array.getElem?_append_left hi]
  have e2 : (a ++ b).getD i D.any = a.getD i D.any := by rw [List.getD_eq_getElem?_getD, List.getElem?_append_left (by omega), <- List.getD_eq_getElem?_getD]
  rw [e1, e2]; exact hx i
 ·have e1 : (x ++ y).getD i undef = y.getD (i - x.size) undef := by simp [Array.getD_eq_getD_getElem?, Array.getElem?_append_right (Nat.le_of_not_lt hi)]
  have e2 : (a ++ b).getD i D.any = b.getD (i - a.length) D.any := by rw [List.getD_eq_getElem?_getD, List.getElem?_append_right (by omega), <- List.getD_eq_getElem?_getD]
  rw [e1, e2, hs]; exact hy _
theorem KD {ρv : Operand -> Value} {ρ : Operand -> D} (hρ : ∀ x, VR K (ρv x) (ρ x)) (ps : Array (Nat × Operand)) :
  ((ps.toList.map fun p => (p.1, ρv p.2)).map (·.1) = (ps.toList.map fun p => (p.1, ρ p.2)).map (·.1)) /\
  ∀ (j : Nat) (a : Nat × Value) (b : Nat × D), (ps.toList.map fun p => (p.1, ρv p.2))[j]? = some a -> (ps.toList.map fun p => (p.1, ρ p.2))[j]? = some b -> VR K a.2 b.2 := by
 refine ⟨by simp, fun j a b ha hb => ?_⟩;simp at ha hb;obtain ⟨x, y, h1, rfl⟩ := ha;obtain ⟨x', y', h2, rfl⟩ := hb;rw [h1] at h2;simp at h2;obtain ⟨rfl, rfl⟩ := h2;exact hρ _
theorem Jx {mx : Bool} {args : List D} {vs : Array Value} {d : D} {ts : Array TypeId} {t : TypeId} (hs : vs.size = args.length) (hv : ∀ i, VR K (vs.getD i undef) (args.getD i .any)) (hd : VK mx args = some d) :
  Says P K w (if mx then Builtin.max_ ts t vs else Builtin.min_ ts t vs) d := by
 unfold VK at hd;split at hd
 ·rename_i k x k' y;injection hd with hd; subst hd
  have h0 := VR.int_inv (hv 0);have h1 := VR.int_inv (hv 1);have hvs : vs.toList = [.int k x, .int k' y] := by
   have : vs.size = 2 := hs;apply List.ext_getElem (by simp [this]);intro i h2 h3
   match i with
   | 0 => simpa [Array.getD, this] using h0
   | 1 => simpa [Array.getD, this] using h1
   | i + 2 => simp at h3; omega
  cases mx
  ·exact Says.int (by simp [Builtin.min_, hvs, Builtin.min2])
  ·exact Says.int (by simp [Builtin.max_, hvs, Builtin.max2])
 ·rename_i k x k' y;have fl : ∀ {v : Value} {k : FloatKind} {n : Nat}, VR K v (.float k n) -> v = .float k n := fun h => by cases h; rfl
  have h0 := fl (hv 0);have h1 := fl (hv 1);have hvs : vs.toList = [.float k x, .float k' y] := by
   have : vs.size = 2 := hs;apply List.ext_getElem (by simp [this]);intro i h2 h3
   match i with
   | 0 => simpa [Array.getD, this] using h0
   | 1 => simpa [Array.getD, this] using h1
   | i + 2 => simp at h3; omega
  split at hd
  ·rename_i ho;injection hd with hd; subst hd
   cases mx
   ·exact Says.float (by simp [Builtin.min_, hvs, Builtin.min2, ho])
   ·exact Says.float (by simp [Builtin.max_, hvs, Builtin.max2, ho])
  ·rename_i ho;injection hd with hd; subst hd
   cases mx
   ·exact Says.float (by simp [Builtin.min_, hvs, Builtin.min2, ho])
   ·exact Says.float (by simp [Builtin.max_, hvs, Builtin.max2, ho])
  ·rename_i ho;injection hd with hd; subst hd
   cases mx
   ·exact Says.float (by simp [Builtin.min_, hvs, Builtin.min2, ho])
   ·exact Says.float (by simp [Builtin.max_, hvs, Builtin.max2, ho])
  ·simp at hd
 ·simp at hd
theorem VR.cplx_inv {v : Value} {k : FloatKind} {x y : Nat} (hv : VR K v (.cplx k x y)) : v = .complex k x y := by cases hv; rfl
theorem VR.float_inv {v : Value} {k : FloatKind} {n : Nat} (hv : VR K v (.float k n)) : v = .float k n := by cases hv; rfl
theorem Ky {vs : Array Value} (h : vs.size = 1) : vs = #[vs.getD 0 undef] := by
 apply Array.ext
 ·simp [h]
 ·intro i h1 h2;have : i = 0 := by omega
  subst this; simp [Array.getD, h]
theorem TM {vs : Array Value} (h : vs.size = 2) : vs = #[vs.getD 0 undef, vs.getD 1 undef] := by
 apply Array.ext
 ·simp [h]
 ·intro i h1 h2
  match i with
  | 0 => simp [Array.getD, h]
  | 1 => simp [Array.getD, h]
  | i + 2 => omega
theorem Mo {b : Builtin} {args : List D} {vs : Array Value} {d : D} {ts : Array TypeId} {t : TypeId} (hs : vs.size = args.length) (hv : ∀ i, VR K (vs.getD i undef) (args.getD i .any)) (hd : L9 b args = some d) :
  ∃ v, (∀ cs, (builtin b ts t cs vs).run P w = .ok (.value v) w) /\ VR K v d := by
 unfold L9 at hd;split at hd
 ·obtain ⟨v, hr, hvr⟩ := Jx (P := P) (w := w) (mx := false) (ts := ts) (t := t) hs hv hd;exact ⟨v, fun cs => by simpa [builtin] using congrArg (fun r => Result.andThen r fun v w' => Result.ok (Next.value v) w') hr, hvr⟩
 ·obtain ⟨v, hr, hvr⟩ := Jx (P := P) (w := w) (mx := true) (ts := ts) (t := t) hs hv hd;exact ⟨v, fun cs => by simpa [builtin] using congrArg (fun r => Result.andThen r fun v w' => Result.ok (Next.value v) w') hr, hvr⟩
 ·rename_i k a b';injection hd with hd; subst hd
  have h0 : vs.getD 0 undef = .complex k a b' := VR.cplx_inv (hv 0);rw [Ky hs, h0];exact ⟨.float k a, fun cs => by rfl, .float _ _⟩
 ·rename_i k a b';injection hd with hd; subst hd
  have h0 : vs.getD 0 undef = .complex k a b' := VR.cplx_inv (hv 0);rw [Ky hs, h0];exact ⟨.float k b', fun cs => by rfl, .float _ _⟩
 ·rename_i k a k' b';split at hd
  ·rename_i hk; subst hk;injection hd with hd; subst hd
   have h0 : vs.getD 0 undef = .float k a := VR.float_inv (hv 0);have h1 : vs.getD 1 undef = .float k b' := VR.float_inv (hv 1);rw [TM hs, h0, h1];exact ⟨.complex k a b', fun cs => by cases k <;> rfl, .cplx _ _ _⟩
  ·simp at hd
 ·simp at hd
theorem Lk (H : HR K h w) {t ty : TypeId} {x : D} {v : Value} {R : Heap -> Prop} (hx : VR K v x) (hR : KV P h t x R) :
  ∃ w' h', (Builtin.clear_ #[t] ty #[v]).run P w = .ok (.tuple #[]) w' /\ HR K h' w' /\ R h' := by
 unfold KV at hR;split at hR
 ·rename_i e k id off n hs;split at hR
  ·rename_i z cs hz hid;obtain ⟨hk, hn, hk0, hl, hR⟩ := hR
   cases hx with
   | msl _ _ _ _ cap hid2 hnc hcap =>
   obtain ⟨zv, hzr, hza⟩ := Kp hz;obtain ⟨za1, za2, za3⟩ := hza K;obtain ⟨hszl, hcs, _, hfz⟩ := H.ok id _ hid
   have hfl := BX k (List.replicate n z) (fun i hi => by
    rw [List.length_replicate] at hi
    rw [List.getD_eq_getElem?_getD, List.getElem?_replicate, if_pos hi]; exact hk)
   rw [List.length_replicate] at hfl;have hvl : (Builtin.zeroCells zv.cells n).toList.length = n * k := by
    rw [Array.length_toList, EU, za1, hk]
   have hget : ∀ j, j < n * k -> (Builtin.zeroCells zv.cells n).toList.getD j undef = zv.cells.getD (j % k) undef := by
    intro j hj;have h2 : j < (Builtin.zeroCells zv.cells n).size := by rw [EU, za1, hk]; exact hj
    have hm : j % zv.cells.size < zv.cells.size := Nat.mod_lt _ (by rw [za1, hk]; exact hk0);rw [List.getD_eq_getElem?_getD, List.getElem?_eq_getElem (by rw [Array.length_toList]; exact h2), Option.getD_some, Array.getElem_toList];simp only [Builtin.zeroCells, Array.getElem_map, Array.getElem_range];rw [za1, hk] at hm ⊢;rw [getElem!_pos zv.cells (j % k) (by rw [za1, hk]; exact hm), Array.getD_eq_getD_getElem?, Array.getElem?_eq_getElem (by rw [za1, hk]; exact hm)];rfl
   have h1 : ∀ v ∈ (Builtin.zeroCells zv.cells n).toList, v.oneCell' = true := by
    intro v hv;obtain ⟨j, hj, rfl⟩ := List.getElem_of_mem hv;have := hget j (by rw [<- hvl]; exact hj);rw [List.getD_eq_getElem?_getD, List.getElem?_eq_getElem hj, Option.getD_some] at this;rw [this];exact za2 _ (by rw [za1, hk]; exact Nat.mod_lt _ hk0)
   have hvr : ∀ j, VR K ((Builtin.zeroCells zv.cells n).toList.getD j undef) ((List.replicate n z).flatten.getD j .any) := by
    intro j;by_cases hj : j < n * k
    ·rw [hget j hj, hfl.2 j];have hdiv : j / k < n := (Nat.div_lt_iff_lt_mul hk0).2 hj;rw [List.getD_eq_getElem?_getD (l := List.replicate n z), List.getElem?_replicate, if_pos hdiv];exact za3 _
    ·have : (List.replicate n z).flatten.getD j .any = D.any := by
      rw [List.getD_eq_getElem?_getD, List.getElem?_eq_none (by rw [hfl.1]; omega)]; rfl
     rw [this]; exact .any _
   have hst := run_storeCells_cells (P := P) (K.io id) off (Builtin.zeroCells zv.cells n).toList 0 w (fun j hj => by
     rw [hvl] at hj;obtain ⟨v, hv, _⟩ := hcs (off + j) (by omega)
     simp [hv]) (fun j hj => hfz _) h1
   have hH := H.store hid (ds := (List.replicate n z).flatten) (by rw [hfl.1]; exact hl) (vs := (Builtin.zeroCells zv.cells n).toList) (by rw [hvl, hfl.1]) h1 hvr;refine ⟨_, _, ?_, hH, hR⟩;obtain ⟨m, rfl⟩ : ∃ m, n = m + 1 := ⟨n - 1, by omega⟩
   simp only [Nat.add_zero] at hst;simp [Builtin.clear_, run_underlying (Bl hs), hzr, hst]
  ·exact hR.elim
 ·exact hR.elim
theorem K7 (H : HR K h w) {m : Nat} {b : Builtin} {ts : Array TypeId} {t : TypeId} {args : List D} {vs : Array Value} {R : D -> Heap -> Prop} (hs : vs.size = args.length) (hv : ∀ i, VR K (vs.getD i undef) (args.getD i .any)) (hR : ES P m b ts.toList args h R) :
  ∃ v w' d K' h', (∀ cs, (builtin b ts t cs vs).run P w = .ok (.value v) w') /\ Ext K K' /\ HR K' h' w' /\ VR K' v d /\ R d h' := by
 have tsl : ∀ l, ts.toList = l -> ts = l.toArray := fun l hl => by rw [<- hl]
 unfold ES at hR;split at hR
 ·rename_i t0 x htl;obtain ⟨d, hd, hR⟩ := hR;obtain ⟨v, hr, hvr⟩ := NU (P := P) (w := w) (ty := t) H (hv 0) hd;refine ⟨v, w, d, K, h, ?_, Ext.refl K, H, hvr, hR⟩;intro cs;rw [tsl _ htl, Ky hs];simp only [builtin, Sem.run_bind];rw [hr]; rfl
 ·rename_i t0 u0 s x htl;obtain ⟨v, w', d, K', h', hr, E, H', hvr, hR'⟩ := JX (P := P) (ty := t) H (hv 0) (hv 1) hR;refine ⟨v, w', d, K', h', ?_, E, H', hvr, hR'⟩;intro cs;rw [tsl _ htl, TM hs];simp only [builtin, Sem.run_bind];rw [hr]; rfl
 ·rename_i t0 u0 mp k htl;obtain ⟨w', h', hr, H', hR'⟩ := JM (P := P) (ty := t) (kt0 := u0) H (hv 0) (hv 1) hR;refine ⟨.tuple #[], w', .tup [], K, h', ?_, Ext.refl K, H', .tup _ _ rfl (fun i => by simp; exact .any _), hR'⟩;intro cs;rw [tsl _ htl, TM hs];simp only [builtin, Sem.run_bind];rw [hr]; rfl
 ·rename_i t0 k es sp htl;obtain ⟨hsl, hR⟩ := hR;obtain ⟨et, het⟩ := Option.isSome_iff_exists.1 hsl;have hv0 : VR K (vs.getD 0 undef) (.slx k es sp) := hv 0;generalize hg : vs.getD 0 undef = v at hv0
  cases hv0 with
  | slx b o _ _ _ cap _ _ _ _ hcap =>
   refine ⟨.int .i64 cap, w, .int .i64 cap, K, h, ?_, Ext.refl K, H, .int _ _, hR cap hcap⟩;intro cs;rw [tsl _ htl, Ky hs, hg];simp [builtin, Builtin.cap_, run_underlying (Bl het), goInt]
  | slxz _ a =>
   refine ⟨.int .i64 0, w, .int .i64 0, K, h, ?_, Ext.refl K, H, .int _ _, hR 0 (by simp)⟩;intro cs;rw [tsl _ htl, Ky hs, hg];simp [builtin, Builtin.cap_, run_underlying (Bl het), goInt]
 ·rename_i t0 x htl;obtain ⟨w', h', hr, H', hR'⟩ := Lk (P := P) (ty := t) H (hv 0) hR;refine ⟨.tuple #[], w', .tup [], K, h', ?_, Ext.refl K, H', .tup _ _ rfl (fun i => by simp; exact .any _), hR'⟩;intro cs;rw [tsl _ htl, Ky hs];simp only [builtin, Sem.run_bind];rw [hr]; rfl
 ·obtain ⟨d, hd, hR⟩ := hR;obtain ⟨v, hr, hvr⟩ := Mo (P := P) (w := w) (ts := ts) (t := t) hs hv hd;exact ⟨v, w, d, K, h, hr, Ext.refl K, H, hvr, hR⟩
theorem KH : VR K undef (.tup []) := .tup _ _ rfl (fun i => by simp; exact .any _)
set_option maxHeartbeats 4000000 in
theorem NQ {Γ : FuncId -> Option (List D -> Option D)} (hΓ : GammaOk P Γ) {m : Nat} {o : Oper} {a : Act} {ρ : Operand -> D} {R : D -> Heap -> Prop} {next : Act -> World -> Prop} {Q : Exit -> Act -> World -> Prop}
  (H : HR K h w) (hρ : ∀ x, VR K (a.eval x) (ρ x)) (hR : BB P Γ m o.op ρ h R)
  (hnext : ∀ v d K' h' w', Ext K K' -> HR K' h' w' -> VR K' v d -> R d h' -> next (a.put o.dst v) w') : o.wp P a w next Q := by
 have byDoes : ∀ {s : Sem Value} {R' : D -> Heap -> Prop}, (execOp a.eval o = do pure (.value (<- s))) -> Does P K h w s R' -> (∀ d h', R' d h' -> R d h') -> o.wp P a w next Q := by
  intro s R' he hd hR';obtain ⟨v, w', d, K', h', hr, E, H', hv, hRd⟩ := hd;simp only [Oper.wp, he, Sem.run_bind, hr, Result.andThen_ok, Sem.run_pure, Oper.upon_value];exact hnext v d K' h' w' E H' hv (hR' _ _ hRd)
 have bySays : ∀ {s : Sem Value} {d : D}, (execOp a.eval o = do pure (.value (<- s))) -> Says P K w s d -> R d h -> o.wp P a w next Q := by
  intro s d he hd hRd;exact byDoes (R' := R) he (Says.does H hd hRd) (fun _ _ h => h)
 have byUnit : ∀ {s : Sem Unit} {w' : World} {h' : Heap}, (execOp a.eval o = do s; pure .skip) -> s.run P w = .ok () w' -> HR K h' w' -> R (.tup []) h' -> o.wp P a w next Q := by
  intro s w' h' he hr H' hRd;simp only [Oper.wp, he, Sem.run_bind, hr, Result.andThen_ok, Sem.run_pure, Oper.upon_skip];exact hnext undef (.tup []) K h' w' (Ext.refl K) H' KH hRd
 have byVal : ∀ {v : Value} {d : D}, (execOp a.eval o = pure (.value v)) -> VR K v d -> R d h -> o.wp P a w next Q := by
  intro v d he hv hRd;simp only [Oper.wp, he, Sem.run_pure, Oper.upon_value];exact hnext v d K h w (Ext.refl K) H hv hRd
 obtain ⟨dst, op, ty, pos, after, guard⟩ := o;simp only at hR hnext;unfold BB at hR;split at hR
 ·exact byVal rfl (hρ _) hR
 ·exact byVal rfl (hρ _) hR
 ·rename_i c x y;split at hR
  ·rename_i t hc;have h1 := hρ c;rw [hc] at h1;have h2 : a.eval c = .bool t := by generalize a.eval c = q at h1 ⊢; cases h1; rfl
   cases t
   ·exact byVal (v := a.eval y) (d := ρ y) (by simp [execOp, h2, asBool]) (hρ _) hR
   ·exact byVal (v := a.eval x) (d := ρ x) (by simp [execOp, h2, asBool]) (hρ _) hR
  ·exact hR.elim
 ·rename_i t;obtain ⟨z, hz, hR⟩ := hR;obtain ⟨zv, hzr, hza⟩ := Kp hz;obtain ⟨v, w', d, K', h', hr, E, H', hv, hRd⟩ := Jl (P := P) (t := t) H (hza K) hR;refine byDoes (s := Instr.alloc t true (.tuple #[])) rfl ⟨v, w', d, K', h', ?_, E, H', hv, hRd⟩ (fun _ _ h => h);simp only [Instr.alloc, Sem.run_bind, hzr, Result.andThen_ok, newVar];simpa using hr
 ·rename_i t x;obtain ⟨hlay, hR⟩ := hR;obtain ⟨v, w', d, K', h', hr, E, H', hv, hRd⟩ := Jl (P := P) (t := t) H (AR.cells (hρ x) hlay) hR;refine byDoes (s := Instr.box t (a.eval x)) rfl ⟨v, w', d, K', h', ?_, E, H', hv, hRd⟩ (fun _ _ h => h);simpa [Instr.box, newVar] using hr
 ·rename_i t ps;obtain ⟨d, hd, hR⟩ := hR;obtain ⟨p1, p2⟩ := KD hρ ps;refine bySays (s := Instr.build t (ps.map fun (i, x) => (i, a.eval x))) rfl ?_ hR;have := Lv (P := P) (w := w) p1 p2 hd;have e : (ps.map fun (i, x) => (i, a.eval x)) = (ps.toList.map fun p => (p.1, a.eval p.2)).toArray := by
   apply Array.ext'; simp
  rw [e]; exact this
 ·rename_i t n ps;obtain ⟨p1, p2⟩ := KD hρ ps;have := Nr (P := P) (w := w) H p1 p2 hR;have e : (ps.map fun (i, x) => (i, a.eval x)) = (ps.toList.map fun p => (p.1, a.eval p.2)).toArray := by
   apply Array.ext'; simp
  refine byDoes (s := Instr.buildSlice t n (ps.map fun (i, x) => (i, a.eval x))) rfl ?_ (fun _ _ h => h);rw [e]; exact this
 ·obtain ⟨d, hd, hR⟩ := hR;exact bySays rfl (L4 H (hρ _) (Rb hd)) hR
 ·rename_i t x y;obtain ⟨w', h', hr, H', hR'⟩ := KB (P := P) H (hρ x) (hρ y) hR;exact byUnit (s := Instr.storeAt t (a.eval x) (a.eval y)) rfl hr H' hR'
 ·rename_i x;obtain ⟨d, hd, hR⟩ := hR;obtain ⟨rfl, hm⟩ := Nt (hρ x) hd;exact byVal (v := a.eval x) (LV hm) (hρ x) hR
 ·rename_i t x;obtain ⟨d, hd, hR⟩ := hR;exact bySays (s := Instr.makeInterface t (a.eval x)) rfl (O6 (hρ x) hd) hR
 ·rename_i op t x y _;obtain ⟨d, hd, hR⟩ := hR;exact bySays (s := do eqGuard op t x y (a.eval x) (a.eval y); binOp op t (a.eval x) (a.eval y)) rfl (LZ H (hρ _) (hρ _) (fun hn => by rw [Pm hn]; rfl) hd) hR
 ·obtain ⟨d, hd, hR⟩ := hR;exact bySays rfl (Oz (hρ _) hd) hR
 ·rename_i s d x;split at hR
  ·rename_i e q he hq;have hv := hρ x;rw [hq] at hv;exact byDoes (s := convert s d (a.eval x)) rfl (Ns H hv hR) (fun _ _ h => h)
  ·rename_i e k id off n he hq;have hv := hρ x;rw [hq] at hv;split at hR
   ·exact byDoes (s := convert s d (a.eval x)) rfl (ND H hv hR) (fun _ _ h => h)
   ·obtain ⟨d, hd, hR⟩ := hR;exact bySays rfl (IQ H hv hd) hR
  ·obtain ⟨d, hd, hR⟩ := hR;exact bySays rfl (IQ H (hρ _) hd) hR
 ·rename_i f x y;refine byVal (v := .func f (x.map a.eval) (y.map a.eval)) (by simp [execOp, Instr.makeFunc]) ?_ hR;exact .fn _ _ _ _ _ (by simp) (by simp) (Gq hρ x) (Gq hρ y)
 ·rename_i t;exact byDoes (s := Instr.makeMap t none) rfl (Ku H hR) (fun _ _ h => h)
 ·exact byDoes rfl (Mc H (hρ _) (hρ _) hR) (fun _ _ h => h)
 ·rename_i t x lo hi;obtain ⟨d, hd, hR⟩ := hR;refine bySays (s := Instr.sliceAt t (a.eval x) (lo.map a.eval) (hi.map a.eval) none) rfl ?_ hR;refine KP (hρ x) (fun v hv => ?_) (fun hn => ?_) (fun v hv => ?_) (fun hn => ?_) hd
  ·cases lo with
   | none => simp at hv
   | some l => simp at hv; subst hv; exact ⟨_, rfl, hρ l⟩
  ·cases lo with
   | none => rfl
   | some l => simp at hn
  ·cases hi with
   | none => simp at hv
   | some l => simp at hv; subst hv; exact ⟨_, rfl, hρ l⟩
  ·cases hi with
   | none => rfl
   | some l => simp at hn
 ·obtain ⟨d, hd, hR⟩ := hR;exact bySays rfl (H6 (hρ _) hd) hR
 ·obtain ⟨d, hd, hR⟩ := hR;exact bySays rfl (K3 (hρ _) hd) hR
 ·obtain ⟨d, hd, hR⟩ := hR;exact bySays rfl (H3 (hρ _) (hρ _) hd) hR
 ·obtain ⟨d, hd, hR⟩ := hR;exact bySays rfl (KL (hρ _) (hρ _) hd) hR
 ·obtain ⟨d, hd, hR⟩ := hR;exact bySays rfl (LS H (hρ _) (hρ _) hd) hR
 ·rename_i t m k v;obtain ⟨w', h', hr, H', hR'⟩ := Hh (P := P) H (hρ m) (hρ k) (hρ v) hR;exact byUnit (s := Instr.mapUpdate t (a.eval m) (a.eval k) (a.eval v)) rfl hr H' hR'
 ·rename_i t m k v;obtain ⟨w', h', hr, H', hR'⟩ := Hh (P := P) H (hρ m) (hρ k) (hρ v) hR;exact byUnit (s := Instr.mapUpdate t (a.eval m) (a.eval k) (a.eval v)) rfl hr H' hR'
 ·exact byDoes rfl (JR H (hρ _) (hρ _) hR) (fun _ _ h => h)
 ·rename_i t m s v;obtain ⟨w', h', hr, H', hR'⟩ := JN (P := P) (t := t) H (hρ m) (hρ s) (hρ v) hR;exact byUnit (s := Instr.entryStore t (a.eval m) (a.eval s) (a.eval v)) rfl hr H' hR'
 ·exact byDoes rfl (Ld H (hρ _) hR) (fun _ _ h => h)
 ·exact byDoes rfl (L0 H (hρ _) hR) (fun _ _ h => h)
 ·obtain ⟨d, hd, hR⟩ := hR;exact bySays rfl (Le H (hρ _) hd) hR
 ·rename_i t i;obtain ⟨d, hd, hR⟩ := hR;refine bySays (s := Instr.extract (a.eval t) i) rfl ?_ hR;have ht := hρ t;unfold QZ at hd;split at hd
  ·rename_i cs hq;rw [hq] at ht;generalize a.eval t = q at ht ⊢
   cases ht with
   | tup x _ hx hv =>
    have hi : i < cs.length := (List.getElem?_eq_some_iff.1 hd).1;have hi' : i < x.size := by omega
    refine ⟨x[i], by simp [Instr.extract, hi'], ?_⟩;have := hv i;simpa [Array.getD, hi', List.getD, hd] using this
  ·simp at hd
 ·rename_i c;split at hR
  ·rename_i b hb;have hs : (c.args.map a.eval).size = (c.args.toList.map ρ).length := by simp
   obtain ⟨v, w', d, K', h', hr, E, H', hv, hRd⟩ := K7 (P := P) (ts := c.argTypes) (t := ty) H hs (Gq hρ c.args) (by simpa using hR);simp only [Oper.wp, execOp, resolve, hb, Sem.run_bind, Sem.run_pure, Result.andThen_ok, invoke, hr, Oper.upon_value];exact hnext v d K' h' w' E H' hv hRd
  ·rename_i f hf;split at hR
   ·rename_i g fi ca hq;have hfv := hρ f;rw [hq] at hfv;have hC : CallsA P g (fi ++ c.args.toList.map ρ ++ ca) h R := by
     split at hR
     ·rename_i F hF;obtain ⟨d, hd, hR⟩ := hR;exact (hΓ g F hF _ d hd h).mono fun d' h' ⟨e1, e2⟩ => by subst e1 e2; exact hR
     ·exact hR
    generalize hfe : a.eval f = q at hfv
    cases hfv with
    | fn _ _ _ x y hx hy h1 h2 =>
     rcases hC with ⟨hent, hcall⟩ | hX
     rotate_left
     ·obtain ⟨v, w', d, K', h', hr, E, H', hv, hRd⟩ := hX K w (x ++ c.args.map a.eval ++ y) H (by simp [hx, hy]) (EI (by simp [hx]) (EI hx h1 (Gq hρ c.args)) h2);simp only [Oper.wp, execOp, resolve, hf, hfe, Deferred.ofValue, Sem.run_bind, Sem.run_pure, Result.andThen_ok, invoke, hr, Oper.upon_value];exact hnext v d K' h' w' E H' hv hRd
     unfold Ds at hent;split at hent
     ·rename_i fn hfn;simp only [Bool.and_eq_true, Bool.not_eq_true'] at hent;obtain ⟨hb1, hb2⟩ := hent;have hrun : (execOp a.eval { dst, op := .call c, type := ty, pos, after, guard }).run P w = .ok (.enter g (x ++ c.args.map a.eval ++ y)) w := by
       have hbn : fn.body ≠ none := fun e => by simp [e] at hb1
       have hne : fn.name ≠ "runtime.NumGoroutine" := by simpa using hb2
       simp [execOp, resolve, hf, hfe, Deferred.ofValue, invoke, callFunc, hfn, hne, hbn]
      have := hcall K w (x ++ c.args.map a.eval ++ y) H (by simp [hx, hy]) (EI (by simp [hx]) (EI hx h1 (Gq hρ c.args)) h2);simp only [Oper.wp, hrun, Oper.upon_enter];refine this.mono ?_;rintro e w' ⟨v, d, K', h', rfl, E, H', hv, hRd⟩;exact hnext v d K' h' w' E H' hv hRd
     ·simp at hent
   ·exact hR.elim
  ·rename_i r n hf;split at hR
   ·rename_i it d hq;split at hR
    ·rename_i g hg;have hfv := hρ r;rw [hq] at hfv;generalize hfe : a.eval r = q at hfv
     cases hfv with
     | ifd _ v _ hv =>
      have hargs : ∀ i, VR K ((#[v] ++ c.args.map a.eval).getD i undef) ((d :: c.args.toList.map ρ).getD i .any) := EI (x := #[v]) (a := [d]) rfl (fun i => by cases i with
       | zero => exact hv
       | succ i => exact .any _) (Gq hρ c.args)
      have hrun : (execOp a.eval { dst, op := .call c, type := ty, pos, after, guard }).run P w = (callFunc g (#[v] ++ c.args.map a.eval)).run P w := by
       simp only [execOp, resolve, hf, hfe, Sem.run_bind, Sem.run_pure, Result.andThen_ok, invoke];have e0 : (#[Value.iface it v] ++ c.args.map a.eval)[0]? = some (Value.iface it v) := by rw [Array.getElem?_append_left (by simp)]; rfl
       have e1 : (#[Value.iface it v] ++ c.args.map a.eval).extract 1 (#[Value.iface it v] ++ c.args.map a.eval).size = c.args.map a.eval := by
        apply Array.ext'; simp;exact List.take_of_length_le (by simp)
       simp only [e0, e1];exact Qp hg _
      rcases hR with ⟨hent, hcall⟩ | hX
      rotate_left
      ·obtain ⟨v, w', d, K', h', hr, E, H', hv, hRd⟩ := hX K w _ H (by simp; omega) hargs;simp only [Oper.wp, hrun, hr, Oper.upon_value];exact hnext v d K' h' w' E H' hv hRd
      unfold Ds at hent;split at hent
      ·rename_i fn hfn;simp only [Bool.and_eq_true, Bool.not_eq_true'] at hent;obtain ⟨hb1, hb2⟩ := hent;have hrun2 : (callFunc g (#[v] ++ c.args.map a.eval)).run P w = .ok (.enter g (#[v] ++ c.args.map a.eval)) w := by
        have hbn : fn.body ≠ none := fun e => by simp [e] at hb1
        have hne : fn.name ≠ "runtime.NumGoroutine" := by simpa using hb2
        simp [callFunc, hfn, hne, hbn]
       have := hcall K w _ H (by simp; omega) hargs;simp only [Oper.wp, hrun, hrun2, Oper.upon_enter];refine this.mono ?_;rintro e w' ⟨v, d, K', h', rfl, E, H', hv, hRd⟩;exact hnext v d K' h' w' E H' hv hRd
      ·simp at hent
    ·exact hR.elim
   ·exact hR.elim
 ·exact hR.elim
end
end Go.Proofs.YtjofelloaofooaaGreatDoor
