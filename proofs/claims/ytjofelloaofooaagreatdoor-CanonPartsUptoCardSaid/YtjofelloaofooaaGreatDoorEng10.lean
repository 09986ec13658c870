/- A statement whose operations may run in several orders: one order stands for all. No condition. -/
import Derived.Test.YtjofelloaofooaaGreatDoorEng9
set_option linter.unusedSimpArgs false
set_option linter.unusedVariables false
namespace Go.Proofs.YtjofelloaofooaaGreatDoor
def Js (P : Program) (t : TypeId) : Bool := (kiD P t).isSome || stD P t || boD P t || (faD P t).isSome || (cxD P t).isSome
def EH (P : Program) (Γ : FuncId -> Option (List D -> Option D)) (m : Nat) : Op -> Nat
 | .move _ | .assign _ | .pick .. | .build .. | .nilCheck _ | .makeInterface .. | .unOp .. | .makeFunc .. | .slice _ _ _ _ none | .fieldAddr .. | .field .. | .indexAddr .. | .index .. | .extract .. => 0
 | .alloc _ | .box .. | .buildSlice .. | .makeSlice .. => if m = 0 then 0 else 2
 | .binOp op t _ _ _ => match op with
  | .eql | .neq => if Js P t then 0 else 1
  | _ => 0
 | .convert s _ _ => if (slD P s).isSome then (if m = 5 then 2 else 1) else if m = 0 then 0 else 2
 | .load .. => if m = 3 then 0 else 1
 | .lookup .. => 1
 | .call c => match c.callee with
  | .builtin b => match b, c.argTypes.toList with
   | .len, [t] => if (maD P t).isSome then 1 else if stD P t || (slD P t).isSome then 0 else 2
   | .min, _ | .max, _ | .real, _ | .imag, _ | .complex, _ => 0
   | _, _ => 2
  | .value (.func g) => if (Γ g).isSome then 0 else 2
  | _ => 2
 | _ => 2
def EP (P : Program) (Γ : FuncId -> Option (List D -> Option D)) (m : Nat) (op : Op) (ρ : Operand -> D) (h : Heap) : Option D :=
 match op with
 | .move x => some (ρ x)
 | .assign x => some (ρ x)
 | .pick c a b => match ρ c with
  | .bool t => some (if t = true then ρ a else ρ b)
  | _ => none
 | .alloc t => (zcD P t).map .iptr
 | .box _ x => if (ρ x).lay = true then some (.iptr (ρ x).cells) else none
 | .build t ps => Im P t (ps.toList.map fun p => (p.1, ρ p.2))
 | .buildSlice t n ps => match elD P t with
  | none => none
  | some (k, _, z) => if n * k <= 16777216 then (Ga (fun i => some (i * k, k)) (List.replicate n z).flatten (ps.toList.map fun p => (p.1, ρ p.2))).map fun cs => .sl k (CM k n cs) 0 else none
 | .load t a => Me P m h t (ρ a)
 | .nilCheck x => UQ (ρ x)
 | .makeInterface t x => We P t (ρ x)
 | .binOp op t x y _ => FW P h op t (ρ x) (ρ y) y
 | .unOp op _ x => unD op (ρ x)
 | .convert src dst x => match slD P dst, ρ x with
  | some e, .str s => if stD P src = true /\ kiD P e = some .u8 then some (.sl 1 (s.map fun b => [FT b]) 0) else none
  | _, y => Hl P h src dst y
 | .makeFunc f a b => some (.fn f (a.toList.map ρ) (b.toList.map ρ))
 | .makeSlice t l c => match elD P t, ρ l, ρ c with
  | some (k, B, z), .int _ l, .int _ c => if 0 <= l /\ l <= c /\ c * B <= 140737488355328 /\ c <= 140737488355328 then some (.sl k (List.replicate l.toNat z) 0) else none
  | _, _, _ => none
 | .slice t x lo hi none => Gj P t (ρ x) (lo.map ρ) (hi.map ρ)
 | .fieldAddr t x f => D2 P t f (ρ x)
 | .field t x f => Nf P t f (ρ x)
 | .indexAddr t x i => Dd P t (ρ x) (ρ i)
 | .index t x i => Lq P t (ρ x) (ρ i)
 | .lookup t x i ok => Q8 P h t (ρ x) (ρ i) ok
 | .extract t i => QZ i (ρ t)
 | .call c => match c.callee with
  | .builtin b => match b, c.argTypes.toList, c.args.toList.map ρ with
   | .len, [t], [x] => NB P h t x
   | b, _, args => L9 b args
  | .value (.func g) => match Γ g with
   | some F => F (c.args.toList.map ρ)
   | none => none
  | _ => none
 | _ => none
section
variable {P : Program} {Γ : FuncId -> Option (List D -> Option D)} {md : Nat -> Nat}
theorem TY {m : Nat} {op : Op} {ρ : Operand -> D} {h : Heap} {R : D -> Heap -> Prop} (hc : EH P Γ m op ≠ 2) (hρ : ∀ g, ρ (.func g) = .fn (.func g) [] []) :
  BB P Γ m op ρ h R ↔ OptP (EP P Γ m op ρ h) fun d => R d h := by
 cases op with
 | move x => simp [BB, EP, OptP]
 | assign x => simp [BB, EP, OptP]
 | pick c a b =>
  simp only [BB, EP];cases hq : ρ c <;> simp [OptP]
 | alloc t =>
  have hm : m = 0 := by simp only [EH] at hc; by_cases h : m = 0 <;> simp_all
  subst hm;simp only [BB, EP, N8, OptP_map]
 | box t x =>
  have hm : m = 0 := by simp only [EH] at hc; by_cases h : m = 0 <;> simp_all
  subst hm;simp only [BB, EP, N8];by_cases hl : (ρ x).lay = true <;> simp [hl, OptP]
 | build t ps => rfl
 | buildSlice t n ps =>
  have hm : m = 0 := by simp only [EH] at hc; by_cases h : m = 0 <;> simp_all
  subst hm;simp only [BB, EP, T0, FM]
  cases hq : elD P t with
  | none => simp [OptP]
  | some e =>
   obtain ⟨k, B, z⟩ := e;by_cases hl : n * k <= 16777216
   ·cases hf : Ga (fun i => some (i * k, k)) (List.replicate n z).flatten (ps.toList.map fun p => (p.1, ρ p.2)) <;> simp [hl, hf, OptP]
   ·simp [hl, OptP]
 | load t x => rfl
 | nilCheck x => rfl
 | makeInterface t x => rfl
 | binOp op t x y u => rfl
 | unOp op t x => rfl
 | convert s d x =>
  simp only [BB, EP]
  cases hd : slD P d with
  | none => rfl
  | some e =>
   cases hx : ρ x with
   | str q =>
    simp only [TP, hd];by_cases h1 : stD P s = true /\ kiD P e = some .u8
    ·have hm : m = 0 := by
      have hs : slD P s = none := by simp [slD, Dm h1.1]
      simp only [EH, hs] at hc;by_cases h0 : m = 0
      ·exact h0
      ·simp [h0] at hc
     subst hm;rw [if_pos h1, OptP_some];exact ⟨fun h => h.2.2.2 (by decide), fun h => ⟨h1.1, h1.2, fun h0 => absurd h0 (by decide), fun _ => h⟩⟩
    ·rw [if_neg h1, OptP_none];exact ⟨fun h => h1 ⟨h.1, h.2.1⟩, fun h => h.elim⟩
   | msl k id off n =>
    have h5 : m ≠ 5 := by
     intro h5;subst h5;simp only [EH] at hc;split at hc <;> simp at hc
    simp only [if_neg h5]
   | _ => rfl
 | makeFunc f a b => simp [BB, EP, OptP]
 | makeSlice t l c =>
  have hm : m = 0 := by simp only [EH] at hc; by_cases h : m = 0 <;> simp_all
  subst hm;simp only [BB, EP, PQ, FM];split
  ·rename_i k B z kl l' kc c' he h1 h2;simp only [he, h1, h2];by_cases hl : 0 <= l' /\ l' <= c' /\ c' * B <= 140737488355328 /\ c' <= 140737488355328
   ·rw [if_pos hl, OptP_some];exact ⟨fun h => h.2.2.2.2, fun h => ⟨hl.1, hl.2.1, hl.2.2.1, hl.2.2.2, h⟩⟩
   ·rw [if_neg hl, OptP_none];exact ⟨fun h => hl ⟨h.1, h.2.1, h.2.2.1, h.2.2.2.1⟩, False.elim⟩
  ·simp [OptP]
 | slice t x lo hi mx => cases mx with
  | none => rfl
  | some m => simp [EH] at hc
 | fieldAddr t x f => rfl
 | field t x f => rfl
 | indexAddr t x i => rfl
 | index t x i => rfl
 | lookup t x i b => rfl
 | extract t i => rfl
 | call c =>
  obtain ⟨callee, args, ats⟩ := c
  cases callee with
  | builtin b =>
   simp only [BB, EP, ES];simp only [EH] at hc;split at hc
   ·rename_i t ht;simp only [ht]
    cases hl : args.toList.map ρ with
    | nil => simp [L9]
    | cons x xs => cases xs with
     | nil => rfl
     | cons y ys => simp [L9]
   ·cases ats.toList <;> rfl
   ·cases ats.toList <;> rfl
   ·cases ats.toList <;> rfl
   ·cases ats.toList <;> rfl
   ·cases ats.toList <;> rfl
   ·exact absurd rfl hc
  | value f =>
   cases f with
   | func g =>
    simp only [BB, EP, hρ, List.nil_append, List.append_nil];simp only [EH] at hc
    cases hq : Γ g with
    | none => simp [hq] at hc
    | some F => rfl
   | _ => simp [EH] at hc
  | invoke r n => simp [EH] at hc
 | _ => simp [EH] at hc
theorem Of {h h' : Heap} {n : Nat} {t : TypeId} {x y : D} (hf : Js P t = true) : eqD P h n t x y = eqD P h' n t x y := by
 have nptr : ptD P t = none := by
  unfold Js at hf;unfold ptD;simp only [Bool.or_eq_true] at hf;rcases hf with (((hf | hf) | hf) | hf) | hf
  ·obtain ⟨k, hk⟩ := Option.isSome_iff_exists.1 hf; simp [EM hk]
  ·simp [Dm hf]
  ·simp [LJ hf]
  ·obtain ⟨k, hk⟩ := Option.isSome_iff_exists.1 hf; simp [J0 hk]
  ·obtain ⟨k, hk⟩ := Option.isSome_iff_exists.1 hf; simp [Pf hk]
 have nstr : sfD P t = none := by
  unfold Js at hf;unfold sfD;simp only [Bool.or_eq_true] at hf;rcases hf with (((hf | hf) | hf) | hf) | hf
  ·obtain ⟨k, hk⟩ := Option.isSome_iff_exists.1 hf; simp [EM hk]
  ·simp [Dm hf]
  ·simp [LJ hf]
  ·obtain ⟨k, hk⟩ := Option.isSome_iff_exists.1 hf; simp [J0 hk]
  ·obtain ⟨k, hk⟩ := Option.isSome_iff_exists.1 hf; simp [Pf hk]
 cases n with
 | zero => rfl
 | succ n => cases x <;> cases y <;> simp [eqD, nptr, nstr]
set_option maxHeartbeats 2000000 in
theorem QL {m : Nat} {op : Op} {ρ : Operand -> D} {h h' : Heap} (hc : EH P Γ m op = 0) : EP P Γ m op ρ h = EP P Γ m op ρ h' := by
 cases op with
 | load t x =>
  have hm : m = 3 := by simp only [EH] at hc; by_cases h : m = 3 <;> simp_all
  subst hm; rfl
 | lookup t x i b => simp [EH] at hc
 | binOp op t x y u =>
  simp only [EP];have hb : op = .eql \/ op = .neq -> Js P t = true := by
   intro ho;rcases ho with rfl | rfl <;> simp only [EH] at hc <;> (by_cases hf : Js P t = true <;> simp_all)
  cases hx : ρ x <;> cases hy : ρ y <;> cases op <;> simp only [FW, Ex] <;> first
   | rfl
   | (rw [Of (h := h) (h' := h') (hb (.inl rfl))])
   | (rw [Of (h := h) (h' := h') (hb (.inr rfl))])
 | convert s d x =>
  simp only [EP];have hs : slD P s = none := by
   simp only [EH] at hc
   cases hq : slD P s with
   | none => rfl
   | some e =>
    simp only [hq, Option.isSome_some, if_true] at hc;split at hc <;> simp at hc
  split
  ·rfl
  ·cases hx : ρ x <;> simp [Hl, hs]
 | slice t x lo hi mx => cases mx <;> rfl
 | call c =>
  obtain ⟨callee, args, ats⟩ := c
  cases callee with
  | builtin b =>
   simp only [EP];simp only [EH] at hc;split at hc
   ·rename_i t ht;have hm : maD P t = none := by
     cases hq : maD P t with
     | none => rfl
     | some e => simp [hq] at hc
    have hmu : ∀ k e, P.underlying t ≠ some (.map k e) := fun k e he => by simp [maD, he] at hm
    simp only [ht]
    cases hl : args.toList.map ρ with
    | nil => rfl
    | cons x xs => cases xs with
     | nil =>
      cases x <;> simp only [NB] <;> first
       | rfl
       | (cases hu : P.underlying t with
         | none => rfl
         | some ty => cases ty <;> first | rfl | exact absurd hu (hmu _ _))
     | cons y ys => rfl
   ·cases ats.toList <;> rfl
   ·cases ats.toList <;> rfl
   ·cases ats.toList <;> rfl
   ·cases ats.toList <;> rfl
   ·cases ats.toList <;> rfl
   ·exact absurd hc (by decide)
  | value f => cases f <;> rfl
  | invoke r n => rfl
 | _ => rfl
theorem Pz {m : Nat} {op : Op} {ρ ρ' : Operand -> D} {h : Heap} {R : D -> Heap -> Prop} (hρ : ∀ x ∈ op.operands, ρ x = ρ' x) : BB P Γ m op ρ h R = BB P Γ m op ρ' h R := by
 have arr : ∀ (l : Array Operand), (∀ x ∈ l, ρ x = ρ' x) -> l.toList.map ρ = l.toList.map ρ' := fun l hl => List.map_congr_left fun x hx => hl x (by simpa using hx);have prt : ∀ (ps : Array (Nat × Operand)), (∀ x ∈ (ps.toList.map (·.2)).toArray, ρ x = ρ' x) -> (ps.toList.map fun p => (p.1, ρ p.2)) = ps.toList.map fun p => (p.1, ρ' p.2) := fun ps hp =>
  List.map_congr_left fun p hpm => by rw [hp p.2 (by simp; exact ⟨p.1, by simpa using hpm⟩)]
 cases op with
 | pick c a b => simp [Op.operands] at hρ; simp only [BB, hρ]
 | build t ps => simp only [BB, prt ps hρ]
 | buildSlice t n ps => simp only [BB, prt ps hρ]
 | store t a x => simp [Op.operands] at hρ; simp only [BB, hρ]
 | binOp o t a b u => simp [Op.operands] at hρ; simp only [BB, hρ]
 | makeFunc f a b =>
  simp only [Op.operands, Array.mem_append] at hρ;simp only [BB, arr a (fun x hx => hρ x (.inl hx)), arr b (fun x hx => hρ x (.inr hx))]
 | makeSlice t l c => simp [Op.operands] at hρ; simp only [BB, hρ]
 | makeMap t r => cases r <;> rfl
 | slice t x lo hi mx =>
  cases mx with
  | some m => rfl
  | none =>
   cases lo <;> cases hi <;> simp [Op.operands] at hρ <;> simp only [BB, Option.map_none, Option.map_some, hρ]
 | indexAddr t x i => simp [Op.operands] at hρ; simp only [BB, hρ]
 | index t x i => simp [Op.operands] at hρ; simp only [BB, hρ]
 | lookup t x i b => simp [Op.operands] at hρ; simp only [BB, hρ]
 | mapUpdate t a k v => simp [Op.operands] at hρ; simp only [BB, hρ]
 | insert t a k v => simp [Op.operands] at hρ; simp only [BB, hρ]
 | mapEntry t a k => simp [Op.operands] at hρ; simp only [BB, hρ]
 | entryStore t a s v => simp [Op.operands] at hρ; simp only [BB, hρ]
 | call c =>
  obtain ⟨callee, args, ats⟩ := c;have ha : args.toList.map ρ = args.toList.map ρ' := arr args (fun x hx => hρ x (by simp only [Op.operands, Call.operands, Array.mem_append]; exact .inr hx))
  cases callee with
  | builtin b => simp only [BB, ha]
  | value f =>
   have hf : ρ f = ρ' f := hρ f (by simp [Op.operands, Call.operands]);simp only [BB, ha, hf]
  | invoke r n =>
   have hf : ρ r = ρ' r := hρ r (by simp [Op.operands, Call.operands]);simp only [BB, ha, hf]
 | load t a => simp [Op.operands] at hρ; simp only [BB, hρ]
 | move x => simp [Op.operands] at hρ; simp only [BB, hρ]
 | assign x => simp [Op.operands] at hρ; simp only [BB, hρ]
 | box t x => simp [Op.operands] at hρ; simp only [BB, hρ]
 | nilCheck x => simp [Op.operands] at hρ; simp only [BB, hρ]
 | makeInterface t x => simp [Op.operands] at hρ; simp only [BB, hρ]
 | unOp o t x => simp [Op.operands] at hρ; simp only [BB, hρ]
 | convert s d x => simp [Op.operands] at hρ; simp only [BB, hρ]
 | fieldAddr t x f => simp [Op.operands] at hρ; simp only [BB, hρ]
 | field t x f => simp [Op.operands] at hρ; simp only [BB, hρ]
 | range t x => simp [Op.operands] at hρ; simp only [BB, hρ]
 | next it b => simp [Op.operands] at hρ; simp only [BB, hρ]
 | entry it => simp [Op.operands] at hρ; simp only [BB, hρ]
 | extract t i => simp [Op.operands] at hρ; simp only [BB, hρ]
 | _ => rfl
theorem PE {m : Nat} {op : Op} {ρ ρ' : Operand -> D} {h : Heap} (hρ : ∀ x ∈ op.operands, ρ x = ρ' x) : EP P Γ m op ρ h = EP P Γ m op ρ' h := by
 have arr : ∀ (l : Array Operand), (∀ x ∈ l, ρ x = ρ' x) -> l.toList.map ρ = l.toList.map ρ' := fun l hl => List.map_congr_left fun x hx => hl x (by simpa using hx);have prt : ∀ (ps : Array (Nat × Operand)), (∀ x ∈ (ps.toList.map (·.2)).toArray, ρ x = ρ' x) -> (ps.toList.map fun p => (p.1, ρ p.2)) = ps.toList.map fun p => (p.1, ρ' p.2) := fun ps hp =>
  List.map_congr_left fun p hpm => by rw [hp p.2 (by simp; exact ⟨p.1, by simpa using hpm⟩)]
 cases op with
 | pick c a b => simp [Op.operands] at hρ; simp only [EP, hρ]
 | build t ps => simp only [EP, prt ps hρ]
 | buildSlice t n ps => simp only [EP, prt ps hρ]
 | store t a x => rfl
 | binOp o t a b u => simp [Op.operands] at hρ; simp only [EP, hρ]
 | makeFunc f a b =>
  simp only [Op.operands, Array.mem_append] at hρ;simp only [EP, arr a (fun x hx => hρ x (.inl hx)), arr b (fun x hx => hρ x (.inr hx))]
 | makeSlice t l c => simp [Op.operands] at hρ; simp only [EP, hρ]
 | makeMap t r => cases r <;> rfl
 | slice t x lo hi mx =>
  cases mx with
  | some m => rfl
  | none =>
   cases lo <;> cases hi <;> simp [Op.operands] at hρ <;> simp only [EP, Option.map_none, Option.map_some, hρ]
 | indexAddr t x i => simp [Op.operands] at hρ; simp only [EP, hρ]
 | index t x i => simp [Op.operands] at hρ; simp only [EP, hρ]
 | lookup t x i b => simp [Op.operands] at hρ; simp only [EP, hρ]
 | mapUpdate t a k v => rfl
 | insert t a k v => rfl
 | mapEntry t a k => rfl
 | entryStore t a s v => rfl
 | call c =>
  obtain ⟨callee, args, ats⟩ := c;have ha : args.toList.map ρ = args.toList.map ρ' := arr args (fun x hx => hρ x (by simp only [Op.operands, Call.operands, Array.mem_append]; exact .inr hx))
  cases callee with
  | builtin b => simp only [EP, ha]
  | value f =>
   have hf : ρ f = ρ' f := hρ f (by simp [Op.operands, Call.operands]);cases f <;> simp only [EP, ha]
  | invoke r n => rfl
 | load t a => simp [Op.operands] at hρ; simp only [EP, hρ]
 | move x => simp [Op.operands] at hρ; simp only [EP, hρ]
 | assign x => simp [Op.operands] at hρ; simp only [EP, hρ]
 | box t x => simp [Op.operands] at hρ; simp only [EP, hρ]
 | nilCheck x => simp [Op.operands] at hρ; simp only [EP, hρ]
 | makeInterface t x => simp [Op.operands] at hρ; simp only [EP, hρ]
 | unOp o t x => simp [Op.operands] at hρ; simp only [EP, hρ]
 | convert s d x => simp [Op.operands] at hρ; simp only [EP, hρ]
 | fieldAddr t x f => simp [Op.operands] at hρ; simp only [EP, hρ]
 | field t x f => simp [Op.operands] at hρ; simp only [EP, hρ]
 | range t x => rfl
 | next it b => rfl
 | extract t i => simp [Op.operands] at hρ; simp only [EP, hρ]
 | _ => rfl
end
end Go.Proofs.YtjofelloaofooaaGreatDoor
