/- What the operations on values do on the abstract machine, and that the model does the same. No condition. -/
import Derived.Laws.StructEq
import Derived.Test.YtjofelloaofooaaGreatDoorEng2
set_option linter.unusedSimpArgs false
set_option linter.unusedVariables false
namespace Go.Proofs.YtjofelloaofooaaGreatDoor
def sfD (P : Program) (t : TypeId) : Option (List (Nat × TypeId)) := match P.underlying t with
 | some (.struct fs) => if P.stoodInHeld t then none else some ((fs.toList.filter fun f => f.name ≠ "_").map fun f => (f.offset, f.type))
 | _ => none
def boD (P : Program) (t : TypeId) : Bool := (P.underlying t).any fun | .bool => true | _ => false
def maD (P : Program) (t : TypeId) : Option (TypeId × TypeId) := (P.underlying t).bind fun | .map k e => some (k, e) | _ => none
def fuD (P : Program) (t : TypeId) : Bool := (P.underlying t).any fun | .func _ _ _ => true | _ => false
def faD (P : Program) (t : TypeId) : Option FloatKind := (P.underlying t).bind fun | .float k => some k | _ => none
def cxD (P : Program) (t : TypeId) : Option FloatKind := (P.underlying t).bind fun | .complex k => some k | _ => none
def BT (f : TypeId -> D -> D -> Option Bool) (P : Program) (xs ys : List D) : List (Nat × TypeId) -> Option Bool
 | [] => some true
 | (o, t) :: r => match DR P t (xs.drop o), DR P t (ys.drop o) with
  | some a, some b => (f t a b).bind fun c => (BT f P xs ys r).map fun e => c && e
  | _, _ => none
def QU (h : Heap) (i : Nat) : Bool := match h i with
 | some (.cells _) => true
 | _ => false
def eqD (P : Program) (h : Heap) : Nat -> TypeId -> D -> D -> Option Bool
 | 0, _, _, _ => none
 | d + 1, t, x, y => match x, y with
  | .bool a, .bool b => if boD P t = true then some (a == b) else none
  | .int k a, .int k' b => if k = k' /\ (kiD P t).isSome then some (a == b) else none
  | .str a, .str b => if stD P t = true then some (a == b) else none
  | .nilp, .nilp => if (ptD P t).isSome then some true else none
  | .nilp, .ptr _ _ => if (ptD P t).isSome then some false else none
  | .nilp, .iptr _ => if (ptD P t).isSome then some false else none
  | .ptr _ _, .nilp => if (ptD P t).isSome then some false else none
  | .iptr _, .nilp => if (ptD P t).isSome then some false else none
  | .ptr i o, .ptr j p => match ptD P t with
   | some e => match szD P e with
    | some 0 => none
    | some _ => if i = j then some (o == p) else if QU h i = true /\ QU h j = true then some false else none
    | none => none
   | none => none
  | .snil, .snil => if (slD P t).isSome then some true else none
  | .snil, .sl _ es _ => if (slD P t).isSome /\ es ≠ [] then some false else none
  | .sl _ es _, .snil => if (slD P t).isSome /\ es ≠ [] then some false else none
  | .msl _ _ _ _, .snil => if (slD P t).isSome then some false else none
  | .slx _ _ _, .snil => if (slD P t).isSome then some false else none
  | .mnil, .mnil => if (maD P t).isSome then some true else none
  | .mp _, .mnil => if (maD P t).isSome then some false else none
  | .fnil, .fnil => if fuD P t = true then some true else none
  | .fn _ _ _, .fnil => if fuD P t = true then some false else none
  | .agg xs, .agg ys => match sfD P t with
   | some fs => BT (eqD P h d) P xs ys fs
   | none => none
  | _, _ => none
section
variable {P : Program} {K : Kn} {h : Heap} {w : World}
theorem LJ {t : TypeId} (hs : boD P t = true) : P.underlying t = some .bool := by
 unfold boD at hs
 cases hu : P.underlying t with
 | none => simp [hu] at hs
 | some d => rw [hu] at hs; cases d <;> simp at hs; rfl
theorem Oj {t : TypeId} (hs : fuD P t = true) : ∃ a b c, P.underlying t = some (.func a b c) := by
 unfold fuD at hs
 cases hu : P.underlying t with
 | none => simp [hu] at hs
 | some d => rw [hu] at hs; cases d <;> simp at hs; exact ⟨_, _, _, rfl⟩
theorem LI {t k e : TypeId} (hs : maD P t = some (k, e)) : P.underlying t = some (.map k e) := by
 unfold maD at hs
 cases hu : P.underlying t with
 | none => simp [hu] at hs
 | some d => rw [hu] at hs; cases d <;> simp at hs; obtain ⟨rfl, rfl⟩ := hs; rfl
theorem J0 {t : TypeId} {k : FloatKind} (hs : faD P t = some k) : P.underlying t = some (.float k) := by
 unfold faD at hs
 cases hu : P.underlying t with
 | none => simp [hu] at hs
 | some d => rw [hu] at hs; cases d <;> simp at hs; rw [hs]
theorem Pf {t : TypeId} {k : FloatKind} (hs : cxD P t = some k) : P.underlying t = some (.complex k) := by
 unfold cxD at hs
 cases hu : P.underlying t with
 | none => simp [hu] at hs
 | some d => rw [hu] at hs; cases d <;> simp at hs; rw [hs]
theorem EW {f : TypeId -> D -> D -> Option Bool} {d : Nat} {X Y : Array Value} {xs ys : List D} (hX : AR K X xs) (hY : AR K Y ys)
  (hf : ∀ t x y b u v, f t x y = some b -> VR K u x -> VR K v y -> (Op.equalIn d t u v).run P w = .ok b w) :
  ∀ (l : List Field) (b : Bool), BT f P xs ys ((l.filter fun f => f.name ≠ "_").map fun f => (f.offset, f.type)) = some b -> (Op.eqFields d X Y l).run P w = .ok b w
 | [], b, hb => by simp [BT] at hb; subst hb; simp [Op.eqFields]
 | g :: l, b, hb => by
  by_cases hn : g.name = "_"
  ·simp [hn] at hb;have := EW hX hY hf l b (by simpa using hb);simp [Op.eqFields, hn, this]
  ·simp [hn, BT] at hb;split at hb
   ·rename_i a c ha hc
    cases hfa : f g.type a c with
    | none => simp [hfa] at hb
    | some e1 =>
     cases hr : BT f P xs ys (l.filter (fun f => !decide (f.name = "_")) |>.map fun f => (f.offset, f.type)) with
     | none => simp [hfa, hr] at hb
     | some e2 =>
      simp [hfa, hr] at hb;obtain ⟨u, hu, hur⟩ := GA (P := P) (w := w) hX ha;obtain ⟨v, hv, hvr⟩ := GA (P := P) (w := w) hY hc;have h1 := hf _ _ _ _ _ _ hfa hur hvr;have h2 := EW hX hY hf l e2 (by simpa using hr);subst hb;simp only [Op.eqFields, hn, ne_eq, not_false_eq_true, if_true, Sem.run_bind, hu, hv, h1, Result.andThen_ok];cases e1 <;> simp [h2]
   ·simp at hb
set_option maxHeartbeats 2000000 in
theorem Il (H : HR K h w) : ∀ (d : Nat) (t : TypeId) (x y : D) (b : Bool) (u v : Value), eqD P h d t x y = some b -> VR K u x -> VR K v y -> (Op.equalIn d t u v).run P w = .ok b w
 | 0, _, _, _, _, _, _, hb, _, _ => by simp [eqD] at hb
 | d + 1, t, x, y, b, u, v, hb, hu, hv => by
  unfold eqD at hb;split at hb
  ·split at hb <;> simp at hb
   rename_i hc; cases hu; cases hv;subst hb;simp [Op.equalIn, run_underlying (LJ hc)]
  ·split at hb <;> simp at hb
   rename_i hc;obtain ⟨rfl, hk⟩ := hc;obtain ⟨k2, hk2⟩ := Option.isSome_iff_exists.1 hk;cases hu; cases hv;subst hb;simp [Op.equalIn, run_underlying (EM hk2)]
  ·split at hb <;> simp at hb
   rename_i hc; cases hu; cases hv;subst hb;simp [Op.equalIn, run_underlying (Dm hc), beq_toListBytes]
  ·split at hb <;> simp at hb
   rename_i hc;obtain ⟨e, he⟩ := Option.isSome_iff_exists.1 hc;cases hu; cases hv;subst hb;simp [Op.equalIn, run_underlying (GY he)]
  ·split at hb <;> simp at hb
   rename_i hc;obtain ⟨e, he⟩ := Option.isSome_iff_exists.1 hc;cases hu; cases hv;subst hb;simp [Op.equalIn, run_underlying (GY he)]
  ·split at hb <;> simp at hb
   rename_i hc;obtain ⟨e, he⟩ := Option.isSome_iff_exists.1 hc;cases hu; cases hv;subst hb;simp [Op.equalIn, run_underlying (GY he)]
  ·split at hb <;> simp at hb
   rename_i hc;obtain ⟨e, he⟩ := Option.isSome_iff_exists.1 hc;cases hu; cases hv;subst hb;simp [Op.equalIn, run_underlying (GY he)]
  ·split at hb <;> simp at hb
   rename_i hc;obtain ⟨e, he⟩ := Option.isSome_iff_exists.1 hc;cases hu; cases hv;subst hb;simp [Op.equalIn, run_underlying (GY he)]
  ·rename_i i o j p;split at hb
   ·rename_i e he;split at hb
    ·simp at hb
    ·rename_i n hn hs;have hn0 : n ≠ 0 := fun x => hn x;cases hu; cases hv;split at hb
     ·rename_i hij;subst hij;injection hb with hb; subst hb
      have hbq : ((⟨K.io i, o, none⟩ : Addr) == ⟨K.io i, p, none⟩) = (o == p) := by rw [Bool.eq_iff_iff]; simp
      simp [Op.equalIn, run_underlying (GY he), AJ hs, hn0, sameAddr, hbq]
     ·rename_i hij;split at hb
      ·rename_i hl;injection hb with hb; subst hb
       obtain ⟨hli, hlj⟩ := hl;have get : ∀ i, QU h i = true -> ∃ cs, h i = some (.cells cs) := fun i hi => by
        unfold QU at hi; split at hi <;> first | exact ⟨_, by assumption⟩ | simp at hi
       obtain ⟨ci, hci⟩ := get i hli;obtain ⟨cj, hcj⟩ := get j hlj;have hne : K.io i ≠ K.io j := fun e => H.sep i j _ _ hij hci hcj (K.io i) 0 rfl (by simp [own, e]);have shape_of : ∀ i cs, h i = some (.cells cs) -> (∃ s, w.shape? (K.io i) = some s) /\ ∀ o, w.frozen? ⟨K.io i, o, none⟩ = false := fun i cs hi => (H.ok i _ hi).2.2;obtain ⟨⟨si, hsi⟩, fi⟩ := shape_of i ci hci;obtain ⟨⟨sj, hsj⟩, fj⟩ := shape_of j cj hcj;simp [Op.equalIn, run_underlying (GY he), AJ hs, hn0, sameAddr, hne, fi, fj, noView, viewAt, hsi, hsj, mayBeOne, stringish]
      ·simp at hb
    ·simp at hb
   ·simp at hb
  ·split at hb <;> simp at hb
   rename_i hc;obtain ⟨e, he⟩ := Option.isSome_iff_exists.1 hc;cases hu; cases hv;subst hb;simp [Op.equalIn, run_underlying (Bl he)]
  ·split at hb <;> simp at hb
   rename_i hc;obtain ⟨hc, hne⟩ := hc;obtain ⟨e, he⟩ := Option.isSome_iff_exists.1 hc;subst hb;cases hu <;> cases hv
   all_goals first
    | (simp at hne; done)
    | simp [Op.equalIn, run_underlying (Bl he)]
  ·split at hb <;> simp at hb
   rename_i hc;obtain ⟨hc, hne⟩ := hc;obtain ⟨e, he⟩ := Option.isSome_iff_exists.1 hc;subst hb;cases hu <;> cases hv
   all_goals first
    | (simp at hne; done)
    | simp [Op.equalIn, run_underlying (Bl he)]
  ·split at hb <;> simp at hb
   rename_i hc;obtain ⟨e, he⟩ := Option.isSome_iff_exists.1 hc;cases hu; cases hv;subst hb;simp [Op.equalIn, run_underlying (Bl he)]
  ·split at hb <;> simp at hb
   rename_i hc;obtain ⟨e, he⟩ := Option.isSome_iff_exists.1 hc;cases hu <;> cases hv
   all_goals subst hb; simp [Op.equalIn, run_underlying (Bl he)]
  ·split at hb <;> simp at hb
   rename_i hc;obtain ⟨⟨e1, e2⟩, he⟩ := Option.isSome_iff_exists.1 hc;cases hu; cases hv;subst hb;simp [Op.equalIn, run_underlying (LI he)]
  ·split at hb <;> simp at hb
   rename_i hc;obtain ⟨⟨e1, e2⟩, he⟩ := Option.isSome_iff_exists.1 hc;cases hu; cases hv;subst hb;simp [Op.equalIn, run_underlying (LI he)]
  ·split at hb <;> simp at hb
   rename_i hc;obtain ⟨a1, a2, a3, he⟩ := Oj hc;cases hu; cases hv;subst hb;simp [Op.equalIn, run_underlying he]
  ·split at hb <;> simp at hb
   rename_i hc;obtain ⟨a1, a2, a3, he⟩ := Oj hc;cases hu; cases hv;subst hb;simp [Op.equalIn, run_underlying he]
  ·rename_i xs ys;split at hb
   ·rename_i fs hfs;obtain ⟨X, rfl, hX⟩ := AR.of_agg hu;obtain ⟨Y, rfl, hY⟩ := AR.of_agg hv;unfold sfD at hfs;split at hfs
    ·rename_i fds hund;split at hfs
     ·simp at hfs
     ·rename_i hst;injection hfs with hfs; subst hfs
      have hfo : P.fieldsOf t = fds := by simp [Program.fieldsOf, hund]
      rw [run_equalIn_struct w d t X Y (by rw [hfo]; exact hund) (by simpa using hst), hfo];exact EW hX hY (fun t x y b u v h1 h2 h3 => Il H d t x y b u v h1 h2 h3) _ _ hb
    ·simp at hfs
   ·simp at hb
  ·simp at hb
end
def DW (op : BinOp) (k : IntKind) (a b : Int) : Option D :=
 match op with
 | .add => some (.int k (k.wrap (a + b)))
 | .sub => some (.int k (k.wrap (a - b)))
 | .mul => some (.int k (k.wrap (a * b)))
 | .quo => if b = 0 then none else some (.int k (k.wrap (a.tdiv b)))
 | .rem => if b = 0 then none else some (.int k (a.tmod b))
 | .and => some (.int k (k.wrap (BitVec.ofInt k.bits a &&& BitVec.ofInt k.bits b).toNat))
 | .or => some (.int k (k.wrap (BitVec.ofInt k.bits a ||| BitVec.ofInt k.bits b).toNat))
 | .xor => some (.int k (k.wrap (BitVec.ofInt k.bits a ^^^ BitVec.ofInt k.bits b).toNat))
 | .andNot => some (.int k (k.wrap (BitVec.ofInt k.bits a &&& ~~~(BitVec.ofInt k.bits b)).toNat))
 | .eql => some (.bool (a == b))
 | .neq => some (.bool (a != b))
 | .lss => some (.bool (decide (a < b)))
 | .leq => some (.bool (decide (a <= b)))
 | .gtr => some (.bool (decide (b < a)))
 | .geq => some (.bool (decide (b <= a)))
 | _ => none
def Fj (op : BinOp) (a b : List By8) : Option D :=
 match op with
 | .add => if a.length + b.length <= 9223372036854775807 then some (.str (a ++ b)) else none
 | .eql => some (.bool (a == b))
 | .neq => some (.bool (!(a == b)))
 | .lss => some (.bool (Op.bytesLess a b))
 | .leq => some (.bool (Op.bytesLess a b || a == b))
 | .gtr => some (.bool (!(Op.bytesLess a b || a == b)))
 | .geq => some (.bool (!Op.bytesLess a b))
 | _ => none
def EX (op : BinOp) (k : FloatKind) (a b : Nat) : Option D :=
 match op with
 | .add => (k.format.add a b).map (.float k)
 | .sub => (k.format.sub a b).map (.float k)
 | .mul => (k.format.mul a b).map (.float k)
 | .quo => (k.format.div a b).map (.float k)
 | .eql => some (.bool (k.format.order a b == some .eq))
 | .neq => some (.bool (k.format.order a b != some .eq))
 | .lss => some (.bool (k.format.order a b == some .lt))
 | .leq => some (.bool (k.format.order a b == some .lt || k.format.order a b == some .eq))
 | .gtr => some (.bool (k.format.order a b == some .gt))
 | .geq => some (.bool (k.format.order a b == some .gt || k.format.order a b == some .eq))
 | _ => none
def FE (op : BinOp) (k : FloatKind) (a b c d : Nat) : Option D :=
 match op with
 | .add => (k.format.add a c).bind fun r => (k.format.add b d).map fun s => .cplx k r s
 | .sub => (k.format.sub a c).bind fun r => (k.format.sub b d).map fun s => .cplx k r s
 | .mul => match k with
  | .f64 => (FloatKind.f64.format.mul a c).bind fun r => (FloatKind.f64.format.mul b d).bind fun s => (FloatKind.f64.format.mul a d).bind fun u => (FloatKind.f64.format.mul b c).bind fun v =>
   (FloatKind.f64.format.sub r s).bind fun x => (FloatKind.f64.format.add u v).map fun y => .cplx .f64 x y
  | _ => none
 | .eql => some (.bool (k.format.order a c == some .eq && k.format.order b d == some .eq))
 | .neq => some (.bool (!(k.format.order a c == some .eq && k.format.order b d == some .eq)))
 | _ => none
def HD (P : Program) (t : TypeId) (x : D) : Bool := match x with
 | .agg _ => !P.eqGuardType P.depth t
 | .tup _ | .any | .inil => false
 | _ => true
def Ex (P : Program) (h : Heap) (op : BinOp) (t : TypeId) (x y : D) : Option D :=
 match x, y with
 | .int k a, .int k' b => match op with
  | .shl => if b < 0 then none else some (.int k (k.wrap (a * 2 ^ (min b.toNat k.bits))))
  | .shr => if b < 0 then none else some (.int k (a.fdiv (2 ^ (min b.toNat k.bits))))
  | op => if k = k' then DW op k a b else none
 | .str a, .str b => Fj op a b
 | .float k a, .float k' b => if k = k' then EX op k a b else none
 | .cplx k a b, .cplx k' c d => if k = k' then FE op k a b c d else none
 | x, y => match op with
  | .eql => if HD P t x = true then (eqD P h 10000 t x y).map .bool else none
  | .neq => if HD P t x = true then (eqD P h 10000 t x y).map fun b => .bool (!b) else none
  | _ => none
section
variable {P : Program} {K : Kn} {h : Heap} {w : World}
theorem Says.int {s : Sem Value} {k : IntKind} {n : Int} (h : s.run P w = .ok (.int k n) w) : Says P K w s (.int k n) := ⟨_, h, .int _ _⟩
theorem Says.bool {s : Sem Value} {b : Bool} (h : s.run P w = .ok (.bool b) w) : Says P K w s (.bool b) := ⟨_, h, .bool _⟩
theorem Says.float {s : Sem Value} {k : FloatKind} {n : Nat} (h : s.run P w = .ok (.float k n) w) : Says P K w s (.float k n) := ⟨_, h, .float _ _⟩
theorem Says.str {s : Sem Value} {l : List By8} (h : s.run P w = .ok (.string ⟨l.toArray⟩) w) : Says P K w s (.str l) := ⟨_, h, .str _⟩
theorem JH {op : BinOp} {t : TypeId} {k : IntKind} {a b : Int} {e : D} (hs : op ≠ .shl /\ op ≠ .shr) (hb : DW op k a b = some e) : Says P K w (binOp op t (.int k a) (.int k b)) e := by
 cases op with
 | add => injection hb with hb; subst hb; exact Says.int (by rw [binOp_add]; rfl)
 | sub => injection hb with hb; subst hb; exact Says.int (by rw [binOp_sub]; rfl)
 | mul => injection hb with hb; subst hb; exact Says.int (by rw [binOp_mul]; rfl)
 | quo =>
  simp only [DW] at hb;split at hb
  ·simp at hb
  ·rename_i h0; injection hb with hb; subst hb; exact Says.int (by rw [binOp_quo]; simp [Op.intDiv, h0])
 | rem =>
  simp only [DW] at hb;split at hb
  ·simp at hb
  ·rename_i h0; injection hb with hb; subst hb; exact Says.int (by rw [binOp_rem]; simp [Op.intDiv, h0])
 | and => injection hb with hb; subst hb; exact Says.int (by rw [binOp_and]; rfl)
 | or => injection hb with hb; subst hb; exact Says.int (by rw [binOp_or]; rfl)
 | xor => injection hb with hb; subst hb; exact Says.int (by rw [binOp_xor]; rfl)
 | andNot => injection hb with hb; subst hb; exact Says.int (by rw [binOp_andNot]; rfl)
 | eql => injection hb with hb; subst hb; exact Says.bool (by rw [binOp_eql]; rfl)
 | neq => injection hb with hb; subst hb; exact Says.bool (by rw [binOp_neq]; rfl)
 | lss => injection hb with hb; subst hb; exact Says.bool (by rw [binOp_lss]; rfl)
 | leq => injection hb with hb; subst hb; exact Says.bool (by rw [binOp_leq]; rfl)
 | gtr => injection hb with hb; subst hb; exact Says.bool (by rw [binOp_gtr]; rfl)
 | geq => injection hb with hb; subst hb; exact Says.bool (by rw [binOp_geq]; rfl)
 | _ => simp [DW] at hb
theorem JZ {op : BinOp} {t : TypeId} {a b : List By8} {e : D} (hb : Fj op a b = some e) : Says P K w (binOp op t (.string ⟨a.toArray⟩) (.string ⟨b.toArray⟩)) e := by
 have ha : (⟨a.toArray⟩ : ByteArray).size = a.length := by simp [ByteArray.size]
 have hbz : (⟨b.toArray⟩ : ByteArray).size = b.length := by simp [ByteArray.size]
 cases op with
 | add =>
  simp only [Fj] at hb;split at hb
  ·rename_i h0;injection hb with hb; subst hb
   refine Says.str ?_;have hx : ¬ (9223372036854775807 < ((a.length : Int) + (b.length : Int))) := by omega
   have hap : (⟨a.toArray⟩ : ByteArray) ++ ⟨b.toArray⟩ = ⟨(a ++ b).toArray⟩ := by apply ByteArray.ext; simp
   simp [binOp, Op.stringOp, ha, hbz, hx, hap]
  ·simp at hb
 | eql => injection hb with hb; subst hb; exact Says.bool (by simp [binOp, Op.stringOp])
 | neq => injection hb with hb; subst hb; exact Says.bool (by simp [binOp, Op.stringOp])
 | lss => injection hb with hb; subst hb; exact Says.bool (by simp [binOp, Op.stringOp])
 | leq => injection hb with hb; subst hb; exact Says.bool (by simp [binOp, Op.stringOp])
 | gtr => injection hb with hb; subst hb; exact Says.bool (by simp [binOp, Op.stringOp])
 | geq => injection hb with hb; subst hb; exact Says.bool (by simp [binOp, Op.stringOp])
 | _ => simp [Fj] at hb
theorem Ip {op : BinOp} {t : TypeId} {k : FloatKind} {a b : Nat} {e : D} (hb : EX op k a b = some e) : Says P K w (binOp op t (.float k a) (.float k b)) e := by
 cases op with
 | add => simp only [EX, Option.map_eq_some_iff] at hb; obtain ⟨r, hr, rfl⟩ := hb; exact Says.float (by simp [binOp, Op.floatArith, hr])
 | sub => simp only [EX, Option.map_eq_some_iff] at hb; obtain ⟨r, hr, rfl⟩ := hb; exact Says.float (by simp [binOp, Op.floatArith, hr])
 | mul => simp only [EX, Option.map_eq_some_iff] at hb; obtain ⟨r, hr, rfl⟩ := hb; exact Says.float (by simp [binOp, Op.floatArith, hr])
 | quo => simp only [EX, Option.map_eq_some_iff] at hb; obtain ⟨r, hr, rfl⟩ := hb; exact Says.float (by simp [binOp, Op.floatArith, hr])
 | eql => injection hb with hb; subst hb; exact Says.bool (by simp [binOp, Op.floatCmp])
 | neq => injection hb with hb; subst hb; exact Says.bool (by simp [binOp, Op.floatCmp])
 | lss => injection hb with hb; subst hb; exact Says.bool (by simp [binOp, Op.floatCmp])
 | leq => injection hb with hb; subst hb; exact Says.bool (by simp [binOp, Op.floatCmp])
 | gtr => injection hb with hb; subst hb; exact Says.bool (by simp [binOp, Op.floatCmp])
 | geq => injection hb with hb; subst hb; exact Says.bool (by simp [binOp, Op.floatCmp])
 | _ => simp [EX] at hb
theorem IK {k : FloatKind} {x y r : Nat} (h : k.format.add x y = some r) : (Op.Complex.arith .add k x y).run P w = .ok r w := by simp [Op.Complex.arith, Op.floatArith, h]
theorem IG {k : FloatKind} {x y r : Nat} (h : k.format.sub x y = some r) : (Op.Complex.arith .sub k x y).run P w = .ok r w := by simp [Op.Complex.arith, Op.floatArith, h]
theorem Hr {k : FloatKind} {x y r : Nat} (h : k.format.mul x y = some r) : (Op.Complex.arith .mul k x y).run P w = .ok r w := by simp [Op.Complex.arith, Op.floatArith, h]
theorem Says.cplx {s : Sem Value} {k : FloatKind} {a b : Nat} (h : s.run P w = .ok (.complex k a b) w) : Says P K w s (.cplx k a b) := ⟨_, h, .cplx _ _ _⟩
theorem I9 {op : BinOp} {t : TypeId} {k : FloatKind} {a b c d : Nat} {e : D} (hb : FE op k a b c d = some e) : Says P K w (binOp op t (.complex k a b) (.complex k c d)) e := by
 cases op with
 | add =>
  simp only [FE, Option.bind_eq_some_iff, Option.map_eq_some_iff] at hb;obtain ⟨r, hr, s, hs, rfl⟩ := hb;exact Says.cplx (by simp [binOp, Op.complexOp, IK hr, IK hs])
 | sub =>
  simp only [FE, Option.bind_eq_some_iff, Option.map_eq_some_iff] at hb;obtain ⟨r, hr, s, hs, rfl⟩ := hb;exact Says.cplx (by simp [binOp, Op.complexOp, IG hr, IG hs])
 | mul =>
  cases k with
  | f64 =>
   simp only [FE, Option.bind_eq_some_iff, Option.map_eq_some_iff] at hb;obtain ⟨r, hr, s, hs, u, hu, v, hv, x, hx, y, hy, rfl⟩ := hb;exact Says.cplx (by simp [binOp, Op.complexOp, Op.Complex.conv, Op.Complex.product, Op.Complex.mul, Op.Complex.sub, Op.Complex.add, Hr hr, Hr hs, Hr hu, Hr hv, IG hx, IK hy])
  | _ => simp [FE] at hb
 | eql => injection hb with hb; subst hb; exact Says.bool (by simp [binOp, Op.complexOp, Op.Complex.cmp, Op.floatCmp, asBool]; try (split <;> simp_all))
 | neq => injection hb with hb; subst hb; exact Says.bool (by simp [binOp, Op.complexOp, Op.Complex.cmp, Op.floatCmp, asBool]; try (split <;> simp_all))
 | _ => simp [FE] at hb
theorem G6 {op : BinOp} {t : TypeId} {x y : Operand} {u v : Value} {d : D} (hu : VR K u d) (hq : HD P t d = true) : (eqGuard op t x y u v).run P w = .ok () w := by
 cases hu <;> simp [HD] at hq <;> cases op <;> cases v <;> simp [eqGuard, hq]
theorem HW {t : TypeId} {u v : Value} {x y : D} (hx : VR K u x) (hy : VR K v y) (h1 : ∀ k a k' b, ¬ (x = .int k a /\ y = .int k' b)) (h2 : ∀ a b, ¬ (x = .str a /\ y = .str b)) (h3 : ∀ k a k' b, ¬ (x = .float k a /\ y = .float k' b)) (h4 : x ≠ .any) (h5 : y ≠ .any)
  (h6 : ∀ k a b k' c d, ¬ (x = .cplx k a b /\ y = .cplx k' c d)) :
  binOp .eql t u v = (do pure (.bool (<- Op.equal t u v))) /\ binOp .neq t u v = (do pure (.bool (!(<- Op.equal t u v)))) := by
 cases hx <;> cases hy <;> first
  | (exact ⟨rfl, rfl⟩)
  | (exact absurd rfl h4)
  | (exact absurd rfl h5)
  | (exact absurd ⟨rfl, rfl⟩ (h1 _ _ _ _))
  | (exact absurd ⟨rfl, rfl⟩ (h2 _ _))
  | (exact absurd ⟨rfl, rfl⟩ (h3 _ _ _ _))
  | (exact absurd ⟨rfl, rfl⟩ (h6 _ _ _ _ _ _))
theorem In {d : Nat} {t : TypeId} {x y : D} {b : Bool} (he : eqD P h d t x y = some b) : x ≠ .any /\ y ≠ .any /\ (∀ k a c k' u v, ¬ (x = .cplx k a c /\ y = .cplx k' u v)) := by
 cases d with
 | zero => simp [eqD] at he
 | succ d =>
  refine ⟨fun e => ?_, fun e => ?_, fun k a c k' u v e => ?_⟩
  ·subst e; simp [eqD] at he
  ·subst e; cases x <;> simp [eqD] at he
  ·obtain ⟨rfl, rfl⟩ := e; simp [eqD] at he
theorem NL (H : HR K h w) {op : BinOp} {t : TypeId} {x y e : D} {p q : Operand} {u v : Value} (hu : VR K u x) (hv : VR K v y) (hb : Ex P h op t x y = some e) :
  Says P K w (do eqGuard op t p q u v; binOp op t u v) e := by
 unfold Ex at hb;split at hb
 ·rename_i k a k' b;cases hu; cases hv;have hg : ∀ op, (eqGuard op t p q (.int k a) (.int k' b) : Sem Unit) = pure () := fun op => by cases op <;> rfl
  split at hb
  ·split at hb <;> simp at hb
   subst hb;rename_i hb0;exact Says.int (by simp [hg, binOp, Op.shift, hb0])
  ·split at hb <;> simp at hb
   subst hb;rename_i hb0;exact Says.int (by simp [hg, binOp, Op.shift, hb0])
  ·rename_i h1 h2;split at hb
   ·rename_i hk; subst hk;obtain ⟨r, hr, hrr⟩ := JH (P := P) (K := K) (w := w) (t := t) ⟨fun e => h1 e, fun e => h2 e⟩ hb;exact ⟨r, by simp [hg, hr], hrr⟩
   ·simp at hb
 ·cases hu; cases hv;rename_i a b;have hg : ∀ op, (eqGuard op t p q (.string ⟨a.toArray⟩) (.string ⟨b.toArray⟩) : Sem Unit) = pure () := fun op => by cases op <;> rfl
  obtain ⟨r, hr, hrr⟩ := JZ (P := P) (K := K) (w := w) (t := t) hb;exact ⟨r, by simp [hg, hr], hrr⟩
 ·rename_i k a k' b;cases hu; cases hv;have hg : ∀ op, (eqGuard op t p q (.float k a) (.float k' b) : Sem Unit) = pure () := fun op => by cases op <;> rfl
  split at hb
  ·rename_i hk; subst hk;obtain ⟨r, hr, hrr⟩ := Ip (P := P) (K := K) (w := w) (t := t) hb;exact ⟨r, by simp [hg, hr], hrr⟩
  ·simp at hb
 ·rename_i k a b k' c d;cases hu; cases hv;have hg : ∀ op, (eqGuard op t p q (.complex k a b) (.complex k' c d) : Sem Unit) = pure () := fun op => by cases op <;> rfl
  split at hb
  ·rename_i hk; subst hk;obtain ⟨r, hr, hrr⟩ := I9 (P := P) (K := K) (w := w) (t := t) hb;exact ⟨r, by simp [hg, hr], hrr⟩
  ·simp at hb
 ·rename_i n1 n2 n3 n4;split at hb
  ·split at hb
   ·rename_i hq
    cases he : eqD P h 10000 t x y with
    | none => simp [he] at hb
    | some b =>
     simp [he] at hb;subst hb;obtain ⟨a1, a2, a3⟩ := In he;have hbo := (HW (t := t) hu hv (fun k a k' b e => n1 k a k' b e.1 e.2) (fun a b e => n2 a b e.1 e.2) (fun k a k' b e => n3 k a k' b e.1 e.2) a1 a2 a3).1;have hs := Il (P := P) H 10000 t x y b u v he hu hv;exact ⟨.bool b, by rw [Sem.run_bind, G6 hu hq, Result.andThen_ok, hbo]; simp [Op.equal, Op.maxDepth, hs], .bool _⟩
   ·simp at hb
  ·split at hb
   ·rename_i hq
    cases he : eqD P h 10000 t x y with
    | none => simp [he] at hb
    | some b =>
     simp [he] at hb;subst hb;obtain ⟨a1, a2, a3⟩ := In he;have hbo := (HW (t := t) hu hv (fun k a k' b e => n1 k a k' b e.1 e.2) (fun a b e => n2 a b e.1 e.2) (fun k a k' b e => n3 k a k' b e.1 e.2) a1 a2 a3).2;have hs := Il (P := P) H 10000 t x y b u v he hu hv;exact ⟨.bool (!b), by rw [Sem.run_bind, G6 hu hq, Result.andThen_ok, hbo]; simp [Op.equal, Op.maxDepth, hs], .bool _⟩
   ·simp at hb
  ·simp at hb
def Uc : Operand -> Bool
 | .const .nilIface => true
 | _ => false
def ifT (P : Program) (t : TypeId) : Bool := (P.underlying t).any fun | .interface _ => true | _ => false
theorem Ok {t : TypeId} (hs : ifT P t = true) : ∃ ms, P.underlying t = some (.interface ms) := by
 unfold ifT at hs
 cases h : P.underlying t with
 | none => simp [h] at hs
 | some d => cases d <;> simp [h] at hs; exact ⟨_, rfl⟩
def Wp (P : Program) (op : BinOp) (t : TypeId) (y : Operand) (b : Bool) : Option D := if (ifT P t && Uc y) = true then match op with
  | .eql => some (.bool b)
  | .neq => some (.bool !b)
  | _ => none
 else none
def FW (P : Program) (h : Heap) (op : BinOp) (t : TypeId) (x y : D) (q : Operand) : Option D :=
 match x with
 | .inil => Wp P op t q true
 | .ifc => Wp P op t q false
 | x => Ex P h op t x y
theorem QN {op : BinOp} {t : TypeId} {x y e : D} {q : Operand} (hb : Ex P h op t x y = some e) : FW P h op t x y q = some e := by
 cases x with
 | inil => cases op <;> cases y <;> simp [Ex, HD, eqD] at hb
 | ifc => cases op <;> cases y <;> simp [Ex, HD, eqD] at hb
 | _ => exact hb
theorem Nk {q : Operand} (h : Uc q = true) : ∃ c, q = .const c := by
 cases q with
 | const c => exact ⟨c, rfl⟩
 | _ => simp [Uc] at h
theorem Pm {q : Operand} (h : Uc q = true) : q = .const .nilIface := by
 unfold Uc at h;split at h
 ·rfl
 ·simp at h
theorem N2 {t : TypeId} {ms : Array (String × TypeId)} (hms : P.underlying t = some (.interface ms)) (d : Nat) : (Op.equalIn (d + 1) t .nilIface .nilIface).run P w = .ok true w := by
 simp [Op.equalIn, run_underlying hms]
theorem NK {t t' : TypeId} {v : Value} {ms : Array (String × TypeId)} (hms : P.underlying t = some (.interface ms)) (d : Nat) : (Op.equalIn (d + 1) t (.iface t' v) .nilIface).run P w = .ok false w := by
 simp [Op.equalIn, run_underlying hms]
theorem LZ (H : HR K h w) {op : BinOp} {t : TypeId} {x y e : D} {p q : Operand} {u v : Value} (hu : VR K u x) (hv : VR K v y) (hq : Uc q = true -> v = .nilIface) (hb : FW P h op t x y q = some e) :
  Says P K w (do eqGuard op t p q u v; binOp op t u v) e := by
 unfold FW at hb;split at hb
 ·cases hu;unfold Wp at hb;split at hb
  ·rename_i hc;rw [Bool.and_eq_true] at hc;obtain ⟨ms, hms⟩ := Ok hc.1;have hv' := hq hc.2;subst hv';obtain ⟨c, rfl⟩ := Nk hc.2;have h1 : ∀ op, (eqGuard op t p (.const c) .nilIface .nilIface).run P w = .ok () w := fun op => by cases op <;> simp [eqGuard]
   have h2 : (Op.equal t .nilIface .nilIface).run P w = .ok true w := N2 hms 9999;have e1 : binOp .eql t .nilIface .nilIface = (do pure (.bool (<- Op.equal t .nilIface .nilIface))) := rfl;have e2 : binOp .neq t .nilIface .nilIface = (do pure (.bool (!(<- Op.equal t .nilIface .nilIface)))) := rfl;split at hb <;> simp at hb <;> subst hb
   ·exact ⟨.bool true, by rw [Sem.run_bind, h1, Result.andThen_ok, e1, Sem.run_bind, h2]; rfl, .bool _⟩
   ·exact ⟨.bool false, by rw [Sem.run_bind, h1, Result.andThen_ok, e2, Sem.run_bind, h2]; rfl, .bool _⟩
  ·simp at hb
 ·cases hu;rename_i t' v';unfold Wp at hb;split at hb
  ·rename_i hc;rw [Bool.and_eq_true] at hc;obtain ⟨ms, hms⟩ := Ok hc.1;have hv' := hq hc.2;subst hv';have h1 : ∀ op, (eqGuard op t p q (.iface t' v') .nilIface).run P w = .ok () w := fun op => by cases op <;> simp [eqGuard]
   have h2 : (Op.equal t (.iface t' v') .nilIface).run P w = .ok false w := NK hms 9999;have e1 : binOp .eql t (.iface t' v') .nilIface = (do pure (.bool (<- Op.equal t (.iface t' v') .nilIface))) := rfl;have e2 : binOp .neq t (.iface t' v') .nilIface = (do pure (.bool (!(<- Op.equal t (.iface t' v') .nilIface)))) := rfl;split at hb <;> simp at hb <;> subst hb
   ·exact ⟨.bool false, by rw [Sem.run_bind, h1, Result.andThen_ok, e1, Sem.run_bind, h2]; rfl, .bool _⟩
   ·exact ⟨.bool true, by rw [Sem.run_bind, h1, Result.andThen_ok, e2, Sem.run_bind, h2]; rfl, .bool _⟩
  ·simp at hb
 ·exact NL H hu hv hb
def unD (op : UnOp) (x : D) : Option D :=
 match op, x with
 | .neg, .int k n => some (.int k (k.wrap (0 - n)))
 | .not, .bool b => some (.bool (!b))
 | .xor, .int k n => DW .xor k (if k.signed then -1 else k.max) n
 | .neg, .float k b => some (.float k (Op.negFloat k b))
 | _, _ => none
theorem Oz {op : UnOp} {x e : D} {u : Value} (hu : VR K u x) (hb : unD op x = some e) : Says P K w (Op.unary op u) e := by
 unfold unD at hb;split at hb
 ·cases hu; injection hb with hb; subst hb
  exact Says.int (by simp [Op.unary, Op.intArith])
 ·cases hu; injection hb with hb; subst hb
  exact Says.bool (by simp [Op.unary])
 ·cases hu;simp only [DW] at hb;injection hb with hb; subst hb
  exact Says.int (by rfl)
 ·cases hu; injection hb with hb; subst hb
  exact Says.float (by simp [Op.unary])
 ·simp at hb
end
end Go.Proofs.YtjofelloaofooaaGreatDoor
