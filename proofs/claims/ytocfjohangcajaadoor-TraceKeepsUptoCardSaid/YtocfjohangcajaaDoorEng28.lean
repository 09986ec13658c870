/- Floats and complex numbers in step with a plain function. No condition. -/
import Derived.Test.YtocfjohangcajaaDoorEng27
set_option linter.unusedSimpArgs false
set_option linter.unusedVariables false
namespace Go.Proofs.YtocfjohangcajaaDoor

/-! plain words: numbers of 64 bits, by their bits -/
def fadd (a b : Nat) : Option Nat := FloatKind.f64.format.add a b
def fsub (a b : Nat) : Option Nat := FloatKind.f64.format.sub a b
def fmul (a b : Nat) : Option Nat := FloatKind.f64.format.mul a b
def feq (a b : Nat) : Bool := FloatKind.f64.format.order a b == some .eq
def fne (a b : Nat) : Bool := FloatKind.f64.format.order a b != some .eq
def flt (a b : Nat) : Bool := FloatKind.f64.format.order a b == some .lt
def fle (a b : Nat) : Bool := FloatKind.f64.format.order a b == some .lt || FloatKind.f64.format.order a b == some .eq
def fgt (a b : Nat) : Bool := FloatKind.f64.format.order a b == some .gt
def fge (a b : Nat) : Bool := FloatKind.f64.format.order a b == some .gt || FloatKind.f64.format.order a b == some .eq
def fneg (a : Nat) : Nat := Op.negFloat .f64 a
def i2f (n : Int) : Nat := FloatKind.f64.nearest n
def f2i (k : IntKind) (b : Nat) : Option Int := match (FloatKind.f64.decode b).toInt .zero with
  | some n => if k.min ≤ n ∧ n ≤ k.max then some n else none
  | none => none
def cadd (x y : Nat × Nat) : Option (Nat × Nat) := (fadd x.1 y.1).bind fun r => (fadd x.2 y.2).map fun s => (r, s)
def csub (x y : Nat × Nat) : Option (Nat × Nat) := (fsub x.1 y.1).bind fun r => (fsub x.2 y.2).map fun s => (r, s)
def cmul (x y : Nat × Nat) : Option (Nat × Nat) := (fmul x.1 y.1).bind fun r => (fmul x.2 y.2).bind fun s => (fmul x.1 y.2).bind fun u => (fmul x.2 y.1).bind fun v =>
  (fsub r s).bind fun p => (fadd u v).map fun q => (p, q)
def ceq (x y : Nat × Nat) : Bool := feq x.1 y.1 && feq x.2 y.2

section
variable {P : Program} {md : Nat → Nat} {w : Bool} {ops : Array Oper} {os : List Oper} {k : St → Prop} {n : Nat} {l : List (Nat × D)} {h : Heap} {d : Nat} {t ty : TypeId} {pos : String} {af : Array Edge} {x y z : Operand}
variable {β : Type} {G : β → Prop}

theorem bin_ff {op : BinOp} {a b : Nat} : binD P h op t (.float .f64 a) (.float .f64 b) = floatBinD op .f64 a b := by
  simp only [binD, if_true]
theorem bin_cc {op : BinOp} {a b : Nat × Nat} : binD P h op t (.cplx .f64 a.1 a.2) (.cplx .f64 b.1 b.2) = cplxBinD op .f64 a.1 a.2 b.1 b.2 := by
  simp only [binD, if_true]
theorem e_feq {a b : Nat} : binD P h .eql t (.float .f64 a) (.float .f64 b) = some (.bool (feq a b)) := bin_ff
theorem e_fne {a b : Nat} : binD P h .neq t (.float .f64 a) (.float .f64 b) = some (.bool (fne a b)) := bin_ff
theorem e_flt {a b : Nat} : binD P h .lss t (.float .f64 a) (.float .f64 b) = some (.bool (flt a b)) := bin_ff
theorem e_fle {a b : Nat} : binD P h .leq t (.float .f64 a) (.float .f64 b) = some (.bool (fle a b)) := bin_ff
theorem e_fgt {a b : Nat} : binD P h .gtr t (.float .f64 a) (.float .f64 b) = some (.bool (fgt a b)) := bin_ff
theorem e_fge {a b : Nat} : binD P h .geq t (.float .f64 a) (.float .f64 b) = some (.bool (fge a b)) := bin_ff
theorem e_ceq {a b : Nat × Nat} : binD P h .eql t (.cplx .f64 a.1 a.2) (.cplx .f64 b.1 b.2) = some (.bool (ceq a b)) := bin_cc
theorem e_cne {a b : Nat × Nat} : binD P h .neq t (.cplx .f64 a.1 a.2) (.cplx .f64 b.1 b.2) = some (.bool (!ceq a b)) := bin_cc
theorem e_i2f {s : TypeId} {K : IntKind} {a : Int} (hk : kiD P t = none) (hf : faD P t = some .f64) (hs : (P.underlying s).isSome = true) : convD P h s t (.int K a) = some (.float .f64 (i2f a)) := e_cf hk hf hs

theorem bin2_f {op : BinOp} {a b : Nat} (y : Operand) : bin2D P h op t (.float .f64 a) (.float .f64 b) y = binD P h op t (.float .f64 a) (.float .f64 b) := by
  cases hb : binD P h op t (.float .f64 a) (.float .f64 b) with
  | some v => exact bin2D_of hb
  | none => simp [bin2D, hb]
theorem bin2_c {op : BinOp} {a b : Nat × Nat} (y : Operand) : bin2D P h op t (.cplx .f64 a.1 a.2) (.cplx .f64 b.1 b.2) y = binD P h op t (.cplx .f64 a.1 a.2) (.cplx .f64 b.1 b.2) := by
  cases hb : binD P h op t (.cplx .f64 a.1 a.2) (.cplx .f64 b.1 b.2) with
  | some v => exact bin2D_of hb
  | none => simp [bin2D, hb]

theorem S_fadd {u : TypeId} {a b : Nat} {f : Nat → Option β} (hx : opL n l x = .float .f64 a) (hy : opL n l y = .float .f64 b) (hF : OptP ((fadd a b).bind f) G)
    (hk : ∀ r, fadd a b = some r → OptP (f r) G → seqQ P md w ops os ⟨mkSl n ((d, .float .f64 r) :: l), h⟩ k) : seqQ P md w ops (⟨some d, .binOp .add t x y u, ty, pos, af, none⟩ :: os) ⟨mkSl n l, h⟩ k := by
  obtain ⟨r, hr, hF⟩ := F_bind hF
  exact S_bin hx hy (by rw [bin_ff]; show (fadd a b).map _ = _; rw [hr]; rfl) (hk r hr hF)
theorem S_fsub {u : TypeId} {a b : Nat} {f : Nat → Option β} (hx : opL n l x = .float .f64 a) (hy : opL n l y = .float .f64 b) (hF : OptP ((fsub a b).bind f) G)
    (hk : ∀ r, fsub a b = some r → OptP (f r) G → seqQ P md w ops os ⟨mkSl n ((d, .float .f64 r) :: l), h⟩ k) : seqQ P md w ops (⟨some d, .binOp .sub t x y u, ty, pos, af, none⟩ :: os) ⟨mkSl n l, h⟩ k := by
  obtain ⟨r, hr, hF⟩ := F_bind hF
  exact S_bin hx hy (by rw [bin_ff]; show (fsub a b).map _ = _; rw [hr]; rfl) (hk r hr hF)
theorem S_fmul {u : TypeId} {a b : Nat} {f : Nat → Option β} (hx : opL n l x = .float .f64 a) (hy : opL n l y = .float .f64 b) (hF : OptP ((fmul a b).bind f) G)
    (hk : ∀ r, fmul a b = some r → OptP (f r) G → seqQ P md w ops os ⟨mkSl n ((d, .float .f64 r) :: l), h⟩ k) : seqQ P md w ops (⟨some d, .binOp .mul t x y u, ty, pos, af, none⟩ :: os) ⟨mkSl n l, h⟩ k := by
  obtain ⟨r, hr, hF⟩ := F_bind hF
  exact S_bin hx hy (by rw [bin_ff]; show (fmul a b).map _ = _; rw [hr]; rfl) (hk r hr hF)

theorem add_spec {a b r : Nat × Nat} (h : cadd a b = some r) : fadd a.1 b.1 = some r.1 ∧ fadd a.2 b.2 = some r.2 := by
  unfold cadd at h
  cases h1 : fadd a.1 b.1 with
  | none => rw [h1] at h; simp at h
  | some p => cases h2 : fadd a.2 b.2 with
    | none => rw [h1, h2] at h; simp at h
    | some q => rw [h1, h2] at h; simp at h; subst h; exact ⟨rfl, rfl⟩
theorem sub_spec {a b r : Nat × Nat} (h : csub a b = some r) : fsub a.1 b.1 = some r.1 ∧ fsub a.2 b.2 = some r.2 := by
  unfold csub at h
  cases h1 : fsub a.1 b.1 with
  | none => rw [h1] at h; simp at h
  | some p => cases h2 : fsub a.2 b.2 with
    | none => rw [h1, h2] at h; simp at h
    | some q => rw [h1, h2] at h; simp at h; subst h; exact ⟨rfl, rfl⟩
theorem S_cadd {u : TypeId} {a b : Nat × Nat} {f : Nat × Nat → Option β} (hx : opL n l x = .cplx .f64 a.1 a.2) (hy : opL n l y = .cplx .f64 b.1 b.2) (hF : OptP ((cadd a b).bind f) G)
    (hk : ∀ r : Nat × Nat, cadd a b = some r → OptP (f r) G → seqQ P md w ops os ⟨mkSl n ((d, .cplx .f64 r.1 r.2) :: l), h⟩ k) : seqQ P md w ops (⟨some d, .binOp .add t x y u, ty, pos, af, none⟩ :: os) ⟨mkSl n l, h⟩ k := by
  obtain ⟨r, hr, hF⟩ := F_bind hF
  obtain ⟨h1, h2⟩ := add_spec hr
  exact S_bin hx hy (by rw [bin_cc]; show ((fadd a.1 b.1).bind fun r => (fadd a.2 b.2).map fun s => D.cplx .f64 r s) = _; rw [h1, h2]; rfl) (hk r hr hF)
theorem S_csub {u : TypeId} {a b : Nat × Nat} {f : Nat × Nat → Option β} (hx : opL n l x = .cplx .f64 a.1 a.2) (hy : opL n l y = .cplx .f64 b.1 b.2) (hF : OptP ((csub a b).bind f) G)
    (hk : ∀ r : Nat × Nat, csub a b = some r → OptP (f r) G → seqQ P md w ops os ⟨mkSl n ((d, .cplx .f64 r.1 r.2) :: l), h⟩ k) : seqQ P md w ops (⟨some d, .binOp .sub t x y u, ty, pos, af, none⟩ :: os) ⟨mkSl n l, h⟩ k := by
  obtain ⟨r, hr, hF⟩ := F_bind hF
  obtain ⟨h1, h2⟩ := sub_spec hr
  exact S_bin hx hy (by rw [bin_cc]; show ((fsub a.1 b.1).bind fun r => (fsub a.2 b.2).map fun s => D.cplx .f64 r s) = _; rw [h1, h2]; rfl) (hk r hr hF)
theorem S_cmul {u : TypeId} {a b : Nat × Nat} {f : Nat × Nat → Option β} (hx : opL n l x = .cplx .f64 a.1 a.2) (hy : opL n l y = .cplx .f64 b.1 b.2) (hF : OptP ((cmul a b).bind f) G)
    (hk : ∀ r : Nat × Nat, cmul a b = some r → OptP (f r) G → seqQ P md w ops os ⟨mkSl n ((d, .cplx .f64 r.1 r.2) :: l), h⟩ k) : seqQ P md w ops (⟨some d, .binOp .mul t x y u, ty, pos, af, none⟩ :: os) ⟨mkSl n l, h⟩ k := by
  obtain ⟨r, hr, hF⟩ := F_bind hF
  refine S_bin hx hy ?_ (hk r hr hF)
  rw [bin_cc]
  show ((fmul a.1 b.1).bind fun r => (fmul a.2 b.2).bind fun s => (fmul a.1 b.2).bind fun u => (fmul a.2 b.1).bind fun v => (fsub r s).bind fun x => (fadd u v).map fun y => D.cplx .f64 x y) = _
  unfold cmul at hr
  revert hr
  cases fmul a.1 b.1 with
  | none => intro hr; simp at hr
  | some r1 => cases fmul a.2 b.2 with
    | none => intro hr; simp at hr
    | some r2 => cases fmul a.1 b.2 with
      | none => intro hr; simp at hr
      | some r3 => cases fmul a.2 b.1 with
        | none => intro hr; simp at hr
        | some r4 =>
          simp only [Option.bind_some]
          cases fsub r1 r2 with
          | none => intro hr; simp at hr
          | some r5 => cases fadd r3 r4 with
            | none => intro hr; simp at hr
            | some r6 => intro hr; simp at hr; subst hr; rfl

theorem S_real {ts : Array TypeId} {a : Nat × Nat} (hx : opL n l x = .cplx .f64 a.1 a.2) (hk : seqQ P md w ops os ⟨mkSl n ((d, .float .f64 a.1) :: l), h⟩ k) : seqQ P md w ops (⟨some d, .call ⟨.builtin .real, #[x], ts⟩, ty, pos, af, none⟩ :: os) ⟨mkSl n l, h⟩ k := S_of (by
  simp only [effD, List.map_cons, List.map_nil, hx, builtD, miscD, OptP_some]; exact hk)
theorem S_imag {ts : Array TypeId} {a : Nat × Nat} (hx : opL n l x = .cplx .f64 a.1 a.2) (hk : seqQ P md w ops os ⟨mkSl n ((d, .float .f64 a.2) :: l), h⟩ k) : seqQ P md w ops (⟨some d, .call ⟨.builtin .imag, #[x], ts⟩, ty, pos, af, none⟩ :: os) ⟨mkSl n l, h⟩ k := S_of (by
  simp only [effD, List.map_cons, List.map_nil, hx, builtD, miscD, OptP_some]; exact hk)
theorem S_cplx {ts : Array TypeId} {a b : Nat} (hx : opL n l x = .float .f64 a) (hy : opL n l y = .float .f64 b) (hk : seqQ P md w ops os ⟨mkSl n ((d, .cplx .f64 a b) :: l), h⟩ k) : seqQ P md w ops (⟨some d, .call ⟨.builtin .complex, #[x, y], ts⟩, ty, pos, af, none⟩ :: os) ⟨mkSl n l, h⟩ k := S_of (by
  simp only [effD, List.map_cons, List.map_nil, hx, hy, builtD, miscD, if_true, OptP_some]; exact hk)
theorem S_f2i {s : TypeId} {K : IntKind} {a : Nat} {f : Int → Option β} (hx : opL n l x = .float .f64 a) (hs : kiD P t = some K) (hu : (P.underlying s).isSome = true) (hF : OptP ((f2i K a).bind f) G)
    (hk : ∀ r, f2i K a = some r → OptP (f r) G → seqQ P md w ops os ⟨mkSl n ((d, .int K r) :: l), h⟩ k) : seqQ P md w ops (⟨some d, .convert s t x, ty, pos, af, none⟩ :: os) ⟨mkSl n l, h⟩ k := by
  obtain ⟨r, hr, hF⟩ := F_bind hF
  refine S_conv hx ?_ (hk r hr hF)
  show (match kiD P t with | some k' => _ | none => _) = _
  rw [hs]
  simp only [hu, if_true]
  unfold f2i at hr
  revert hr
  cases (FloatKind.f64.decode a).toInt .zero with
  | none => intro hr; simp at hr
  | some m =>
    simp only
    intro hr
    split at hr
    · rename_i hc; rw [if_pos hc, Option.some.inj hr]
    · simp at hr
end
end Go.Proofs.YtocfjohangcajaaDoor
