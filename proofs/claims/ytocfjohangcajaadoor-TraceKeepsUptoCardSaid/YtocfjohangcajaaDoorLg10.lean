/- The library's functions that are met by their contracts, as plain functions (of Trace). No condition. -/
import Derived.Test.YtocfjohangcajaaDoorEng29
import Derived.Test.YtocfjohangcajaaDoorEng16
import Derived.Test.YtocfjohangcajaaDoorSp
import Derived.Lib.AtoiErrMem
import Derived.Laws.Externs
set_option linter.unusedSimpArgs false
set_option linter.unusedVariables false
namespace Go.Proofs.YtocfjohangcajaaDoor
open Go.RowKit
def L_Itoa (n : Int) : Option (List UInt8) := if -9223372036854775808 ≤ n ∧ n ≤ 9223372036854775807 then some (Lib.itoa n) else none
def L_IndexByte (s : List UInt8) (c : Int) : Option Int := some (Lib.indexByte s c.toNat.toUInt8)
def atoiP (s : List UInt8) : Int × Bool := match Lib.atoiAll s with
  | .ok v => (v, false)
  | .range => (Lib.atoiSat s, true)
  | _ => (0, true)
def L_Atoi (s : List UInt8) : Option (Int × Bool) := if s.length ≤ 281474976710656 then some (atoiP s) else none
def L_Join (l : List (List UInt8)) (sep : List UInt8) : Option (List UInt8) := if l.length ≤ 140737488355328 ∧ (Lib.join l sep).length ≤ 140737488355328 then some (Lib.join l sep) else none
def L_bits (x : Nat) : Option Int := some (x : Int)
def L_frombits (n : Int) : Option Nat := some n.toNat
def L_archTrunc (x : Nat) : Option Nat := match FloatKind.f64.decode x with
  | .nan _ _ => none
  | d => some (FloatKind.f64.encode (d.integral .zero))

theorem ifO {α : Type} {c : Prop} [Decidable c] {x y : α} (h : (if c then some x else none) = some y) : c ∧ x = y := by
  split at h
  · rename_i hc; exact ⟨hc, Option.some.inj h⟩
  · simp at h
theorem size_ba (s : List UInt8) : (⟨s.toArray⟩ : ByteArray).size = s.length := by simp [ByteArray.size]
theorem below_drewN {w : World} {n : Nat} : Below w.heap.size w (w.drewN n) := ⟨rfl, rfl, rfl, Nat.le_refl _, fun _ _ => rfl⟩
theorem below_grow {w : World} {n : Nat} {os : Array Obj} : Below w.heap.size w (Go.Sort.grow (w.drewN n) os) :=
  ⟨rfl, rfl, rfl, by simp [Go.Sort.grow, World.drewN], fun k hk => by show (w.heap ++ os)[k]? = _; rw [Array.getElem?_append_left hk]⟩

theorem rel_float {K : Kn} {v : Value} {k : FloatKind} {n : Nat} (h : VR K v (.float k n)) : v = .float k n := by cases h; rfl

theorem L_IndexByte_w (p0 : List UInt8) (p1 : Int) {G : Int → Prop} (h : Heap) (hF : OptP (L_IndexByte p0 p1) G) : CallsA Tryd.prog 42 [.str p0, .int .u8 p1] h fun d h' => ∃ r, G r ∧ d = .int .i64 r ∧ h' = h := by
  obtain ⟨r, hr, hG⟩ := hF
  refine callsA_of (d := .int .i64 r) (by kernel_rfl) ⟨r, hG, rfl, rfl⟩ fun K w vs H hl hv => ?_
  obtain rfl : vs = #[.string ⟨p0.toArray⟩, .int .u8 p1] := by rw [arr2 hl, rel_str (hv 0), rel_int (hv 1)]
  refine (Any.strings_IndexByte Tryd.lays137 ⟨p0.toArray⟩ p1 w).mono fun e w' ⟨he, hw⟩ => ?_
  subst hw
  exact ⟨_, K, he, Ext.refl K, H, by rw [← Option.some.inj hr]; exact .int _ _⟩
theorem L_Itoa_w (p0 : Int) {G : List UInt8 → Prop} (h : Heap) (hF : OptP (L_Itoa p0) G) : CallsA Tryd.prog 35 [.int .i64 p0] h fun d h' => ∃ r, G r ∧ d = .str r ∧ h' = h := by
  obtain ⟨r, hr, hG⟩ := hF
  obtain ⟨⟨h0, h1⟩, rfl⟩ := ifO hr
  refine callsA_of (d := .str (Lib.itoa p0)) (by kernel_rfl) ⟨_, hG, rfl, rfl⟩ fun K w vs H hl hv => ?_
  obtain rfl : vs = #[.int .i64 p0] := by rw [arr1 hl, rel_int (hv 0)]
  refine (Any.strconv_Itoa Tryd.laysM171 p0 h0 h1 w H.tab.2.1).mono fun e w' ⟨he, k, os, hw⟩ => ?_
  subst hw
  exact ⟨_, K, he, Ext.refl K, H.under below_grow, .str _⟩
theorem L_Atoi_w (p0 : List UInt8) {G : Int × Bool → Prop} (h : Heap) (hF : OptP (L_Atoi p0) G) : CallsA Tryd.prog 60 [.str p0] h fun d h' => ∃ r, G r ∧ d = .tup [.int .i64 r.1, ifD r.2] ∧ h' = h := by
  obtain ⟨r, hr, hG⟩ := hF
  obtain ⟨h0, rfl⟩ := ifO hr
  refine callsA_of (d := .tup [.int .i64 (atoiP p0).1, ifD (atoiP p0).2]) (by kernel_rfl) ⟨_, hG, rfl, rfl⟩ fun K w vs H hl hv => ?_
  obtain rfl : vs = #[.string ⟨p0.toArray⟩] := by rw [arr1 hl, rel_str (hv 0)]
  obtain ⟨v3, hv3, hi3⟩ := H.tab.2.2.1
  obtain ⟨v4, hv4, hi4⟩ := H.tab.2.2.2
  cases ha : Lib.atoiAll p0 with
  | ok v =>
    have e1 : atoiP p0 = (v, false) := by simp only [atoiP, ha]
    rw [e1]
    refine (Any.strconv_Atoi_ok Tryd.laysC172 ⟨p0.toArray⟩ (by rw [size_ba]; omega) v ha w).mono fun e w' ⟨he, hw⟩ => ?_
    have hb : Below w.heap.size w w' := by
      rcases hw with rfl | ⟨t, rfl⟩
      · exact Below.refl _ _
      · exact Lib.bytesWorld_below _ _ _
    refine ⟨_, K, he, Ext.refl K, H.under hb, .tup _ _ rfl fun i => ?_⟩
    match i with
    | 0 => exact .int _ _
    | 1 => exact .inil
    | i + 2 => exact .any _
  | range =>
    have e1 : atoiP p0 = (Lib.atoiSat p0, true) := by simp only [atoiP, ha]
    rw [e1]
    refine (Any.strconv_Atoi_range Tryd.laysC172 ⟨p0.toArray⟩ (by rw [size_ba]; exact h0) ha v4 w hv4 hi4).mono fun e w' ⟨N, he, _, _, hb⟩ => ?_
    refine ⟨_, K, he, Ext.refl K, H.under hb, .tup _ _ rfl fun i => ?_⟩
    match i with
    | 0 => exact .int _ _
    | 1 => exact .ifc _ _
    | i + 2 => exact .any _
  | _ =>
    have e1 : atoiP p0 = (0, true) := by simp only [atoiP, ha]
    rw [e1]
    refine (Any.strconv_Atoi_syntax Tryd.laysC172 ⟨p0.toArray⟩ (by rw [size_ba]; exact h0) ha v3 w hv3 hi3).mono fun e w' ⟨N, he, _, _, hb⟩ => ?_
    refine ⟨_, K, he, Ext.refl K, H.under hb, .tup _ _ rfl fun i => ?_⟩
    match i with
    | 0 => exact .int _ _
    | 1 => exact .ifc _ _
    | i + 2 => exact .any _
theorem L_bits_w (p0 : Nat) {G : Int → Prop} (h : Heap) (hF : OptP (L_bits p0) G) : CallsA Tryd.prog 70 [.float .f64 p0] h fun d h' => ∃ r, G r ∧ d = .int .u64 r ∧ h' = h := by
  obtain ⟨r, hr, hG⟩ := hF
  injection hr with hr; subst hr
  refine .inr fun K w vs H hl hv => ?_
  obtain rfl : vs = #[.float .f64 p0] := by rw [arr1 hl, rel_float (hv 0)]
  exact ⟨.int .u64 p0, w, .int .u64 p0, K, h, by rw [run_callFunc_extern (e := Extern.MathFloatBits.float64bits) Tryd.func70 rfl rfl (by kernel_rfl) (by kernel_rfl)]; rfl, Ext.refl K, H, .int _ _, _, hG, rfl, rfl⟩
theorem L_frombits_w (p0 : Int) {G : Nat → Prop} (h : Heap) (hF : OptP (L_frombits p0) G) : CallsA Tryd.prog 69 [.int .u64 p0] h fun d h' => ∃ r, G r ∧ d = .float .f64 r ∧ h' = h := by
  obtain ⟨r, hr, hG⟩ := hF
  injection hr with hr; subst hr
  refine .inr fun K w vs H hl hv => ?_
  obtain rfl : vs = #[.int .u64 p0] := by rw [arr1 hl, rel_int (hv 0)]
  exact ⟨.float .f64 p0.toNat, w, .float .f64 p0.toNat, K, h, by rw [run_callFunc_extern (e := Extern.MathFloatBits.float64frombits) Tryd.func69 rfl rfl (by kernel_rfl) (by kernel_rfl)]; rfl, Ext.refl K, H, .float _ _, _, hG, rfl, rfl⟩
theorem L_archTrunc_w (p0 : Nat) {G : Nat → Prop} (h : Heap) (hF : OptP (L_archTrunc p0) G) : CallsA Tryd.prog 67 [.float .f64 p0] h fun d h' => ∃ r, G r ∧ d = .float .f64 r ∧ h' = h := by
  obtain ⟨r, hr, hG⟩ := hF
  refine .inr fun K w vs H hl hv => ?_
  obtain rfl : vs = #[.float .f64 p0] := by rw [arr1 hl, rel_float (hv 0)]
  refine ⟨.float .f64 r, w, .float .f64 r, K, h, ?_, Ext.refl K, H, .float _ _, _, hG, rfl, rfl⟩
  rw [run_callFunc_extern (e := Extern.MathFloor.toIntegral "math.archTrunc" .zero) Tryd.func67 rfl rfl (by kernel_rfl) (by kernel_rfl)]
  unfold L_archTrunc at hr
  have key : (Extern.MathFloor.toIntegral "math.archTrunc" .zero #[.float .f64 p0]).run Tryd.prog w = .ok (.float .f64 r) w := by
    delta Extern.MathFloor.toIntegral Extern.MathFloor.toIntegral.match_2
    dsimp only
    rw [dif_pos (show (#[Value.float FloatKind.f64 p0] : Array Value).size = 1 from rfl)]
    delta Extern.MathFloor.toIntegral._sparseCasesOn_2 Extern.MathFloor.toIntegral._sparseCasesOn_3
    dsimp only [Array.getLit]
    simp only [List.getElem_toArray, List.getElem_cons_zero]
    cases hd : FloatKind.f64.decode p0 with
    | number s m e => rw [hd] at hr; injection hr with hr; subst hr; rfl
    | infinity s => rw [hd] at hr; injection hr with hr; subst hr; rfl
    | nan s t => rw [hd] at hr; simp at hr
  rw [key]; rfl

theorem xJoin : Builder.Extra Tryd.prog Tryd.lays156_ren where
  sizeBuilder := by kernel_rfl
  liesBuilder := by kernel_rfl
  t5 := by kernel_rfl
  a5 := fun w => run_isAggD (by kernel_rfl)
  z5 := fun w => run_sizeOfD (by kernel_rfl)
  v5 := fun w => by
    obtain ⟨v, h1, h2⟩ := zrD_spec (P := Tryd.prog) (t := Tryd.lays156_ren.t 5) (z := .int .u8 0) (by kernel_rfl)
    rw [h1 w, rel_int (h2 (Kn.init w))]
  infoByte := by kernel_rfl
  cellsByte := by kernel_rfl
  sizeByte := by kernel_rfl
  neB5 := by decide
theorem L_Join_w (p0 : List (List UInt8)) (p1 : List UInt8) {G : List UInt8 → Prop} (h : Heap) (hF : OptP (L_Join p0 p1) G) : CallsA Tryd.prog 36 [.sl 1 (List.map c_str p0) 0, .str p1] h fun d h' => ∃ r, G r ∧ d = .str r ∧ h' = h := by
  obtain ⟨r, hr, hG⟩ := hF
  obtain ⟨⟨h0, h1⟩, rfl⟩ := ifO hr
  refine callsA_of (d := .str (Lib.join p0 p1)) (by kernel_rfl) ⟨_, hG, rfl, rfl⟩ fun K w vs H hl hv => ?_
  have hs := rel_str (hv 1)
  rcases rel_sl (c := fun s : List UInt8 => .str s) H (hv 0) with ⟨e0, a, hvs⟩ | ⟨b, o, cap, hvs, hcap, hce⟩
  · obtain rfl : vs = #[.slice a 0 0, .string ⟨p1.toArray⟩] := by rw [arr2 hl, hvs, hs]
    subst e0
    refine (Any.strings_Join_none Tryd.lays156 xJoin a 0 ⟨p1.toArray⟩ w).mono fun e w' ⟨he, hw⟩ => ?_
    subst hw
    exact ⟨_, K, he, Ext.refl K, H, .str []⟩
  · obtain rfl : vs = #[.slice (some ⟨b, o, none⟩) p0.length cap, .string ⟨p1.toArray⟩] := by rw [arr2 hl, hvs, hs]
    cases p0 with
    | nil =>
      refine (Any.strings_Join_none Tryd.lays156 xJoin _ cap ⟨p1.toArray⟩ w).mono fun e w' ⟨he, hw⟩ => ?_
      subst hw
      exact ⟨_, K, he, Ext.refl K, H, .str []⟩
    | cons s0 rest =>
      generalize hp : s0 :: rest = p0 at *
      have hlen : (p0.map fun s : List UInt8 => (⟨s.toArray⟩ : ByteArray)).length = p0.length := by simp
      have hmap : (p0.map fun s : List UInt8 => (⟨s.toArray⟩ : ByteArray)).map (·.data.toList) = p0 := by simp [List.map_map, Function.comp_def]
      have hcells : ∀ (j : Nat) x, (p0.map fun s : List UInt8 => (⟨s.toArray⟩ : ByteArray))[j]? = some x → w.cell? ⟨b, o + j, none⟩ = some (.string x) := by
        intro j x hx
        simp only [List.getElem?_map, Option.map_eq_some_iff] at hx
        obtain ⟨s, hs1, rfl⟩ := hx
        obtain ⟨u, hu, hur⟩ := hce j s hs1
        rw [hu, rel_str hur]
      have hb : b < w.heap.size := by
        have h00 : p0[0]? = some s0 := by rw [← hp]; rfl
        obtain ⟨u, hu, _⟩ := hce 0 s0 h00
        exact cell?_lt hu
      have := Any.strings_Join Tryd.lays156 xJoin b o cap (p0.map fun s : List UInt8 => (⟨s.toArray⟩ : ByteArray)) ⟨p1.toArray⟩ w hcells hb (by rw [hlen]; exact h0) (by rw [hlen]; exact hcap) (by rw [hmap]; exact h1)
      rw [hlen] at this
      refine this.mono fun e w' ⟨he, hw⟩ => ⟨_, K, he, Ext.refl K, H.under hw, ?_⟩
      rw [hmap]; exact .str _
theorem L_IndexByte_ok {β : Type} {f : Int → Option β} {G : β → Prop} {R : D → Heap → Prop} {p0 : List UInt8} {p1 : Int} (h : Heap) (hF : OptP ((L_IndexByte p0 p1).bind f) G) (hk : ∀ r, L_IndexByte p0 p1 = some r → OptP (f r) G → R (.int .i64 r) h) : CallsA Tryd.prog 42 [.str p0, .int .u8 p1] h R :=
  ok_of (enc := fun r => .int .i64 r) (fun G h hF => L_IndexByte_w p0 p1 h hF) h hF hk
theorem L_Itoa_ok {β : Type} {f : List UInt8 → Option β} {G : β → Prop} {R : D → Heap → Prop} {p0 : Int} (h : Heap) (hF : OptP ((L_Itoa p0).bind f) G) (hk : ∀ r, L_Itoa p0 = some r → OptP (f r) G → R (.str r) h) : CallsA Tryd.prog 35 [.int .i64 p0] h R :=
  ok_of (enc := fun r => .str r) (fun G h hF => L_Itoa_w p0 h hF) h hF hk
theorem L_Atoi_ok {β : Type} {f : Int × Bool → Option β} {G : β → Prop} {R : D → Heap → Prop} {p0 : List UInt8} (h : Heap) (hF : OptP ((L_Atoi p0).bind f) G) (hk : ∀ r, L_Atoi p0 = some r → OptP (f r) G → R (.tup [.int .i64 r.1, ifD r.2]) h) : CallsA Tryd.prog 60 [.str p0] h R :=
  ok_of (enc := fun r => .tup [.int .i64 r.1, ifD r.2]) (fun G h hF => L_Atoi_w p0 h hF) h hF hk
theorem L_bits_ok {β : Type} {f : Int → Option β} {G : β → Prop} {R : D → Heap → Prop} {p0 : Nat} (h : Heap) (hF : OptP ((L_bits p0).bind f) G) (hk : ∀ r, L_bits p0 = some r → OptP (f r) G → R (.int .u64 r) h) : CallsA Tryd.prog 70 [.float .f64 p0] h R := by
  obtain ⟨r0, hr, hF⟩ := F_bind hF
  refine (L_bits_w (G := fun r => r = r0) p0 h ⟨r0, hr, rfl⟩).mono ?_
  rintro _ _ ⟨r, rfl, rfl, rfl⟩
  exact hk _ hr hF
theorem L_frombits_ok {β : Type} {f : Nat → Option β} {G : β → Prop} {R : D → Heap → Prop} {p0 : Int} (h : Heap) (hF : OptP ((L_frombits p0).bind f) G) (hk : ∀ r, L_frombits p0 = some r → OptP (f r) G → R (.float .f64 r) h) : CallsA Tryd.prog 69 [.int .u64 p0] h R := by
  obtain ⟨r0, hr, hF⟩ := F_bind hF
  refine (L_frombits_w (G := fun r => r = r0) p0 h ⟨r0, hr, rfl⟩).mono ?_
  rintro _ _ ⟨r, rfl, rfl, rfl⟩
  exact hk _ hr hF
theorem L_archTrunc_ok {β : Type} {f : Nat → Option β} {G : β → Prop} {R : D → Heap → Prop} {p0 : Nat} (h : Heap) (hF : OptP ((L_archTrunc p0).bind f) G) (hk : ∀ r, L_archTrunc p0 = some r → OptP (f r) G → R (.float .f64 r) h) : CallsA Tryd.prog 67 [.float .f64 p0] h R := by
  obtain ⟨r0, hr, hF⟩ := F_bind hF
  refine (L_archTrunc_w (G := fun r => r = r0) p0 h ⟨r0, hr, rfl⟩).mono ?_
  rintro _ _ ⟨r, rfl, rfl, rfl⟩
  exact hk _ hr hF
theorem L_Join_ok {β : Type} {f : List UInt8 → Option β} {G : β → Prop} {R : D → Heap → Prop} {p0 : List (List UInt8)} {p1 : List UInt8} (h : Heap) (hF : OptP ((L_Join p0 p1).bind f) G) (hk : ∀ r, L_Join p0 p1 = some r → OptP (f r) G → R (.str r) h) : CallsA Tryd.prog 36 [.sl 1 (List.map c_str p0) 0, .str p1] h R := by
  obtain ⟨r0, hr, hF⟩ := F_bind hF
  refine (L_Join_w (G := fun r => r = r0) p0 p1 h ⟨r0, hr, rfl⟩).mono ?_
  rintro _ _ ⟨r, rfl, rfl, rfl⟩
  exact hk _ hr hF
end Go.Proofs.YtocfjohangcajaaDoor
