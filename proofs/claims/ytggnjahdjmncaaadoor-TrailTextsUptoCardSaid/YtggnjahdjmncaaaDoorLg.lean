/- The library's functions that are met by their contracts, as plain functions. No condition. -/
import Derived.Test.YtggnjahdjmncaaaDoorEng24
import Derived.Test.YtggnjahdjmncaaaDoorSp
import Derived.Lib.SplitLaws
import Derived.Lib.AtoiErrMem
set_option linter.unusedSimpArgs false
set_option linter.unusedVariables false
namespace Go.Proofs.YtggnjahdjmncaaaDoor
open Go.RowKit
def L_Itoa (n : Int) : Option (List UInt8) := if -9223372036854775808 ≤ n ∧ n ≤ 9223372036854775807 then some (Lib.itoa n) else none
def L_Cut (s sep : List UInt8) : Option (List UInt8 × List UInt8 × Bool) := if s.length < 4294967281 then some (Lib.cut s sep) else none
def L_IndexByte (s : List UInt8) (c : Int) : Option Int := some (Lib.indexByte s c.toNat.toUInt8)
def L_Split (s sep : List UInt8) : Option (List (List UInt8)) := if s.length < 4294967281 ∧ 1 ≤ sep.length then some (Lib.split s sep) else none
def atoiP (s : List UInt8) : Int × Bool := match Lib.atoiAll s with
  | .ok v => (v, false)
  | .range => (Lib.atoiSat s, true)
  | _ => (0, true)
def L_Atoi (s : List UInt8) : Option (Int × Bool) := if s.length ≤ 281474976710656 then some (atoiP s) else none
def L_DecodeRune (b : List UInt8) : Option (Int × Int) := if b = [] then none else some (((Lib.decodeGo ⟨b.toArray⟩).1 : Int), ((Lib.decodeGo ⟨b.toArray⟩).2 : Int))
def L_ValidString (s : List UInt8) : Option Bool := if s.length ≤ 9223372036854775807 then some (Lib.validD s) else none
def L_CloneInts (l : List Int) : Option (List Int) := if l.length * 8 ≤ 140737488355328 then some l else none

theorem ifO {α : Type} {c : Prop} [Decidable c] {x y : α} (h : (if c then some x else none) = some y) : c ∧ x = y := by
  split at h
  · rename_i hc; exact ⟨hc, Option.some.inj h⟩
  · simp at h
theorem size_ba (s : List UInt8) : (⟨s.toArray⟩ : ByteArray).size = s.length := by simp [ByteArray.size]
theorem below_drewN {w : World} {n : Nat} : Below w.heap.size w (w.drewN n) := ⟨rfl, rfl, rfl, Nat.le_refl _, fun _ _ => rfl⟩
theorem below_grow {w : World} {n : Nat} {os : Array Obj} : Below w.heap.size w (Go.Sort.grow (w.drewN n) os) :=
  ⟨rfl, rfl, rfl, by simp [Go.Sort.grow, World.drewN], fun k hk => by show (w.heap ++ os)[k]? = _; rw [Array.getElem?_append_left hk]⟩

section
variable {G : Int → Prop}
theorem L_IndexByte_w (p0 : List UInt8) (p1 : Int) {G : Int → Prop} (h : Heap) (hF : OptP (L_IndexByte p0 p1) G) : CallsA Tryd.prog 27 [.str p0, .int .u8 p1] h fun d h' => ∃ r, G r ∧ d = .int .i64 r ∧ h' = h := by
  obtain ⟨r, hr, hG⟩ := hF
  refine callsA_of (d := .int .i64 r) (by kernel_rfl) ⟨r, hG, rfl, rfl⟩ fun K w vs H hl hv => ?_
  obtain rfl : vs = #[.string ⟨p0.toArray⟩, .int .u8 p1] := by rw [arr2 hl, rel_str (hv 0), rel_int (hv 1)]
  refine (Any.strings_IndexByte Tryd.lays137 ⟨p0.toArray⟩ p1 w).mono fun e w' ⟨he, hw⟩ => ?_
  subst hw
  exact ⟨_, K, he, Ext.refl K, H, by rw [← Option.some.inj hr]; exact .int _ _⟩
theorem L_Itoa_w (p0 : Int) {G : List UInt8 → Prop} (h : Heap) (hF : OptP (L_Itoa p0) G) : CallsA Tryd.prog 24 [.int .i64 p0] h fun d h' => ∃ r, G r ∧ d = .str r ∧ h' = h := by
  obtain ⟨r, hr, hG⟩ := hF
  obtain ⟨⟨h0, h1⟩, rfl⟩ := ifO hr
  refine callsA_of (d := .str (Lib.itoa p0)) (by kernel_rfl) ⟨_, hG, rfl, rfl⟩ fun K w vs H hl hv => ?_
  obtain rfl : vs = #[.int .i64 p0] := by rw [arr1 hl, rel_int (hv 0)]
  refine (Any.strconv_Itoa Tryd.laysM171 p0 h0 h1 w H.tab.2.1).mono fun e w' ⟨he, k, os, hw⟩ => ?_
  subst hw
  exact ⟨_, K, he, Ext.refl K, H.under below_grow, .str _⟩
theorem L_Cut_w (p0 p1 : List UInt8) {G : List UInt8 × List UInt8 × Bool → Prop} (h : Heap) (hF : OptP (L_Cut p0 p1) G) : CallsA Tryd.prog 26 [.str p0, .str p1] h fun d h' => ∃ r, G r ∧ d = .tup [.str r.1, .str r.2.1, .bool r.2.2] ∧ h' = h := by
  obtain ⟨r, hr, hG⟩ := hF
  obtain ⟨h0, rfl⟩ := ifO hr
  refine callsA_of (d := .tup [.str (Lib.cut p0 p1).1, .str (Lib.cut p0 p1).2.1, .bool (Lib.cut p0 p1).2.2]) (by kernel_rfl) ⟨_, hG, rfl, rfl⟩ fun K w vs H hl hv => ?_
  obtain rfl : vs = #[.string ⟨p0.toArray⟩, .string ⟨p1.toArray⟩] := by rw [arr2 hl, rel_str (hv 0), rel_str (hv 1)]
  refine (Any.strings_Cut_shaped Tryd.laysM145 ⟨p0.toArray⟩ ⟨p1.toArray⟩ w H.tab.1 (by rw [size_ba]; exact h0)).mono fun e w' ⟨he, n, hw⟩ => ?_
  subst hw
  refine ⟨_, K, he, Ext.refl K, H.under below_drewN, .tup _ _ rfl fun i => ?_⟩
  match i with
  | 0 => exact .str _
  | 1 => exact .str _
  | 2 => exact .bool _
  | i + 3 => exact .any _
theorem L_Split_w (p0 p1 : List UInt8) {G : List (List UInt8) → Prop} (h : Heap) (hF : OptP (L_Split p0 p1) G) : CallsA Tryd.prog 29 [.str p0, .str p1] h fun d h' => ∃ r, G r ∧ d = .sl 1 (List.map c_str r) 0 ∧ h' = h := by
  obtain ⟨r, hr, hG⟩ := hF
  obtain ⟨⟨h0, h1⟩, rfl⟩ := ifO hr
  refine callsA_of (d := .sl 1 (List.map c_str (Lib.split p0 p1)) 0) (by kernel_rfl) ⟨_, hG, rfl, rfl⟩ fun K w vs H hl hv => ?_
  obtain rfl : vs = #[.string ⟨p0.toArray⟩, .string ⟨p1.toArray⟩] := by rw [arr2 hl, rel_str (hv 0), rel_str (hv 1)]
  refine (Any.strings_Split_shaped Tryd.laysM146 ⟨p0.toArray⟩ ⟨p1.toArray⟩ w H.tab.1 (by rw [size_ba]; exact h0) (by rw [size_ba]; exact h1)).mono fun e w' ⟨he, hw⟩ => ?_
  subst hw
  generalize hL : Lib.splitB ⟨p1.toArray⟩ 0 (Lib.countB ⟨p0.toArray⟩ ⟨p1.toArray⟩) ⟨p0.toArray⟩ = L at *
  have hlen : L.length = Lib.countB ⟨p0.toArray⟩ ⟨p1.toArray⟩ + 1 := by rw [← hL]; exact Lib.splitB_all _ (by rw [size_ba]; exact h1) 0 _ _ rfl
  have hsp : Lib.split p0 p1 = L.map (·.data.toList) := by rw [← hL, Lib.splitB_data]; rfl
  have hb : Below w.heap.size w (w.alloc (.cells (L.map Value.string).toArray (Tryd.laysM146_ren.t 9))) := (Below.refl _ _).alloc (Nat.le_refl _) _
  obtain ⟨E, H'⟩ := H.learn hb (g := w.heap.size) (Nat.le_refl _) (fun o => (L.map Value.string)[o]?) (fun o v hv => ⟨by rw [cell_new]; simpa using hv, by
    simp only [List.getElem?_map, Option.map_eq_some_iff] at hv
    obtain ⟨s, _, rfl⟩ := hv; rfl⟩)
  refine ⟨_, _, he, E, H', ?_⟩
  have hll : (Lib.split p0 p1).length = Lib.countB ⟨p0.toArray⟩ ⟨p1.toArray⟩ + 1 := by rw [hsp, List.length_map, hlen]
  have := rel_new (K := K) (c := fun s : List UInt8 => .str s) (l := Lib.split p0 p1) (g := w.heap.size) (cap := (Lib.split p0 p1).length) (f := fun o => (L.map Value.string)[o]?) (fun j => .string ⟨((Lib.split p0 p1).getD j []).toArray⟩)
    (fun j hj => by
      have hj' : j < L.length := by rw [hsp, List.length_map] at hj; exact hj
      simp [List.getElem?_map, List.getElem?_eq_getElem hj', hsp, List.getD])
    (fun j x hx => by
      have : (Lib.split p0 p1).getD j [] = x := by simp [List.getD, hx]
      rw [this]; exact .str x) (Nat.le_refl _)
  rw [hll] at this; exact this
theorem L_Atoi_w (p0 : List UInt8) {G : Int × Bool → Prop} (h : Heap) (hF : OptP (L_Atoi p0) G) : CallsA Tryd.prog 30 [.str p0] h fun d h' => ∃ r, G r ∧ d = .tup [.int .i64 r.1, ifD r.2] ∧ h' = h := by
  obtain ⟨r, hr, hG⟩ := hF
  obtain ⟨h0, rfl⟩ := ifO hr
  refine callsA_of (d := .tup [.int .i64 (atoiP p0).1, ifD (atoiP p0).2]) (by kernel_rfl) ⟨_, hG, rfl, rfl⟩ fun K w vs H hl hv => ?_
  obtain rfl : vs = #[.string ⟨p0.toArray⟩] := by rw [arr1 hl, rel_str (hv 0)]
  obtain ⟨v3, hv3, hi3⟩ := H.tab.2.2.2.1
  obtain ⟨v4, hv4, hi4⟩ := H.tab.2.2.2.2
  cases ha : Lib.atoiAll p0 with
  | ok v =>
    have e1 : atoiP p0 = (v, false) := by simp only [atoiP, ha]
    rw [e1]
    refine (Any.strconv_Atoi_ok Tryd.laysC172 ⟨p0.toArray⟩ (by rw [size_ba]; omega) v ha w).mono fun e w' ⟨he, hw⟩ => ?_
    have hb : Below w.heap.size w w' := by
      rcases hw with rfl | ⟨t, rfl⟩
      · exact Below.refl _ _
      · exact Lib.bytesWorld_below _ _ _
    refine ⟨_, K, he, Ext.refl K, H.under hb, .tup _ _ rfl fun i => ?_⟩
    match i with
    | 0 => exact .int _ _
    | 1 => exact .inil
    | i + 2 => exact .any _
  | range =>
    have e1 : atoiP p0 = (Lib.atoiSat p0, true) := by simp only [atoiP, ha]
    rw [e1]
    refine (Any.strconv_Atoi_range Tryd.laysC172 ⟨p0.toArray⟩ (by rw [size_ba]; exact h0) ha v4 w hv4 hi4).mono fun e w' ⟨N, he, _, _, hb⟩ => ?_
    refine ⟨_, K, he, Ext.refl K, H.under hb, .tup _ _ rfl fun i => ?_⟩
    match i with
    | 0 => exact .int _ _
    | 1 => exact .ifc _ _
    | i + 2 => exact .any _
  | _ =>
    have e1 : atoiP p0 = (0, true) := by simp only [atoiP, ha]
    rw [e1]
    refine (Any.strconv_Atoi_syntax Tryd.laysC172 ⟨p0.toArray⟩ (by rw [size_ba]; exact h0) ha v3 w hv3 hi3).mono fun e w' ⟨N, he, _, _, hb⟩ => ?_
    refine ⟨_, K, he, Ext.refl K, H.under hb, .tup _ _ rfl fun i => ?_⟩
    match i with
    | 0 => exact .int _ _
    | 1 => exact .ifc _ _
    | i + 2 => exact .any _
theorem L_DecodeRune_w (p0 : List UInt8) {G : Int × Int → Prop} (h : Heap) (hF : OptP (L_DecodeRune p0) G) : CallsA Tryd.prog 78 [.sl 1 (List.map c_u8 p0) 0] h fun d h' => ∃ r, G r ∧ d = .tup [.int .i32 r.1, .int .i64 r.2] ∧ h' = h := by
  obtain ⟨r, hr, hG⟩ := hF
  unfold L_DecodeRune at hr
  split at hr
  · simp at hr
  · rename_i hne
    injection hr with hr
    subst hr
    refine callsA_of (d := .tup [.int .i32 (Lib.decodeGo ⟨p0.toArray⟩).1, .int .i64 (Lib.decodeGo ⟨p0.toArray⟩).2]) (by kernel_rfl) ⟨_, hG, rfl, rfl⟩ fun K w vs H hl hv => ?_
    rcases rel_sl (c := fun b : UInt8 => .int .u8 b.toNat) H (hv 0) with ⟨h0, _⟩ | ⟨b, o, cap, hvs, hcap, hce⟩
    · exact absurd h0 hne
    · obtain rfl : vs = #[.slice (some ⟨b, o, none⟩) p0.length cap] := by rw [arr1 hl, hvs]
      have c := Any7.utf8_DecodeRune Tryd.lays732 ⟨p0.toArray⟩ b o cap w H.tab.2.2.1 (fun j hj => by
        rw [size_ba] at hj
        obtain ⟨u, hu, hr⟩ := hce j p0[j] (List.getElem?_eq_getElem hj)
        rw [hu, rel_int hr]
        have : (⟨p0.toArray⟩ : ByteArray).get! j = p0[j] := by simp [ByteArray.get!, hj]
        rw [this])
      rw [size_ba] at c
      refine Calls.mono c fun e w' ⟨he, hb⟩ => ?_
      refine ⟨_, K, he, Ext.refl K, H.under hb, .tup _ _ rfl fun i => ?_⟩
      match i with
      | 0 => exact .int _ _
      | 1 => exact .int _ _
      | i + 2 => exact .any _
theorem L_ValidString_w (p0 : List UInt8) {G : Bool → Prop} (h : Heap) (hF : OptP (L_ValidString p0) G) : CallsA Tryd.prog 63 [.str p0] h fun d h' => ∃ r, G r ∧ d = .bool r ∧ h' = h := by
  obtain ⟨r, hr, hG⟩ := hF
  obtain ⟨h0, rfl⟩ := ifO hr
  refine callsA_of (d := .bool (Lib.validD p0)) (by kernel_rfl) ⟨_, hG, rfl, rfl⟩ fun K w vs H hl hv => ?_
  obtain rfl : vs = #[.string ⟨p0.toArray⟩] := by rw [arr1 hl, rel_str (hv 0)]
  refine (Any.utf8_ValidString Tryd.lays196 ⟨p0.toArray⟩ w (by rw [size_ba]; exact h0) H.tab.2.2.1).mono fun e w' ⟨he, hb⟩ => ?_
  exact ⟨_, K, he, Ext.refl K, H.under hb, .bool _⟩
theorem L_CloneInts_w (p0 : List Int) {G : List Int → Prop} (h : Heap) (hF : OptP (L_CloneInts p0) G) : CallsA Tryd.prog 41 [.sl 1 (List.map c_i64 p0) 0] h fun d h' => ∃ r, G r ∧ d = .sl 1 (List.map c_i64 r) 0 ∧ h' = h := by
  obtain ⟨r, hr, hG⟩ := hF
  obtain ⟨h0, rfl⟩ := ifO hr
  refine callsA_of (d := .sl 1 (List.map c_i64 p0) 0) (by kernel_rfl) ⟨_, hG, rfl, rfl⟩ fun K w vs H hl hv => ?_
  rcases rel_sl (c := fun b : Int => .int .i64 b) H (hv 0) with ⟨rfl, a, hvs⟩ | ⟨b, o, cap, hvs, hcap, hce⟩
  · obtain rfl : vs = #[.slice a 0 0] := by rw [arr1 hl, hvs]
    cases a with
    | none =>
      refine (Any.slices_Clone_int_nil Tryd.laysNm215 0 0 w).mono fun e w' ⟨he, hw⟩ => ?_
      subst hw
      exact ⟨_, K, he, Ext.refl K, H, .slz _ _⟩
    | some a =>
      refine (Any.slices_Clone_int_zero Tryd.laysNm215 a 0 w).mono fun e w' ⟨v, he, ho, _, hb⟩ => ?_
      refine ⟨_, K, he, Ext.refl K, H.under hb, ?_⟩
      rcases ho.2 with ⟨rfl, _⟩ | ⟨g, cap, cur, rfl, _, _, _, _, _, _⟩
      · exact .slz _ _
      · exact .sl g 0 1 [] 0 cap (fun _ _ => undef) (by simp) (by simp) (fun i j => by simp; exact .any _) (by simp) (fun h => absurd rfl h)
  · obtain rfl : vs = #[.slice (some ⟨b, o, none⟩) p0.length cap] := by rw [arr1 hl, hvs]
    refine (Any.slices_Clone_int Tryd.laysNm215 b o p0.length cap p0 w (Nat.le_refl _) h0 (fun j hj => by
      obtain ⟨u, hu, hr⟩ := hce j p0[j] (List.getElem?_eq_getElem hj)
      rw [hu, rel_int hr]; simp [List.getD, hj])).mono fun e w' ⟨v, he, ho, _, hb⟩ => ?_
    rw [List.take_length] at ho
    rcases ho.2 with ⟨rfl, h1⟩ | ⟨g, cap, cur, rfl, hg, hc, hn, _, hsz, ht⟩
    · have : p0 = [] := List.eq_nil_of_length_eq_zero h1
      subst this
      exact ⟨_, K, he, Ext.refl K, H.under hb, .slz _ _⟩
    · have hcell : ∀ j x, p0[j]? = some x → w'.cell? ⟨g, j, none⟩ = some (.int .i64 x) := fun j x hx => by
        have : (p0.map (Value.int .i64))[j]? = some (.int .i64 x) := by simp [hx]
        rw [← ht] at this
        rw [List.getElem?_take] at this
        split at this
        · simp only [World.cell?, hc]; simpa using this
        · simp at this
      obtain ⟨E, H'⟩ := H.learn hb hg (fun o => (p0[o]?).map (Value.int .i64)) (fun o v hv => by
        simp only [Option.map_eq_some_iff] at hv
        obtain ⟨x, hx, rfl⟩ := hv
        exact ⟨hcell o x hx, rfl⟩)
      refine ⟨_, _, he, E, H', ?_⟩
      exact rel_new (K := K) (c := fun b : Int => .int .i64 b) (l := p0) (fun j => .int .i64 (p0.getD j 0)) (fun j hj => by simp [List.getElem?_eq_getElem hj, List.getD]) (fun j x hx => by simp [List.getD, hx]; exact .int _ _) hn
end
theorem L_Itoa_ok {β : Type} {f : List UInt8 → Option β} {G : β → Prop} {R : D → Heap → Prop} {p0 : Int} (h : Heap) (hF : OptP ((L_Itoa p0).bind f) G) (hk : ∀ r, L_Itoa p0 = some r → OptP (f r) G → R (.str r) h) : CallsA Tryd.prog 24 [.int .i64 p0] h R :=
  ok_of (enc := fun r => .str r) (fun G h hF => L_Itoa_w p0 h hF) h hF hk
theorem L_Cut_ok {β : Type} {f : List UInt8 × List UInt8 × Bool → Option β} {G : β → Prop} {R : D → Heap → Prop} {p0 : List UInt8} {p1 : List UInt8} (h : Heap) (hF : OptP ((L_Cut p0 p1).bind f) G) (hk : ∀ r, L_Cut p0 p1 = some r → OptP (f r) G → R (.tup [.str r.1, .str r.2.1, .bool r.2.2]) h) : CallsA Tryd.prog 26 [.str p0, .str p1] h R :=
  ok_of (enc := fun r => .tup [.str r.1, .str r.2.1, .bool r.2.2]) (fun G h hF => L_Cut_w p0 p1 h hF) h hF hk
theorem L_IndexByte_ok {β : Type} {f : Int → Option β} {G : β → Prop} {R : D → Heap → Prop} {p0 : List UInt8} {p1 : Int} (h : Heap) (hF : OptP ((L_IndexByte p0 p1).bind f) G) (hk : ∀ r, L_IndexByte p0 p1 = some r → OptP (f r) G → R (.int .i64 r) h) : CallsA Tryd.prog 27 [.str p0, .int .u8 p1] h R :=
  ok_of (enc := fun r => .int .i64 r) (fun G h hF => L_IndexByte_w p0 p1 h hF) h hF hk
theorem L_Split_ok {β : Type} {f : List (List UInt8) → Option β} {G : β → Prop} {R : D → Heap → Prop} {p0 : List UInt8} {p1 : List UInt8} (h : Heap) (hF : OptP ((L_Split p0 p1).bind f) G) (hk : ∀ r, L_Split p0 p1 = some r → OptP (f r) G → R (.sl 1 (List.map c_str r) 0) h) : CallsA Tryd.prog 29 [.str p0, .str p1] h R :=
  ok_of (enc := fun r => .sl 1 (List.map c_str r) 0) (fun G h hF => L_Split_w p0 p1 h hF) h hF hk
theorem L_Atoi_ok {β : Type} {f : Int × Bool → Option β} {G : β → Prop} {R : D → Heap → Prop} {p0 : List UInt8} (h : Heap) (hF : OptP ((L_Atoi p0).bind f) G) (hk : ∀ r, L_Atoi p0 = some r → OptP (f r) G → R (.tup [.int .i64 r.1, ifD r.2]) h) : CallsA Tryd.prog 30 [.str p0] h R :=
  ok_of (enc := fun r => .tup [.int .i64 r.1, ifD r.2]) (fun G h hF => L_Atoi_w p0 h hF) h hF hk
theorem L_DecodeRune_ok {β : Type} {f : Int × Int → Option β} {G : β → Prop} {R : D → Heap → Prop} {p0 : List UInt8} (h : Heap) (hF : OptP ((L_DecodeRune p0).bind f) G) (hk : ∀ r, L_DecodeRune p0 = some r → OptP (f r) G → R (.tup [.int .i32 r.1, .int .i64 r.2]) h) : CallsA Tryd.prog 78 [.sl 1 (List.map c_u8 p0) 0] h R :=
  ok_of (enc := fun r => .tup [.int .i32 r.1, .int .i64 r.2]) (fun G h hF => L_DecodeRune_w p0 h hF) h hF hk
theorem L_ValidString_ok {β : Type} {f : Bool → Option β} {G : β → Prop} {R : D → Heap → Prop} {p0 : List UInt8} (h : Heap) (hF : OptP ((L_ValidString p0).bind f) G) (hk : ∀ r, L_ValidString p0 = some r → OptP (f r) G → R (.bool r) h) : CallsA Tryd.prog 63 [.str p0] h R :=
  ok_of (enc := fun r => .bool r) (fun G h hF => L_ValidString_w p0 h hF) h hF hk
theorem L_CloneInts_ok {β : Type} {f : List Int → Option β} {G : β → Prop} {R : D → Heap → Prop} {p0 : List Int} (h : Heap) (hF : OptP ((L_CloneInts p0).bind f) G) (hk : ∀ r, L_CloneInts p0 = some r → OptP (f r) G → R (.sl 1 (List.map c_i64 r) 0) h) : CallsA Tryd.prog 41 [.sl 1 (List.map c_i64 p0) 0] h R :=
  ok_of (enc := fun r => .sl 1 (List.map c_i64 r) 0) (fun G h hF => L_CloneInts_w p0 h hF) h hF hk
end Go.Proofs.YtggnjahdjmncaaaDoor
