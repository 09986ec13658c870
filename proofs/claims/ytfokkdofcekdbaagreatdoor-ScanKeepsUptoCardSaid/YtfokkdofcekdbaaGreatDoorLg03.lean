/- The library's functions that are met by their contracts, as plain functions. No condition. -/
import Derived.Test.YtfokkdofcekdbaaGreatDoorEng24
import Derived.Test.YtfokkdofcekdbaaGreatDoorSp
import Derived.Test.YtfokkdofcekdbaaGreatDoorLsf
import Derived.Lib.SplitLaws
set_option linter.unusedSimpArgs false
set_option linter.unusedVariables false
namespace Go.Proofs.YtfokkdofcekdbaaGreatDoor
open Go.RowKit
def L_Cut (s sep : List UInt8) : Option (List UInt8 × List UInt8 × Bool) := if s.length < 4294967281 then some (Lib.cut s sep) else none
def L_IndexByte (s : List UInt8) (c : Int) : Option Int := some (Lib.indexByte s c.toNat.toUInt8)
def L_DecodeRune (b : List UInt8) : Option (Int × Int) := if b = [] then none else some (((Lib.decodeGo ⟨b.toArray⟩).1 : Int), ((Lib.decodeGo ⟨b.toArray⟩).2 : Int))
def L_DecodeRuneInString (b : List UInt8) : Option (Int × Int) := some (((Lib.decodeGo ⟨b.toArray⟩).1 : Int), ((Lib.decodeGo ⟨b.toArray⟩).2 : Int))
def L_ValidString (s : List UInt8) : Option Bool := if s.length ≤ 9223372036854775807 then some (Lib.validD s) else none
def L_bIndexByte (s : List UInt8) (c : Int) : Option Int := some (Lib.indexByte s c.toNat.toUInt8)
def L_bIndex (s sub : List UInt8) : Option Int := if s.length < 4294967281 ∧ sub.length ≤ 9223372036854775807 ∧ sub ≠ [] then some (Lib.index s sub) else none
def L_bCount (s sub : List UInt8) : Option Int := match sub with
  | [c] => some ((Lib.countByte s c : Nat) : Int)
  | _ => none
def L_Trim (s cs : List UInt8) : Option (List UInt8) := if s.length ≤ 9223372036854775807 ∧ cs.length < 4294967281 ∧ cs.all (fun b => decide (b.toNat < 128)) = true then some (Lib.trimS s cs) else none
def L_SimpleFold (r : Int) : Option Int := if r = 120 then some 88 else if r = 88 then some 120 else if r = 109 then some 77 else if r = 77 then some 109 else if r = 108 then some 76 else if r = 76 then some 108 else none
theorem ifO {α : Type} {c : Prop} [Decidable c] {x y : α} (h : (if c then some x else none) = some y) : c ∧ x = y := by
  split at h
  · rename_i hc; exact ⟨hc, Option.some.inj h⟩
  · simp at h
theorem size_ba (s : List UInt8) : (⟨s.toArray⟩ : ByteArray).size = s.length := by simp [ByteArray.size]
theorem below_drewN {w : World} {n : Nat} : Below w.heap.size w (w.drewN n) := ⟨rfl, rfl, rfl, Nat.le_refl _, fun _ _ => rfl⟩
theorem L_IndexByte_w (p0 : List UInt8) (p1 : Int) {G : Int → Prop} (h : Heap) (hF : OptP (L_IndexByte p0 p1) G) : CallsA Tryz.prog 45 [.str p0, .int .u8 p1] h fun d h' => ∃ r, G r ∧ d = .int .i64 r ∧ h' = h := by
  obtain ⟨r, hr, hG⟩ := hF
  refine callsA_of (d := .int .i64 r) (by kernel_rfl) ⟨r, hG, rfl, rfl⟩ fun K w vs H hl hv => ?_
  obtain rfl : vs = #[.string ⟨p0.toArray⟩, .int .u8 p1] := by rw [arr2 hl, rel_str (hv 0), rel_int (hv 1)]
  refine (Any.strings_IndexByte Tryz.lays137 ⟨p0.toArray⟩ p1 w).mono fun e w' ⟨he, hw⟩ => ?_
  subst hw
  exact ⟨_, K, he, Ext.refl K, H, by rw [← Option.some.inj hr]; exact .int _ _⟩
theorem L_Cut_w (p0 p1 : List UInt8) {G : List UInt8 × List UInt8 × Bool → Prop} (h : Heap) (hF : OptP (L_Cut p0 p1) G) : CallsA Tryz.prog 101 [.str p0, .str p1] h fun d h' => ∃ r, G r ∧ d = .tup [.str r.1, .str r.2.1, .bool r.2.2] ∧ h' = h := by
  obtain ⟨r, hr, hG⟩ := hF
  obtain ⟨h0, rfl⟩ := ifO hr
  refine callsA_of (d := .tup [.str (Lib.cut p0 p1).1, .str (Lib.cut p0 p1).2.1, .bool (Lib.cut p0 p1).2.2]) (by kernel_rfl) ⟨_, hG, rfl, rfl⟩ fun K w vs H hl hv => ?_
  obtain rfl : vs = #[.string ⟨p0.toArray⟩, .string ⟨p1.toArray⟩] := by rw [arr2 hl, rel_str (hv 0), rel_str (hv 1)]
  refine (Any.strings_Cut_shaped Tryz.laysM145 ⟨p0.toArray⟩ ⟨p1.toArray⟩ w H.tab.1 (by rw [size_ba]; exact h0)).mono fun e w' ⟨he, n, hw⟩ => ?_
  subst hw
  refine ⟨_, K, he, Ext.refl K, H.under below_drewN, .tup _ _ rfl fun i => ?_⟩
  match i with
  | 0 => exact .str _
  | 1 => exact .str _
  | 2 => exact .bool _
  | i + 3 => exact .any _
theorem L_DecodeRune_w (p0 : List UInt8) {G : Int × Int → Prop} (h : Heap) (hF : OptP (L_DecodeRune p0) G) : CallsA Tryz.prog 43 [.sl 1 (List.map c_u8 p0) 0] h fun d h' => ∃ r, G r ∧ d = .tup [.int .i32 r.1, .int .i64 r.2] ∧ h' = h := by
  obtain ⟨r, hr, hG⟩ := hF
  unfold L_DecodeRune at hr
  split at hr
  · simp at hr
  · rename_i hne
    injection hr with hr
    subst hr
    refine callsA_of (d := .tup [.int .i32 (Lib.decodeGo ⟨p0.toArray⟩).1, .int .i64 (Lib.decodeGo ⟨p0.toArray⟩).2]) (by kernel_rfl) ⟨_, hG, rfl, rfl⟩ fun K w vs H hl hv => ?_
    rcases rel_sl (c := fun b : UInt8 => .int .u8 b.toNat) H (hv 0) with ⟨h0, _⟩ | ⟨b, o, cap, hvs, hcap, hce⟩
    · exact absurd h0 hne
    · obtain rfl : vs = #[.slice (some ⟨b, o, none⟩) p0.length cap] := by rw [arr1 hl, hvs]
      have c := Any7.utf8_DecodeRune Tryz.lays732 ⟨p0.toArray⟩ b o cap w H.tab.2.1 (fun j hj => by
        rw [size_ba] at hj
        obtain ⟨u, hu, hr⟩ := hce j p0[j] (List.getElem?_eq_getElem hj)
        rw [hu, rel_int hr]
        have : (⟨p0.toArray⟩ : ByteArray).get! j = p0[j] := by simp [ByteArray.get!, hj]
        rw [this])
      rw [size_ba] at c
      refine Calls.mono c fun e w' ⟨he, hb⟩ => ?_
      refine ⟨_, K, he, Ext.refl K, H.under hb, .tup _ _ rfl fun i => ?_⟩
      match i with
      | 0 => exact .int _ _
      | 1 => exact .int _ _
      | i + 2 => exact .any _
theorem L_ValidString_w (p0 : List UInt8) {G : Bool → Prop} (h : Heap) (hF : OptP (L_ValidString p0) G) : CallsA Tryz.prog 79 [.str p0] h fun d h' => ∃ r, G r ∧ d = .bool r ∧ h' = h := by
  obtain ⟨r, hr, hG⟩ := hF
  obtain ⟨h0, rfl⟩ := ifO hr
  refine callsA_of (d := .bool (Lib.validD p0)) (by kernel_rfl) ⟨_, hG, rfl, rfl⟩ fun K w vs H hl hv => ?_
  obtain rfl : vs = #[.string ⟨p0.toArray⟩] := by rw [arr1 hl, rel_str (hv 0)]
  refine (Any.utf8_ValidString Tryz.lays196 ⟨p0.toArray⟩ w (by rw [size_ba]; exact h0) H.tab.2.1).mono fun e w' ⟨he, hb⟩ => ?_
  exact ⟨_, K, he, Ext.refl K, H.under hb, .bool _⟩
theorem L_DecodeRuneInString_w (p0 : List UInt8) {G : Int × Int → Prop} (h : Heap) (hF : OptP (L_DecodeRuneInString p0) G) : CallsA Tryz.prog 71 [.str p0] h fun d h' => ∃ r, G r ∧ d = .tup [.int .i32 r.1, .int .i64 r.2] ∧ h' = h := by
  obtain ⟨r, hr, hG⟩ := hF
  injection hr with hr
  subst hr
  refine callsA_of (d := .tup [.int .i32 (Lib.decodeGo ⟨p0.toArray⟩).1, .int .i64 (Lib.decodeGo ⟨p0.toArray⟩).2]) (by kernel_rfl) ⟨_, hG, rfl, rfl⟩ fun K w vs H hl hv => ?_
  obtain rfl : vs = #[.string ⟨p0.toArray⟩] := by rw [arr1 hl, rel_str (hv 0)]
  refine (Any.utf8_DecodeRuneInString Tryz.lays197 ⟨p0.toArray⟩ w H.tab.2.1).mono fun e w' ⟨he, hb⟩ => ?_
  refine ⟨_, K, he, Ext.refl K, H.under hb, .tup _ _ rfl fun i => ?_⟩
  match i with
  | 0 => exact .int _ _
  | 1 => exact .int _ _
  | i + 2 => exact .any _
theorem addr_plus (b o i : Nat) : ((⟨b, o, none⟩ : Addr).add i) = ⟨b, o + i, none⟩ := by simp [Addr.add]
theorem rel_bytes {K : Kn} {h : Heap} {w : World} {v : Value} {l : List UInt8} (H : HR K h w) (hv : VR K v (.sl 1 (List.map c_u8 l) 0)) :
    (l = [] ∧ ∃ a, v = .slice a 0 0) ∨ ∃ b o cap, v = .slice (some ⟨b, o, none⟩) l.length cap ∧ l.length ≤ cap ∧ ∀ i, i < l.length → w.cell? ((⟨b, o, none⟩ : Addr).add i) = some (.int .u8 ((l.map fun b => (b.toNat : Int)).getD i 0)) := by
  rcases rel_sl (c := fun b : UInt8 => .int .u8 b.toNat) H hv with ⟨h0, h1⟩ | ⟨b, o, cap, hvs, hcap, hce⟩
  · exact .inl ⟨h0, h1⟩
  · refine .inr ⟨b, o, cap, hvs, hcap, fun i hi => ?_⟩
    obtain ⟨u, hu, hr⟩ := hce i l[i] (List.getElem?_eq_getElem hi)
    have e := rel_int hr
    subst e
    rw [addr_plus, hu]
    simp [List.getD, hi]
theorem bytesOf_nat (l : List UInt8) : Lib.bytesOf (l.map fun b => (b.toNat : Int)) = l := by
  unfold Lib.bytesOf
  rw [List.map_map]
  conv => rhs; rw [← List.map_id l]
  apply List.map_congr_left
  intro b _
  simp
theorem L_bIndexByte_w (p0 : List UInt8) (p1 : Int) {G : Int → Prop} (h : Heap) (hF : OptP (L_bIndexByte p0 p1) G) : CallsA Tryz.prog 54 [.sl 1 (List.map c_u8 p0) 0, .int .u8 p1] h fun d h' => ∃ r, G r ∧ d = .int .i64 r ∧ h' = h := by
  obtain ⟨r, hr, hG⟩ := hF
  injection hr with hr
  subst hr
  refine callsA_of (d := .int .i64 (Lib.indexByte p0 p1.toNat.toUInt8)) (by kernel_rfl) ⟨_, hG, rfl, rfl⟩ fun K w vs H hl hv => ?_
  have e1 := rel_int (hv 1)
  rcases rel_bytes H (hv 0) with ⟨rfl, a, e0⟩ | ⟨b, o, cap, e0, hcap, hce⟩
  · obtain rfl : vs = #[.slice a 0 0, .int .u8 p1] := by rw [arr2 hl, e0, e1]
    cases a with
    | none => exact (Any.bytes_IndexByte_nil Tryz.lays187 p1 w).mono fun e w' ⟨he, hw⟩ => by subst hw; exact ⟨_, K, he, Ext.refl K, H, .int _ _⟩
    | some a => exact (Any.bytes_IndexByte_at Tryz.lays187 a 0 0 [] p1 w rfl (fun i hi => by omega)).mono fun e w' ⟨he, hw⟩ => by subst hw; exact ⟨_, K, he, Ext.refl K, H, .int _ _⟩
  · obtain rfl : vs = #[.slice (some ⟨b, o, none⟩) p0.length cap, .int .u8 p1] := by rw [arr2 hl, e0, e1]
    refine (Any.bytes_IndexByte_at Tryz.lays187 ⟨b, o, none⟩ p0.length cap (p0.map fun b => (b.toNat : Int)) p1 w (by simp) hce).mono fun e w' ⟨he, hw⟩ => ?_
    subst hw
    rw [bytesOf_nat] at he
    exact ⟨_, K, he, Ext.refl K, H, .int _ _⟩
theorem byte_rng (l : List UInt8) : ∀ x ∈ l.map (fun b => (b.toNat : Int)), 0 ≤ x ∧ x < 256 := by
  intro x hx
  rw [List.mem_map] at hx
  obtain ⟨b, _, rfl⟩ := hx
  have := b.toNat_lt
  omega
theorem L_bIndex_w (p0 p1 : List UInt8) {G : Int → Prop} (h : Heap) (hF : OptP (L_bIndex p0 p1) G) : CallsA Tryz.prog 50 [.sl 1 (List.map c_u8 p0) 0, .sl 1 (List.map c_u8 p1) 0] h fun d h' => ∃ r, G r ∧ d = .int .i64 r ∧ h' = h := by
  obtain ⟨r, hr, hG⟩ := hF
  obtain ⟨⟨h0, h1, hne⟩, rfl⟩ := ifO hr
  refine callsA_of (d := .int .i64 (Lib.index p0 p1)) (by kernel_rfl) ⟨_, hG, rfl, rfl⟩ fun K w vs H hl hv => ?_
  rcases rel_bytes H (hv 1) with ⟨e, _⟩ | ⟨b2, o2, cap2, e1, hcap2, hce2⟩
  · exact absurd e hne
  rcases rel_bytes H (hv 0) with ⟨rfl, a, e0⟩ | ⟨b, o, cap, e0, hcap, hce⟩
  · obtain rfl : vs = #[.slice a 0 0, .slice (some ⟨b2, o2, none⟩) p1.length cap2] := by rw [arr2 hl, e0, e1]
    cases a with
    | none =>
      have hk0 : p1.length ≠ 0 := fun e => hne (List.eq_nil_of_length_eq_zero e)
      have hi0 : Lib.index ([] : List UInt8) p1 = -1 := by
        cases p1 with
        | nil => exact absurd rfl hne
        | cons c l => rfl
      refine (Any.bytes_Index_nil { Tryz.laysM185 with } (some ⟨b2, o2, none⟩) p1.length cap2 w h1 (fun hk => ⟨b2, o2, _, rfl, by
        have := hce2 0 (by omega)
        rw [addr_plus] at this
        simpa using this⟩)).mono fun e w' ⟨he, hw⟩ => ?_
      subst hw
      rw [if_neg hk0, ← hi0] at he
      exact ⟨_, K, he, Ext.refl K, H, .int _ _⟩
    | some a =>
      refine (Any.bytes_Index_at_shaped Tryz.laysM185 a ⟨b2, o2, none⟩ 0 0 p1.length cap2 [] (p1.map fun b => (b.toNat : Int)) w rfl (by simp) (by simp) (byte_rng _) (fun i hi => by omega) hce2 (Nat.le_refl _) (by omega) h1 H.tab.1).mono fun e w' ⟨he, q, hw⟩ => ?_
      subst hw
      rw [bytesOf_nat] at he
      exact ⟨_, K, he, Ext.refl K, H.under below_drewN, .int _ _⟩
  · obtain rfl : vs = #[.slice (some ⟨b, o, none⟩) p0.length cap, .slice (some ⟨b2, o2, none⟩) p1.length cap2] := by rw [arr2 hl, e0, e1]
    refine (Any.bytes_Index_at_shaped Tryz.laysM185 ⟨b, o, none⟩ ⟨b2, o2, none⟩ p0.length cap p1.length cap2 (p0.map fun b => (b.toNat : Int)) (p1.map fun b => (b.toNat : Int)) w (by simp) (by simp) (byte_rng _) (byte_rng _) hce hce2 hcap h0 h1 H.tab.1).mono fun e w' ⟨he, q, hw⟩ => ?_
    subst hw
    rw [bytesOf_nat, bytesOf_nat] at he
    exact ⟨_, K, he, Ext.refl K, H.under below_drewN, .int _ _⟩
theorem L_bCount_w (p0 p1 : List UInt8) {G : Int → Prop} (h : Heap) (hF : OptP (L_bCount p0 p1) G) : CallsA Tryz.prog 56 [.sl 1 (List.map c_u8 p0) 0, .sl 1 (List.map c_u8 p1) 0] h fun d h' => ∃ r, G r ∧ d = .int .i64 r ∧ h' = h := by
  obtain ⟨r, hr, hG⟩ := hF
  unfold L_bCount at hr
  split at hr
  · rename_i c
    injection hr with hr
    subst hr
    refine callsA_of (d := .int .i64 ((Lib.countByte p0 c : Nat) : Int)) (by kernel_rfl) ⟨_, hG, rfl, rfl⟩ fun K w vs H hl hv => ?_
    rcases rel_bytes H (hv 1) with ⟨e, _⟩ | ⟨b2, o2, cap2, e1, hcap2, hce2⟩
    · simp at e
    have hc2 : w.cell? ⟨b2, o2, none⟩ = some (.int .u8 (c.toNat : Int)) := by have := hce2 0 (by simp); rw [addr_plus] at this; simpa using this
    have hcc : ((c.toNat : Int)).toNat.toUInt8 = c := by simp
    rcases rel_bytes H (hv 0) with ⟨rfl, a, e0⟩ | ⟨b, o, cap, e0, hcap, hce⟩
    · obtain rfl : vs = #[.slice a 0 0, .slice (some ⟨b2, o2, none⟩) 1 cap2] := by rw [arr2 hl, e0, e1]; rfl
      cases a with
      | none => exact (Any.bytes_Count_one_nil Tryz.laysB13 b2 o2 cap2 _ w hc2).mono fun e w' ⟨he, hw⟩ => by subst hw; exact ⟨_, K, he, Ext.refl K, H, .int _ _⟩
      | some a =>
        refine (Any.bytes_Count_one_at Tryz.laysB13 a 0 0 b2 o2 cap2 [] _ w rfl (fun i hi => by omega) hc2).mono fun e w' ⟨he, hw⟩ => ?_
        subst hw
        rw [hcc] at he
        exact ⟨_, K, he, Ext.refl K, H, .int _ _⟩
    · obtain rfl : vs = #[.slice (some ⟨b, o, none⟩) p0.length cap, .slice (some ⟨b2, o2, none⟩) 1 cap2] := by rw [arr2 hl, e0, e1]; rfl
      refine (Any.bytes_Count_one_at Tryz.laysB13 ⟨b, o, none⟩ p0.length cap b2 o2 cap2 (p0.map fun b => (b.toNat : Int)) _ w (by simp) hce hc2).mono fun e w' ⟨he, hw⟩ => ?_
      subst hw
      rw [bytesOf_nat, hcc] at he
      exact ⟨_, K, he, Ext.refl K, H, .int _ _⟩
  · simp at hr
theorem L_Trim_w (p0 p1 : List UInt8) {G : List UInt8 → Prop} (h : Heap) (hF : OptP (L_Trim p0 p1) G) : CallsA Tryz.prog 70 [.str p0, .str p1] h fun d h' => ∃ r, G r ∧ d = .str r ∧ h' = h := by
  obtain ⟨r, hr, hG⟩ := hF
  obtain ⟨⟨h0, h1, h2⟩, rfl⟩ := ifO hr
  refine callsA_of (d := .str (Lib.trimS p0 p1)) (by kernel_rfl) ⟨_, hG, rfl, rfl⟩ fun K w vs H hl hv => ?_
  obtain rfl : vs = #[.string ⟨p0.toArray⟩, .string ⟨p1.toArray⟩] := by rw [arr2 hl, rel_str (hv 0), rel_str (hv 1)]
  refine (Any.strings_Trim_laid Tryz.lays160 (by kernel_rfl) ⟨p0.toArray⟩ ⟨p1.toArray⟩ w (by rw [size_ba]; exact h0) (by rw [size_ba]; exact h1) (ascii_of_all h2)).mono fun e w' ⟨he, hb⟩ => ?_
  exact ⟨_, K, he, Ext.refl K, H.under hb, .str _⟩
theorem L_SimpleFold_w (p0 : Int) {G : Int → Prop} (h : Heap) (hF : OptP (L_SimpleFold p0) G) : CallsA Tryz.prog 72 [.int .i32 p0] h fun d h' => ∃ r, G r ∧ d = .int .i32 r ∧ h' = h := by
  obtain ⟨r, hr, hG⟩ := hF
  refine callsA_of (d := .int .i32 r) (by kernel_rfl) ⟨_, hG, rfl, rfl⟩ fun K w vs H hl hv => ?_
  obtain rfl : vs = #[.int .i32 p0] := by rw [arr1 hl, rel_int (hv 0)]
  have key : ∀ (c : Nat) (v : Int), c < 128 → 0 ≤ v ∧ v < 128 → p0 = (c : Int) → r = v → w.cell? ⟨3, c, none⟩ = some (.int .u16 v) → Calls Tryz.prog 72 #[.int .i32 p0] w fun e w' => ∃ v K', e = .returned v ∧ Ext K K' ∧ HR K' h w' ∧ VR K' v (.int .i32 r) := by
    intro c v h1 h2 h3 h4 h5
    subst h3 h4
    exact (fold_one c r h1 h2 w h5).mono fun e w' ⟨he, hw⟩ => by subst hw; exact ⟨_, K, he, Ext.refl K, H, .int _ _⟩
  have T := H.tab.2.2
  unfold L_SimpleFold at hr
  split at hr
  · rename_i e; injection hr with hr
    obtain ⟨v, hv, c1, _⟩ := T 120 (by decide); exact key 120 88 (by decide) (by decide) e hr.symm (by rw [hv, c1 rfl])
  split at hr
  · rename_i e; injection hr with hr
    obtain ⟨v, hv, _, c1, _⟩ := T 88 (by decide); exact key 88 120 (by decide) (by decide) e hr.symm (by rw [hv, c1 rfl])
  split at hr
  · rename_i e; injection hr with hr
    obtain ⟨v, hv, _, _, c1, _⟩ := T 109 (by decide); exact key 109 77 (by decide) (by decide) e hr.symm (by rw [hv, c1 rfl])
  split at hr
  · rename_i e; injection hr with hr
    obtain ⟨v, hv, _, _, _, c1, _⟩ := T 77 (by decide); exact key 77 109 (by decide) (by decide) e hr.symm (by rw [hv, c1 rfl])
  split at hr
  · rename_i e; injection hr with hr
    obtain ⟨v, hv, _, _, _, _, c1, _⟩ := T 108 (by decide); exact key 108 76 (by decide) (by decide) e hr.symm (by rw [hv, c1 rfl])
  split at hr
  · rename_i e; injection hr with hr
    obtain ⟨v, hv, _, _, _, _, _, c1⟩ := T 76 (by decide); exact key 76 108 (by decide) (by decide) e hr.symm (by rw [hv, c1 rfl])
  · simp at hr
theorem L_IndexByte_ok {β : Type} {f : Int → Option β} {G : β → Prop} {R : D → Heap → Prop} {p0 : List UInt8} {p1 : Int} (h : Heap) (hF : OptP ((L_IndexByte p0 p1).bind f) G) (hk : ∀ r, L_IndexByte p0 p1 = some r → OptP (f r) G → R (.int .i64 r) h) : CallsA Tryz.prog 45 [.str p0, .int .u8 p1] h R :=
  ok_of (enc := fun r => .int .i64 r) (fun G h hF => L_IndexByte_w p0 p1 h hF) h hF hk
theorem L_Cut_ok {β : Type} {f : List UInt8 × List UInt8 × Bool → Option β} {G : β → Prop} {R : D → Heap → Prop} {p0 : List UInt8} {p1 : List UInt8} (h : Heap) (hF : OptP ((L_Cut p0 p1).bind f) G) (hk : ∀ r, L_Cut p0 p1 = some r → OptP (f r) G → R (.tup [.str r.1, .str r.2.1, .bool r.2.2]) h) : CallsA Tryz.prog 101 [.str p0, .str p1] h R :=
  ok_of (enc := fun r => .tup [.str r.1, .str r.2.1, .bool r.2.2]) (fun G h hF => L_Cut_w p0 p1 h hF) h hF hk
theorem L_DecodeRune_ok {β : Type} {f : Int × Int → Option β} {G : β → Prop} {R : D → Heap → Prop} {p0 : List UInt8} (h : Heap) (hF : OptP ((L_DecodeRune p0).bind f) G) (hk : ∀ r, L_DecodeRune p0 = some r → OptP (f r) G → R (.tup [.int .i32 r.1, .int .i64 r.2]) h) : CallsA Tryz.prog 43 [.sl 1 (List.map c_u8 p0) 0] h R :=
  ok_of (enc := fun r => .tup [.int .i32 r.1, .int .i64 r.2]) (fun G h hF => L_DecodeRune_w p0 h hF) h hF hk
theorem L_ValidString_ok {β : Type} {f : Bool → Option β} {G : β → Prop} {R : D → Heap → Prop} {p0 : List UInt8} (h : Heap) (hF : OptP ((L_ValidString p0).bind f) G) (hk : ∀ r, L_ValidString p0 = some r → OptP (f r) G → R (.bool r) h) : CallsA Tryz.prog 79 [.str p0] h R :=
  ok_of (enc := fun r => .bool r) (fun G h hF => L_ValidString_w p0 h hF) h hF hk
theorem L_DecodeRuneInString_ok {β : Type} {f : Int × Int → Option β} {G : β → Prop} {R : D → Heap → Prop} {p0 : List UInt8} (h : Heap) (hF : OptP ((L_DecodeRuneInString p0).bind f) G) (hk : ∀ r, L_DecodeRuneInString p0 = some r → OptP (f r) G → R (.tup [.int .i32 r.1, .int .i64 r.2]) h) : CallsA Tryz.prog 71 [.str p0] h R := by
  obtain ⟨r, hr, hF⟩ := F_bind hF
  exact (L_DecodeRuneInString_w p0 (G := fun q => q = r) h ⟨r, hr, rfl⟩).mono fun d h' ⟨q, hq, hd, hh⟩ => by subst hq; subst hd; subst hh; exact hk _ hr hF
theorem L_bIndexByte_ok {β : Type} {f : Int → Option β} {G : β → Prop} {R : D → Heap → Prop} {p0 : List UInt8} {p1 : Int} (h : Heap) (hF : OptP ((L_bIndexByte p0 p1).bind f) G) (hk : ∀ r, L_bIndexByte p0 p1 = some r → OptP (f r) G → R (.int .i64 r) h) : CallsA Tryz.prog 54 [.sl 1 (List.map c_u8 p0) 0, .int .u8 p1] h R := by
  obtain ⟨r, hr, hF⟩ := F_bind hF
  exact (L_bIndexByte_w p0 p1 (G := fun q => q = r) h ⟨r, hr, rfl⟩).mono fun d h' ⟨q, hq, hd, hh⟩ => by subst hq; subst hd; subst hh; exact hk _ hr hF
theorem L_bIndex_ok {β : Type} {f : Int → Option β} {G : β → Prop} {R : D → Heap → Prop} {p0 : List UInt8} {p1 : List UInt8} (h : Heap) (hF : OptP ((L_bIndex p0 p1).bind f) G) (hk : ∀ r, L_bIndex p0 p1 = some r → OptP (f r) G → R (.int .i64 r) h) : CallsA Tryz.prog 50 [.sl 1 (List.map c_u8 p0) 0, .sl 1 (List.map c_u8 p1) 0] h R := by
  obtain ⟨r, hr, hF⟩ := F_bind hF
  exact (L_bIndex_w p0 p1 (G := fun q => q = r) h ⟨r, hr, rfl⟩).mono fun d h' ⟨q, hq, hd, hh⟩ => by subst hq; subst hd; subst hh; exact hk _ hr hF
theorem L_bCount_ok {β : Type} {f : Int → Option β} {G : β → Prop} {R : D → Heap → Prop} {p0 : List UInt8} {p1 : List UInt8} (h : Heap) (hF : OptP ((L_bCount p0 p1).bind f) G) (hk : ∀ r, L_bCount p0 p1 = some r → OptP (f r) G → R (.int .i64 r) h) : CallsA Tryz.prog 56 [.sl 1 (List.map c_u8 p0) 0, .sl 1 (List.map c_u8 p1) 0] h R := by
  obtain ⟨r, hr, hF⟩ := F_bind hF
  exact (L_bCount_w p0 p1 (G := fun q => q = r) h ⟨r, hr, rfl⟩).mono fun d h' ⟨q, hq, hd, hh⟩ => by subst hq; subst hd; subst hh; exact hk _ hr hF
theorem L_Trim_ok {β : Type} {f : List UInt8 → Option β} {G : β → Prop} {R : D → Heap → Prop} {p0 : List UInt8} {p1 : List UInt8} (h : Heap) (hF : OptP ((L_Trim p0 p1).bind f) G) (hk : ∀ r, L_Trim p0 p1 = some r → OptP (f r) G → R (.str r) h) : CallsA Tryz.prog 70 [.str p0, .str p1] h R := by
  obtain ⟨r, hr, hF⟩ := F_bind hF
  exact (L_Trim_w p0 p1 (G := fun q => q = r) h ⟨r, hr, rfl⟩).mono fun d h' ⟨q, hq, hd, hh⟩ => by subst hq; subst hd; subst hh; exact hk _ hr hF
theorem L_SimpleFold_ok {β : Type} {f : Int → Option β} {G : β → Prop} {R : D → Heap → Prop} {p0 : Int} (h : Heap) (hF : OptP ((L_SimpleFold p0).bind f) G) (hk : ∀ r, L_SimpleFold p0 = some r → OptP (f r) G → R (.int .i32 r) h) : CallsA Tryz.prog 72 [.int .i32 p0] h R := by
  obtain ⟨r, hr, hF⟩ := F_bind hF
  exact (L_SimpleFold_w p0 (G := fun q => q = r) h ⟨r, hr, rfl⟩).mono fun d h' ⟨q, hq, hd, hh⟩ => by subst hq; subst hd; subst hh; exact hk _ hr hF
end Go.Proofs.YtfokkdofcekdbaaGreatDoor
