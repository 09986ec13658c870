/- The library's functions that are met by their contracts, as plain functions. No condition. -/
import Derived.Laws.Externs
import Derived.Test.YtjofelloaofooaaGreatDoorEB
import Derived.Test.YtjofelloaofooaaGreatDoorSp
import Derived.Test.YtjofelloaofooaaGreatDoorLsf
set_option linter.unusedSimpArgs false
set_option linter.unusedVariables false
namespace Go.Proofs.YtjofelloaofooaaGreatDoor
open Go.Proofs.Tryz
open Go.RowKit
theorem ifO {α : Type} {c : Prop} [Decidable c] {x y : α} (h : (if c then some x else none) = some y) : c /\ x = y := by
 split at h
 ·rename_i hc; exact ⟨hc, Option.some.inj h⟩
 ·simp at h
theorem GQ (s : List By8) : (⟨s.toArray⟩ : ByteArray).size = s.length := by simp [ByteArray.size]
theorem Nw {w : World} {n : Nat} {os : Array Obj} : Below w.heap.size w (Go.Sort.grow (w.drewN n) os) :=
  ⟨rfl, rfl, rfl, by simp [Go.Sort.grow, World.drewN], fun k hk => by show (w.heap ++ os)[k]? = _; rw [Array.getElem?_append_left hk]⟩
def L_IndexByte (s : List By8) (c : Int) : Option Int := some (Lib.indexByte s c.toNat.toUInt8)
def L_DecodeRune (b : List By8) : Option (Int × Int) := if b = [] then none else some (((Lib.decodeGo ⟨b.toArray⟩).1 : Int), ((Lib.decodeGo ⟨b.toArray⟩).2 : Int))
theorem L_DecodeRune_w (p0 : List By8) {G : Int × Int -> Prop} (h : Heap) (hF : OptP (L_DecodeRune p0) G) : CallsA prog 162 [.sl 1 (List.map IY p0) 0] h fun d h' => ∃ r, G r /\ d = .tup [.int .i32 r.1, .int .i64 r.2] /\ h' = h := by
 obtain ⟨r, hr, hG⟩ := hF;unfold L_DecodeRune at hr;split at hr
 ·simp at hr
 ·rename_i hne;injection hr with hr
  subst hr;refine Ea (d := .tup [.int .i32 (Lib.decodeGo ⟨p0.toArray⟩).1, .int .i64 (Lib.decodeGo ⟨p0.toArray⟩).2]) (by kernel_rfl) ⟨_, hG, rfl, rfl⟩ fun K w vs H hl hv => ?_;rcases Vs (c := fun b : By8 => .int .u8 b.toNat) H (hv 0) with ⟨h0, _⟩ | ⟨b, o, cap, hvs, hcap, hce⟩
  ·exact absurd h0 hne
  ·obtain rfl : vs = #[.slice (some ⟨b, o, none⟩) p0.length cap] := by rw [Ky hl, hvs]
   have c := Any7.utf8_DecodeRune Tryz.lays732 ⟨p0.toArray⟩ b o cap w H.tab.2.1 (fun j hj => by
    rw [GQ] at hj;obtain ⟨u, hu, hr⟩ := hce j p0[j] (List.getElem?_eq_getElem hj);rw [hu, Ke hr];have : (⟨p0.toArray⟩ : ByteArray).get! j = p0[j] := by simp [ByteArray.get!, hj]
    rw [this])
   rw [GQ] at c;refine Calls.mono c fun e w' ⟨he, hb⟩ => ?_;refine ⟨_, K, he, Ext.refl K, H.under hb, .tup _ _ rfl fun i => ?_⟩
   match i with
   | 0 => exact .int _ _
   | 1 => exact .int _ _
   | i + 2 => exact .any _
theorem L_DecodeRune_ok {β : Type} {f : Int × Int -> Option β} {G : β -> Prop} {R : D -> Heap -> Prop} {p0 : List By8} (h : Heap) (hF : OptP ((L_DecodeRune p0).bind f) G) (hk : ∀ r, L_DecodeRune p0 = some r -> OptP (f r) G -> R (.tup [.int .i32 r.1, .int .i64 r.2]) h) : CallsA prog 162 [.sl 1 (List.map IY p0) 0] h R :=
 B6 (enc := fun r => .tup [.int .i32 r.1, .int .i64 r.2]) (fun G h hF => L_DecodeRune_w p0 h hF) h hF hk
def L_DecodeRuneInString (b : List By8) : Option (Int × Int) := some (((Lib.decodeGo ⟨b.toArray⟩).1 : Int), ((Lib.decodeGo ⟨b.toArray⟩).2 : Int))
theorem L_DecodeRuneInString_w (p0 : List By8) {G : Int × Int -> Prop} (h : Heap) (hF : OptP (L_DecodeRuneInString p0) G) : CallsA prog 109 [.str p0] h fun d h' => ∃ r, G r /\ d = .tup [.int .i32 r.1, .int .i64 r.2] /\ h' = h := by
 obtain ⟨r, hr, hG⟩ := hF;injection hr with hr
 subst hr;refine Ea (d := .tup [.int .i32 (Lib.decodeGo ⟨p0.toArray⟩).1, .int .i64 (Lib.decodeGo ⟨p0.toArray⟩).2]) (by kernel_rfl) ⟨_, hG, rfl, rfl⟩ fun K w vs H hl hv => ?_;obtain rfl : vs = #[.string ⟨p0.toArray⟩] := by rw [Ky hl, Fi (hv 0)]
 refine (Any.utf8_DecodeRuneInString Tryz.lays197 ⟨p0.toArray⟩ w H.tab.2.1).mono fun e w' ⟨he, hb⟩ => ?_;refine ⟨_, K, he, Ext.refl K, H.under hb, .tup _ _ rfl fun i => ?_⟩
 match i with
 | 0 => exact .int _ _
 | 1 => exact .int _ _
 | i + 2 => exact .any _
theorem L_DecodeRuneInString_ok {β : Type} {f : Int × Int -> Option β} {G : β -> Prop} {R : D -> Heap -> Prop} {p0 : List By8} (h : Heap) (hF : OptP ((L_DecodeRuneInString p0).bind f) G) (hk : ∀ r, L_DecodeRuneInString p0 = some r -> OptP (f r) G -> R (.tup [.int .i32 r.1, .int .i64 r.2]) h) : CallsA prog 109 [.str p0] h R := by
 obtain ⟨r, hr, hF⟩ := Bp hF;exact (L_DecodeRuneInString_w p0 (G := fun q => q = r) h ⟨r, hr, rfl⟩).mono fun d h' ⟨q, hq, hd, hh⟩ => by subst hq; subst hd; subst hh; exact hk _ hr hF
def L_ValidString (s : List By8) : Option Bool := if s.length <= 9223372036854775807 then some (Lib.validD s) else none
theorem L_ValidString_w (p0 : List By8) {G : Bool -> Prop} (h : Heap) (hF : OptP (L_ValidString p0) G) : CallsA prog 106 [.str p0] h fun d h' => ∃ r, G r /\ d = .bool r /\ h' = h := by
 obtain ⟨r, hr, hG⟩ := hF;obtain ⟨h0, rfl⟩ := ifO hr;refine Ea (d := .bool (Lib.validD p0)) (by kernel_rfl) ⟨_, hG, rfl, rfl⟩ fun K w vs H hl hv => ?_;obtain rfl : vs = #[.string ⟨p0.toArray⟩] := by rw [Ky hl, Fi (hv 0)]
 refine (Any.utf8_ValidString Tryz.lays196 ⟨p0.toArray⟩ w (by rw [GQ]; exact h0) H.tab.2.1).mono fun e w' ⟨he, hb⟩ => ?_;exact ⟨_, K, he, Ext.refl K, H.under hb, .bool _⟩
theorem L_ValidString_ok {β : Type} {f : Bool -> Option β} {G : β -> Prop} {R : D -> Heap -> Prop} {p0 : List By8} (h : Heap) (hF : OptP ((L_ValidString p0).bind f) G) (hk : ∀ r, L_ValidString p0 = some r -> OptP (f r) G -> R (.bool r) h) : CallsA prog 106 [.str p0] h R :=
 B6 (enc := fun r => .bool r) (fun G h hF => L_ValidString_w p0 h hF) h hF hk
def L_Contains (s sub : List By8) : Option Bool := if s.length < 4294967281 then some (Lib.contains s sub) else none
theorem L_Contains_w (p0 p1 : List By8) {G : Bool -> Prop} (h : Heap) (hF : OptP (L_Contains p0 p1) G) : CallsA prog 78 [.str p0, .str p1] h fun d h' => ∃ r, G r /\ d = .bool r /\ h' = h := by
 obtain ⟨r, hr, hG⟩ := hF;obtain ⟨h0, rfl⟩ := ifO hr;refine Ea (d := .bool (Lib.contains p0 p1)) (by kernel_rfl) ⟨_, hG, rfl, rfl⟩ fun K w vs H hl hv => ?_;obtain rfl : vs = #[.string ⟨p0.toArray⟩, .string ⟨p1.toArray⟩] := by rw [TM hl, Fi (hv 0), Fi (hv 1)]
 refine (Any.strings_Contains_shaped Tryz.laysM144 ⟨p0.toArray⟩ ⟨p1.toArray⟩ w H.tab.1 (by rw [GQ]; exact h0)).mono fun e w' ⟨he, hw⟩ => ?_;subst hw;exact ⟨_, K, he, Ext.refl K, H, .bool _⟩
theorem L_Contains_ok {β : Type} {f : Bool -> Option β} {G : β -> Prop} {R : D -> Heap -> Prop} {p0 : List By8} {p1 : List By8} (h : Heap) (hF : OptP ((L_Contains p0 p1).bind f) G) (hk : ∀ r, L_Contains p0 p1 = some r -> OptP (f r) G -> R (.bool r) h) : CallsA prog 78 [.str p0, .str p1] h R := by
 obtain ⟨r, hr, hF⟩ := Bp hF;exact (L_Contains_w p0 p1 (G := fun q => q = r) h ⟨r, hr, rfl⟩).mono fun d h' ⟨q, hq, hd, hh⟩ => by subst hq; subst hd; subst hh; exact hk _ hr hF
def L_TrimLeft (s cs : List By8) : Option (List By8) := if cs.length < 4294967281 /\ cs.all (fun b => decide (b.toNat < 128)) = true then some (Lib.trimLeftS s cs) else none
theorem L_TrimLeft_w (p0 p1 : List By8) {G : List By8 -> Prop} (h : Heap) (hF : OptP (L_TrimLeft p0 p1) G) : CallsA prog 80 [.str p0, .str p1] h fun d h' => ∃ r, G r /\ d = .str r /\ h' = h := by
 obtain ⟨r, hr, hG⟩ := hF;obtain ⟨⟨h1, h2⟩, rfl⟩ := ifO hr;refine Ea (d := .str (Lib.trimLeftS p0 p1)) (by kernel_rfl) ⟨_, hG, rfl, rfl⟩ fun K w vs H hl hv => ?_;obtain rfl : vs = #[.string ⟨p0.toArray⟩, .string ⟨p1.toArray⟩] := by rw [TM hl, Fi (hv 0), Fi (hv 1)]
 refine (Any.strings_TrimLeft_laid Tryz.lays161 (by kernel_rfl) ⟨p0.toArray⟩ ⟨p1.toArray⟩ w (by rw [GQ]; exact h1) (ascii_of_all h2)).mono fun e w' ⟨he, hb⟩ => ?_;exact ⟨_, K, he, Ext.refl K, H.under hb, .str _⟩
theorem L_TrimLeft_ok {β : Type} {f : List By8 -> Option β} {G : β -> Prop} {R : D -> Heap -> Prop} {p0 : List By8} {p1 : List By8} (h : Heap) (hF : OptP ((L_TrimLeft p0 p1).bind f) G) (hk : ∀ r, L_TrimLeft p0 p1 = some r -> OptP (f r) G -> R (.str r) h) : CallsA prog 80 [.str p0, .str p1] h R := by
 obtain ⟨r, hr, hF⟩ := Bp hF;exact (L_TrimLeft_w p0 p1 (G := fun q => q = r) h ⟨r, hr, rfl⟩).mono fun d h' ⟨q, hq, hd, hh⟩ => by subst hq; subst hd; subst hh; exact hk _ hr hF
def L_SimpleFold (r : Int) : Option Int := if r = 120 then some 88 else if r = 88 then some 120 else if r = 109 then some 77 else if r = 77 then some 109 else if r = 108 then some 76 else if r = 76 then some 108 else none
theorem L_SimpleFold_w (p0 : Int) {G : Int -> Prop} (h : Heap) (hF : OptP (L_SimpleFold p0) G) : CallsA prog 110 [.int .i32 p0] h fun d h' => ∃ r, G r /\ d = .int .i32 r /\ h' = h := by
 obtain ⟨r, hr, hG⟩ := hF;refine Ea (d := .int .i32 r) (by kernel_rfl) ⟨_, hG, rfl, rfl⟩ fun K w vs H hl hv => ?_;obtain rfl : vs = #[.int .i32 p0] := by rw [Ky hl, Ke (hv 0)]
 have key : ∀ (c : Nat) (v : Int), c < 128 -> 0 <= v /\ v < 128 -> p0 = (c : Int) -> r = v -> w.cell? ⟨2, c, none⟩ = some (.int .u16 v) -> Calls prog 110 #[.int .i32 p0] w fun e w' => ∃ v K', e = .returned v /\ Ext K K' /\ HR K' h w' /\ VR K' v (.int .i32 r) := by
  intro c v h1 h2 h3 h4 h5;subst h3 h4;exact (QA c r h1 h2 w h5).mono fun e w' ⟨he, hw⟩ => by subst hw; exact ⟨_, K, he, Ext.refl K, H, .int _ _⟩
 have T := H.tab.2.2.1;unfold L_SimpleFold at hr;split at hr
 ·rename_i e; injection hr with hr
  obtain ⟨v, hv, c1, _⟩ := T 120 (by decide); exact key 120 88 (by decide) (by decide) e hr.symm (by rw [hv, c1 rfl])
 split at hr
 ·rename_i e; injection hr with hr
  obtain ⟨v, hv, _, c1, _⟩ := T 88 (by decide); exact key 88 120 (by decide) (by decide) e hr.symm (by rw [hv, c1 rfl])
 split at hr
 ·rename_i e; injection hr with hr
  obtain ⟨v, hv, _, _, c1, _⟩ := T 109 (by decide); exact key 109 77 (by decide) (by decide) e hr.symm (by rw [hv, c1 rfl])
 split at hr
 ·rename_i e; injection hr with hr
  obtain ⟨v, hv, _, _, _, c1, _⟩ := T 77 (by decide); exact key 77 109 (by decide) (by decide) e hr.symm (by rw [hv, c1 rfl])
 split at hr
 ·rename_i e; injection hr with hr
  obtain ⟨v, hv, _, _, _, _, c1, _⟩ := T 108 (by decide); exact key 108 76 (by decide) (by decide) e hr.symm (by rw [hv, c1 rfl])
 split at hr
 ·rename_i e; injection hr with hr
  obtain ⟨v, hv, _, _, _, _, _, c1⟩ := T 76 (by decide); exact key 76 108 (by decide) (by decide) e hr.symm (by rw [hv, c1 rfl])
 ·simp at hr
theorem L_SimpleFold_ok {β : Type} {f : Int -> Option β} {G : β -> Prop} {R : D -> Heap -> Prop} {p0 : Int} (h : Heap) (hF : OptP ((L_SimpleFold p0).bind f) G) (hk : ∀ r, L_SimpleFold p0 = some r -> OptP (f r) G -> R (.int .i32 r) h) : CallsA prog 110 [.int .i32 p0] h R := by
 obtain ⟨r, hr, hF⟩ := Bp hF;exact (L_SimpleFold_w p0 (G := fun q => q = r) h ⟨r, hr, rfl⟩).mono fun d h' ⟨q, hq, hd, hh⟩ => by subst hq; subst hd; subst hh; exact hk _ hr hF
def L_Itoa (n : Int) : Option (List By8) := if -9223372036854775808 <= n /\ n <= 9223372036854775807 then some (Lib.itoa n) else none
theorem L_Itoa_w (p0 : Int) {G : List By8 -> Prop} (h : Heap) (hF : OptP (L_Itoa p0) G) : CallsA prog 137 [.int .i64 p0] h fun d h' => ∃ r, G r /\ d = .str r /\ h' = h := by
  obtain ⟨r, hr, hG⟩ := hF;obtain ⟨⟨h0, h1⟩, rfl⟩ := ifO hr;refine Ea (d := .str (Lib.itoa p0)) (by kernel_rfl) ⟨_, hG, rfl, rfl⟩ fun K w vs H hl hv => ?_;obtain rfl : vs = #[.int .i64 p0] := by rw [Ky hl, Ke (hv 0)]
  refine (Any.strconv_Itoa Tryz.laysM171 p0 h0 h1 w H.tab.2.2.2).mono fun e w' ⟨he, k, os, hw⟩ => ?_;subst hw;exact ⟨_, K, he, Ext.refl K, H.under Nw, .str _⟩
theorem L_Itoa_ok {β : Type} {f : List By8 -> Option β} {G : β -> Prop} {R : D -> Heap -> Prop} {p0 : Int} (h : Heap) (hF : OptP ((L_Itoa p0).bind f) G) (hk : ∀ r, L_Itoa p0 = some r -> OptP (f r) G -> R (.str r) h) : CallsA prog 137 [.int .i64 p0] h R :=
  B6 (enc := fun r => .str r) (fun G h hF => L_Itoa_w p0 h hF) h hF hk
end Go.Proofs.YtjofelloaofooaaGreatDoor
