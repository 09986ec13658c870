/- The walks. No condition. -/
import Derived.Test.YtilhbalhkljanaaGreatDoorWs
import Derived.Test.YtilhbalhkljanaaGreatDoorWk1
set_option linter.unusedVariables false
set_option linter.unusedSimpArgs false
set_option maxRecDepth 20000
set_option maxHeartbeats 8000000
namespace Go.Proofs.YtilhbalhkljanaaGreatDoor
theorem Kg (p0 : List UInt8) {G : (List UInt8) × Int × Int → Prop} (h : Heap) (hF : Ap (BD p0) G) : CallsA Tryz.prog 125 [.sl 1 (List.map AH p0) 0] h fun d h' => ∃ r, G r ∧ d = .tup [.str r.1, .int .i64 r.2.1, .int .i64 r.2.2] ∧ h' = h := by
 refine CallsA.ret ?_
 refine B2 Tryz.func125 rfl ZY Tryz.ntmps125 rfl (fun ok => ?_)
 rw [BD] at hF
 refine Bz ?_
 refine S_a (v := .str ([] : List UInt8)) rfl ?_
 refine HX ?_
 refine Gm ?_
 refine cl (A4 (fun _ h hF => Jw _ _ h hF) _ hF fun x1 _ hF => ?_)
 refine XO ?_
 refine Ot ?_
 refine Ir ?_
 refine H3 ?_
 exact rt
theorem I9 (p0 : TS) (p1 : TK) (q0 : Nat) (q1 : Nat) (b1_3 : Nat) {G : Int × TS × TK → Prop} (h : Heap) (O : List (Nat × AObj)) (hq0 : q0 ≠ 0) (hq1 : q1 ≠ 0) (zb1_3 : b1_3 = 0 → p1.Pairs = []) (ok : OK h ((q0, .cells [.sl 1 (List.map AH p0.b) 0, .int .i64 p0.at_]) :: (q1, .cells [.int .i64 p1.Kind, .int .i64 p1.At, .str p1.Name, As 2 b1_3 p1.Pairs, .str p1.Text, .int .i64 p1.Refs]) :: mo b1_3 cP p1.Pairs :: O)) (hF : Ap (BJ p0 p1) G) : CallsA Tryz.prog 85 [.ptr q0 0, .ptr q1 0] (Hp h ((q0, .cells [.sl 1 (List.map AH p0.b) 0, .int .i64 p0.at_]) :: (q1, .cells [.int .i64 p1.Kind, .int .i64 p1.At, .str p1.Name, As 2 b1_3 p1.Pairs, .str p1.Text, .int .i64 p1.Refs]) :: mo b1_3 cP p1.Pairs :: O)) fun d h' => ∃ r, G r ∧ d = .int .i64 r.1 ∧ ∃ b1_3' : Nat, (b1_3' = 0 → r.2.2.Pairs = []) ∧ OK h ((q0, .cells [.sl 1 (List.map AH r.2.1.b) 0, .int .i64 r.2.1.at_]) :: (q1, .cells [.int .i64 r.2.2.Kind, .int .i64 r.2.2.At, .str r.2.2.Name, As 2 b1_3' r.2.2.Pairs, .str r.2.2.Text, .int .i64 r.2.2.Refs]) :: mo b1_3' cP r.2.2.Pairs :: O) ∧ h' = Hp h ((q0, .cells [.sl 1 (List.map AH r.2.1.b) 0, .int .i64 r.2.1.at_]) :: (q1, .cells [.int .i64 r.2.2.Kind, .int .i64 r.2.2.At, .str r.2.2.Name, As 2 b1_3' r.2.2.Pairs, .str r.2.2.Text, .int .i64 r.2.2.Refs]) :: mo b1_3' cP r.2.2.Pairs :: O) := by
 refine CallsA.ret ?_
 refine CB Tryz.func85 rfl dm Tryz.ntmps85 rfl ?_
 rw [BJ] at hF
 refine Gd ?_
 refine R6 ?_
 refine Ck (j := 1) (cs' := [.int .i64 (5 : Int), .int .i64 p1.At, .str p1.Name, As 2 b1_3 p1.Pairs, .str p1.Text, .int .i64 p1.Refs]) ok rfl rfl rfl hq1 rfl Bb rfl rfl (fun ok => ?_)
 refine GQ ?_
 refine EP (mdl []) (by kernel_rfl) (by kernel_rfl) ?_
 refine VK ?_
 refine Gy rfl BQ C0 (ED rfl) HM hF (fun x1 _ hF => ?_)
 refine RU ?_
 refine Bf hF (fun (a5 : (List UInt8)) s' => OK h ((q0, .cells [.sl 1 (List.map AH p0.b) 0, .int .i64 p0.at_]) :: (q1, .cells [.int .i64 (5 : Int), .int .i64 p1.At, .str p1.Name, As 2 b1_3 p1.Pairs, .str p1.Text, .int .i64 p1.Refs]) :: mo b1_3 cP p1.Pairs :: O) ∧ WS s' ⟨Ak 56 [(0, .ptr q0 0), (1, .ptr q1 0), (5, .sl 1 (List.map AH a5) 0)], Hp h ((q0, .cells [.sl 1 (List.map AH p0.b) 0, .int .i64 p0.at_]) :: (q1, .cells [.int .i64 (5 : Int), .int .i64 p1.At, .str p1.Name, As 2 b1_3 p1.Pairs, .str p1.Text, .int .i64 p1.Refs]) :: mo b1_3 cP p1.Pairs :: O)⟩) (fun J6 hF => ?_) ?_
 ·refine Gm ?_
  refine cl (GG _ hF fun x7 _ hF => ?_)
  refine Yb ?_
  refine Mk ?_
  refine AV ?_
  refine Az rfl hF (fun hb8 hF => ?_) fun hb8 hF => ?_
  ·refine IK ?_
   refine Ux ?_
   refine Gy rfl BQ C0 I5 (ED rfl) hF (fun x9 _ hF => ?_)
   refine RU ?_
   exact ⟨x9, hF, oy ok, wy ok⟩
  ·refine Co ?_
   exact ⟨x1, hF, oy ok, wy ok⟩
 ·rintro a5 s' hF ⟨ok, hws⟩
  refine AQ hws ?_
  clear hws s'
  refine Gm ?_
  refine cl (A4 (fun _ h hF => Kg _ h hF) _ hF fun x10 _ hF => ?_)
  refine Vh ?_
  refine UB ?_
  refine CF (mdl [(39, 5), (40, 5)]) ?_
  refine HS ?_
  refine HS ?_
  refine HQ ?_
  refine Kr ?_
  refine Pv (cs := [.int .u8 38]) ok rfl FU rfl (by kernel_rfl) ?_
  intro i11 hi11 ok
  refine T2 (v := .sl 1 (List.map AH ([38] : List UInt8)) 0) (by kernel_rfl) 0 ok rfl rfl hi11 rfl BQ JF rfl rfl (fun ok => ?_)
  refine cl (Rt _ hF fun x13 _ hF => ?_)
  refine GH ?_
  refine DA rfl KC AO ?_
  refine Ck (j := 2) (cs' := [.int .i64 (5 : Int), .int .i64 p1.At, .str p1.Name, As 2 b1_3 p1.Pairs, .str x10.1, .int .i64 p1.Refs]) ok rfl rfl rfl hq1 rfl AO rfl rfl (fun ok => ?_)
  refine GH ?_
  refine DA rfl Oc Bb ?_
  refine Ck (j := 2) (cs' := [.int .i64 (5 : Int), .int .i64 p1.At, .str p1.Name, As 2 b1_3 p1.Pairs, .str x10.1, .int .i64 x13]) ok rfl rfl rfl hq1 rfl Bb rfl rfl (fun ok => ?_)
  refine Hw ?_
  refine KH ?_
  refine YW ?_
  refine U9 ?_
  refine QJ ?_
  refine Ck (j := 1) (cs' := [.sl 1 (List.map AH p0.b) 0, .int .i64 (IntKind.wrap .i64 (p0.at_ + (a5.length : Int)))]) ok rfl rfl rfl hq0 rfl Bb rfl rfl (fun ok => ?_)
  refine AV ?_
  refine HP ?_
  refine rr ?_
  exact ⟨_, _, (.refl _), hy ok, _, Aj hF, rfl, b1_3, zb1_3, oy ok, rfl⟩
theorem It (p0 : TS) (p1 : TK) (q0 : Nat) (q1 : Nat) (b1_3 : Nat) {G : Int × TS × TK → Prop} (h : Heap) (O : List (Nat × AObj)) (hq0 : q0 ≠ 0) (hq1 : q1 ≠ 0) (zb1_3 : b1_3 = 0 → p1.Pairs = []) (ok : OK h ((q0, .cells [.sl 1 (List.map AH p0.b) 0, .int .i64 p0.at_]) :: (q1, .cells [.int .i64 p1.Kind, .int .i64 p1.At, .str p1.Name, As 2 b1_3 p1.Pairs, .str p1.Text, .int .i64 p1.Refs]) :: mo b1_3 cP p1.Pairs :: O)) (hF : Ap (An p0 p1) G) : CallsA Tryz.prog 48 [.ptr q0 0, .ptr q1 0] (Hp h ((q0, .cells [.sl 1 (List.map AH p0.b) 0, .int .i64 p0.at_]) :: (q1, .cells [.int .i64 p1.Kind, .int .i64 p1.At, .str p1.Name, As 2 b1_3 p1.Pairs, .str p1.Text, .int .i64 p1.Refs]) :: mo b1_3 cP p1.Pairs :: O)) fun d h' => ∃ r, G r ∧ d = .int .i64 r.1 ∧ ∃ b1_3' : Nat, (b1_3' = 0 → r.2.2.Pairs = []) ∧ OK h ((q0, .cells [.sl 1 (List.map AH r.2.1.b) 0, .int .i64 r.2.1.at_]) :: (q1, .cells [.int .i64 r.2.2.Kind, .int .i64 r.2.2.At, .str r.2.2.Name, As 2 b1_3' r.2.2.Pairs, .str r.2.2.Text, .int .i64 r.2.2.Refs]) :: mo b1_3' cP r.2.2.Pairs :: O) ∧ h' = Hp h ((q0, .cells [.sl 1 (List.map AH r.2.1.b) 0, .int .i64 r.2.1.at_]) :: (q1, .cells [.int .i64 r.2.2.Kind, .int .i64 r.2.2.At, .str r.2.2.Name, As 2 b1_3' r.2.2.Pairs, .str r.2.2.Text, .int .i64 r.2.2.Refs]) :: mo b1_3' cP r.2.2.Pairs :: O) := by
 refine CallsA.ret ?_
 refine CB Tryz.func48 rfl dR Tryz.ntmps48 rfl ?_
 rw [An] at hF
 refine Gd ?_
 refine RQ ?_
 refine FW ?_
 refine OB ?_
 refine Ib ?_
 refine BH 3 15 hF (fun J2 hb1 hF => ?_) (fun J2 hb1 hF => ?_) (fun v3 hF => ?_)
 ·refine WK ?_
  refine cl (okT (fun _ hF => AW _ (p0 := p0) (q0 := q0) h ((q1, .cells [.int .i64 p1.Kind, .int .i64 p1.At, .str p1.Name, As 2 b1_3 p1.Pairs, .str p1.Text, .int .i64 p1.Refs]) :: mo b1_3 cP p1.Pairs :: O) hq0 ok hF) hF fun x4 _ _ _ hq hF => ?_)
  obtain ⟨rfl, ok, rfl⟩ := hq
  refine Hh ?_
  exact tw
 ·refine H0 ?_
  exact tw
 ·refine CZ ?_
  refine BH 4 20 hF (fun J6 hb5 hF => ?_) (fun J6 hb5 hF => ?_) (fun v7 hF => ?_)
  ·refine WK ?_
   refine cl (okT (fun _ hF => B0 _ (p0 := p0) (q0 := q0) h ((q1, .cells [.int .i64 p1.Kind, .int .i64 p1.At, .str p1.Name, As 2 b1_3 p1.Pairs, .str p1.Text, .int .i64 p1.Refs]) :: mo b1_3 cP p1.Pairs :: O) hq0 ok hF) hF fun x8 _ _ _ hq hF => ?_)
   obtain ⟨rfl, ok, rfl⟩ := hq
   refine cL ?_
   exact tw
  ·refine LE ?_
   exact tw
  ·refine D7 ?_
   refine Az rfl hF (fun hb9 hF => ?_) fun hb9 hF => ?_
   ·refine Pt ?_
    obtain ⟨hpe, ok⟩ := A6 2 ok rfl
    rw [hpe]; clear hpe
    obtain ⟨hpe, ok⟩ := A6 2 ok rfl
    rw [hpe]; clear hpe
    obtain ⟨hpe, ok⟩ := A6 2 ok rfl
    rw [hpe]; clear hpe
    refine cl (okT (fun _ hF => I8 (p0 := p0) (p1 := p1) (q0 := q0) (q1 := q1) (b1_3 := b1_3) h (O) hq0 hq1 zb1_3 ok hF) hF fun x10 _ _ _ hq hF => ?_)
    obtain ⟨rfl, u11, zu11, ok, rfl⟩ := hq
    refine EZ ?_
    refine rr ?_
    exact ⟨_, _, (.refl _), hy ok, _, Aj hF, rfl, u11, zu11, oy ok, rfl⟩
   ·refine FW ?_
    refine cl (okT (fun _ hF => AW _ (p0 := p0) (q0 := q0) h ((q1, .cells [.int .i64 p1.Kind, .int .i64 p1.At, .str p1.Name, As 2 b1_3 p1.Pairs, .str p1.Text, .int .i64 p1.Refs]) :: mo b1_3 cP p1.Pairs :: O) hq0 ok hF) hF fun x12 _ _ _ hq hF => ?_)
    obtain ⟨rfl, ok, rfl⟩ := hq
    refine D7 ?_
    refine Az rfl hF (fun hb13 hF => ?_) fun hb13 hF => ?_
    ·refine R6 ?_
     refine Ck (j := 1) (cs' := [.int .i64 (7 : Int), .int .i64 p1.At, .str p1.Name, As 2 b1_3 p1.Pairs, .str p1.Text, .int .i64 p1.Refs]) ok rfl rfl rfl hq1 rfl Bb rfl rfl (fun ok => ?_)
     refine GQ ?_
     refine Pt ?_
     obtain ⟨hpe, ok⟩ := A6 2 ok rfl
     rw [hpe]; clear hpe
     obtain ⟨hpe, ok⟩ := A6 2 ok rfl
     rw [hpe]; clear hpe
     obtain ⟨hpe, ok⟩ := A6 2 ok rfl
     rw [hpe]; clear hpe
     refine cl (okT (fun _ hF => EU _ _ (p0 := p0) (p1 := (⟨(7 : Int), p1.At, p1.Name, p1.Pairs, p1.Text, p1.Refs⟩ : TK)) (q0 := q0) (q1 := q1) (b1_3 := b1_3) h (O) hq0 hq1 zb1_3 ok hF) hF fun x14 _ _ _ hq hF => ?_)
     obtain ⟨rfl, u15, zu15, ok, rfl⟩ := hq
     refine Rl ?_
     refine Az rfl hF (fun hb16 hF => ?_) fun hb16 hF => ?_
     ·refine HP ?_
      refine rr ?_
      exact ⟨_, _, (.refl _), hy ok, _, Aj hF, rfl, u15, zu15, oy ok, rfl⟩
     ·refine Jr ?_
      refine cl (okT (fun _ hF => Cv _ (p0 := x14.2.1) (q0 := q0) h ((q1, .cells [.int .i64 x14.2.2.Kind, .int .i64 x14.2.2.At, .str x14.2.2.Name, As 2 u15 x14.2.2.Pairs, .str x14.2.2.Text, .int .i64 x14.2.2.Refs]) :: mo u15 cP x14.2.2.Pairs :: O) hq0 ok hF) hF fun x17 _ _ _ hq hF => ?_)
      obtain ⟨rfl, ok, rfl⟩ := hq
      refine EZ ?_
      refine rr ?_
      exact ⟨_, _, (.refl _), hy ok, _, Aj hF, rfl, u15, zu15, oy ok, rfl⟩
    ·refine FW ?_
     refine cl (okT (fun _ hF => AW _ (p0 := p0) (q0 := q0) h ((q1, .cells [.int .i64 p1.Kind, .int .i64 p1.At, .str p1.Name, As 2 b1_3 p1.Pairs, .str p1.Text, .int .i64 p1.Refs]) :: mo b1_3 cP p1.Pairs :: O) hq0 ok hF) hF fun x18 _ _ _ hq hF => ?_)
     obtain ⟨rfl, ok, rfl⟩ := hq
     refine D7 ?_
     refine Az rfl hF (fun hb19 hF => ?_) fun hb19 hF => ?_
     ·refine R6 ?_
      refine Ck (j := 1) (cs' := [.int .i64 (6 : Int), .int .i64 p1.At, .str p1.Name, As 2 b1_3 p1.Pairs, .str p1.Text, .int .i64 p1.Refs]) ok rfl rfl rfl hq1 rfl Bb rfl rfl (fun ok => ?_)
      refine Hw ?_
      refine HS ?_
      obtain ⟨hpe, ok⟩ := A6 2 ok rfl
      rw [hpe]; clear hpe
      obtain ⟨hpe, ok⟩ := A6 2 ok rfl
      rw [hpe]; clear hpe
      obtain ⟨hpe, ok⟩ := A6 2 ok rfl
      rw [hpe]; clear hpe
      refine cl (okT (fun _ hF => EU _ _ (p0 := p0) (p1 := (⟨(6 : Int), p1.At, p1.Name, p1.Pairs, p1.Text, p1.Refs⟩ : TK)) (q0 := q0) (q1 := q1) (b1_3 := b1_3) h (O) hq0 hq1 zb1_3 ok hF) hF fun x20 _ _ _ hq hF => ?_)
      obtain ⟨rfl, u21, zu21, ok, rfl⟩ := hq
      refine EZ ?_
      refine rr ?_
      exact ⟨_, _, (.refl _), hy ok, _, Aj hF, rfl, u21, zu21, oy ok, rfl⟩
     ·refine FW ?_
      refine cl (okT (fun _ hF => AW _ (p0 := p0) (q0 := q0) h ((q1, .cells [.int .i64 p1.Kind, .int .i64 p1.At, .str p1.Name, As 2 b1_3 p1.Pairs, .str p1.Text, .int .i64 p1.Refs]) :: mo b1_3 cP p1.Pairs :: O) hq0 ok hF) hF fun x22 _ _ _ hq hF => ?_)
      obtain ⟨rfl, ok, rfl⟩ := hq
      refine D7 ?_
      refine Az rfl hF (fun hb23 hF => ?_) fun hb23 hF => ?_
      ·refine Eg ?_
       refine rr ?_
       exact ⟨_, _, (.refl _), hy ok, _, Aj hF, rfl, b1_3, zb1_3, oy ok, rfl⟩
      ·refine FW ?_
       refine cl (okT (fun _ hF => AW _ (p0 := p0) (q0 := q0) h ((q1, .cells [.int .i64 p1.Kind, .int .i64 p1.At, .str p1.Name, As 2 b1_3 p1.Pairs, .str p1.Text, .int .i64 p1.Refs]) :: mo b1_3 cP p1.Pairs :: O) hq0 ok hF) hF fun x24 _ _ _ hq hF => ?_)
       obtain ⟨rfl, ok, rfl⟩ := hq
       refine D7 ?_
       refine Az rfl hF (fun hb25 hF => ?_) fun hb25 hF => ?_
       ·refine Eg ?_
        refine rr ?_
        exact ⟨_, _, (.refl _), hy ok, _, Aj hF, rfl, b1_3, zb1_3, oy ok, rfl⟩
       ·refine FW ?_
        refine cl (okT (fun _ hF => AW _ (p0 := p0) (q0 := q0) h ((q1, .cells [.int .i64 p1.Kind, .int .i64 p1.At, .str p1.Name, As 2 b1_3 p1.Pairs, .str p1.Text, .int .i64 p1.Refs]) :: mo b1_3 cP p1.Pairs :: O) hq0 ok hF) hF fun x26 _ _ _ hq hF => ?_)
        obtain ⟨rfl, ok, rfl⟩ := hq
        refine D7 ?_
        refine Az rfl hF (fun hb27 hF => ?_) fun hb27 hF => ?_
        ·refine Pt ?_
         obtain ⟨hpe, ok⟩ := A6 2 ok rfl
         rw [hpe]; clear hpe
         obtain ⟨hpe, ok⟩ := A6 2 ok rfl
         rw [hpe]; clear hpe
         obtain ⟨hpe, ok⟩ := A6 2 ok rfl
         rw [hpe]; clear hpe
         refine cl (okT (fun _ hF => IH (p0 := p0) (p1 := p1) (q0 := q0) (q1 := q1) (b1_3 := b1_3) h (O) hq0 hq1 zb1_3 ok hF) hF fun x28 _ _ _ hq hF => ?_)
         obtain ⟨rfl, u29, zu29, ok, rfl⟩ := hq
         refine EZ ?_
         refine rr ?_
         exact ⟨_, _, (.refl _), hy ok, _, Aj hF, rfl, u29, zu29, oy ok, rfl⟩
        ·refine FW ?_
         refine cl (okT (fun _ hF => AW _ (p0 := p0) (q0 := q0) h ((q1, .cells [.int .i64 p1.Kind, .int .i64 p1.At, .str p1.Name, As 2 b1_3 p1.Pairs, .str p1.Text, .int .i64 p1.Refs]) :: mo b1_3 cP p1.Pairs :: O) hq0 ok hF) hF fun x30 _ _ _ hq hF => ?_)
         obtain ⟨rfl, ok, rfl⟩ := hq
         refine D7 ?_
         refine Az rfl hF (fun hb31 hF => ?_) fun hb31 hF => ?_
         ·refine Pt ?_
          obtain ⟨hpe, ok⟩ := A6 2 ok rfl
          rw [hpe]; clear hpe
          obtain ⟨hpe, ok⟩ := A6 2 ok rfl
          rw [hpe]; clear hpe
          obtain ⟨hpe, ok⟩ := A6 2 ok rfl
          rw [hpe]; clear hpe
          refine cl (okT (fun _ hF => HY (p0 := p0) (p1 := p1) (q0 := q0) (q1 := q1) (b1_3 := b1_3) h (O) hq0 hq1 zb1_3 ok hF) hF fun x32 _ _ _ hq hF => ?_)
          obtain ⟨rfl, u33, zu33, ok, rfl⟩ := hq
          refine EZ ?_
          refine rr ?_
          exact ⟨_, _, (.refl _), hy ok, _, Aj hF, rfl, u33, zu33, oy ok, rfl⟩
         ·refine FW ?_
          refine cl (okT (fun _ hF => AW _ (p0 := p0) (q0 := q0) h ((q1, .cells [.int .i64 p1.Kind, .int .i64 p1.At, .str p1.Name, As 2 b1_3 p1.Pairs, .str p1.Text, .int .i64 p1.Refs]) :: mo b1_3 cP p1.Pairs :: O) hq0 ok hF) hF fun x34 _ _ _ hq hF => ?_)
          obtain ⟨rfl, ok, rfl⟩ := hq
          refine D7 ?_
          refine Az rfl hF (fun hb35 hF => ?_) fun hb35 hF => ?_
          ·refine Pt ?_
           obtain ⟨hpe, ok⟩ := A6 2 ok rfl
           rw [hpe]; clear hpe
           obtain ⟨hpe, ok⟩ := A6 2 ok rfl
           rw [hpe]; clear hpe
           obtain ⟨hpe, ok⟩ := A6 2 ok rfl
           rw [hpe]; clear hpe
           refine cl (okT (fun _ hF => Ju (p0 := p0) (p1 := p1) (q0 := q0) (q1 := q1) (b1_3 := b1_3) h (O) hq0 hq1 zb1_3 ok hF) hF fun x36 _ _ _ hq hF => ?_)
           obtain ⟨rfl, u37, zu37, ok, rfl⟩ := hq
           refine EZ ?_
           refine rr ?_
           exact ⟨_, _, (.refl _), hy ok, _, Aj hF, rfl, u37, zu37, oy ok, rfl⟩
          ·refine Jr ?_
           refine HS ?_
           obtain ⟨hpe, ok⟩ := A6 2 ok rfl
           rw [hpe]; clear hpe
           obtain ⟨hpe, ok⟩ := A6 2 ok rfl
           rw [hpe]; clear hpe
           obtain ⟨hpe, ok⟩ := A6 2 ok rfl
           rw [hpe]; clear hpe
           refine cl (okT (fun _ hF => I9 (p0 := p0) (p1 := p1) (q0 := q0) (q1 := q1) (b1_3 := b1_3) h (O) hq0 hq1 zb1_3 ok hF) hF fun x38 _ _ _ hq hF => ?_)
           obtain ⟨rfl, u39, zu39, ok, rfl⟩ := hq
           refine EZ ?_
           refine rr ?_
           exact ⟨_, _, (.refl _), hy ok, _, Aj hF, rfl, u39, zu39, oy ok, rfl⟩
theorem PW (p0 : List UInt8) {G : (List TK) × Int × Int → Prop} (h : Heap) (hF : Ap (Dt p0) G) : CallsA Tryz.prog 22 [.sl 1 (List.map AH p0) 0] h fun d h' => ∃ r, G r ∧ d = .tup [.sl 6 (List.map cTK r.1) 0, .int .i64 r.2.1, .int .i64 r.2.2] ∧ h' = h := by
 refine CallsA.ret ?_
 refine B2 Tryz.func22 rfl db Tryz.ntmps22 rfl (fun ok => ?_)
 rw [Dt] at hF
 refine Bz ?_
 refine S_a (v := .snil) rfl ?_
 refine Ed 2 (v := .sl 6 (List.map cTK ([] : List TK)) 0) (.nil _) ?_
 refine HX ?_
 refine Nt ?_
 refine MM ?_
 refine DS ?_
 refine Gm ?_
 refine JV ?_
 refine Sj ?_
 refine Az rfl hF (fun hb1 hF => ?_) fun hb1 hF => ?_
 ·refine Bz ?_
  refine S_a (v := .snil) rfl ?_
  refine Ed 2 (v := .sl 6 (List.map cTK ([] : List TK)) 0) (.nil _) ?_
  refine H3 ?_
  exact rt
 ·refine GI ?_
  refine CF (mdl [(18, 1)]) ?_
  refine Kr ?_
  refine cl (A4 (fun _ h hF => Ht _ h hF) _ hF fun x2 _ hF => ?_)
  refine CS (v := .agg (cTS (⟨x2, (0 : Int)⟩ : TS))) (Ek Wp Yl rfl) ?_
  refine XU (cs := [.sl 1 (List.map AH (⟨x2, (0 : Int)⟩ : TS).b) 0, .int .i64 (⟨x2, (0 : Int)⟩ : TS).at_]) ok rfl rfl rfl rfl ?_
  intro i3 hi3 ok
  refine W3 ?_
  refine GQ ?_
  refine On ?_
  refine aI ?_
  refine cl (A4 (fun _ h hF => M2 _ h hF) _ hF fun x4 _ hF => ?_)
  refine GL ?_
  refine HX ?_
  refine Eh ?_
  refine Mq ?_
  refine Az rfl hF (fun hb5 hF => ?_) fun hb5 hF => ?_
  ·refine Hz ?_
   refine S_a (v := .snil) rfl ?_
   refine Ed 2 (v := .sl 6 (List.map cTK ([] : List TK)) 0) (.nil _) ?_
   refine H3 ?_
   exact rt
  ·refine Co ?_
   refine Bz ?_
   refine S_a (v := .snil) rfl ?_
   refine Nf cTK ok (fun ok => ?_)
   refine AV ?_
   refine Gd ?_
   refine DS ?_
   refine Rr ?_
   refine T8 (σ := (List UInt8) × Int × (List TK)) hF (fun (v : (List UInt8) × Int × (List TK)) s' => match v with | (a7, a8, a10) => ∃ g9 : Nat, (g9 = 0 → a10 = []) ∧ OK h [mo g9 cTK a10, (i3, .cells [.sl 1 (List.map AH a7) 0, .int .i64 a8])] ∧ WS s' ⟨Ak 58 [(5, .ptr i3 0), (8, As 6 g9 a10)], Hp h [mo g9 cTK a10, (i3, .cells [.sl 1 (List.map AH a7) 0, .int .i64 a8])]⟩) ?_ ?_
   ·exact ⟨0, (fun _ => rfl), oy ok, wy ok⟩
   ·rintro G11 hG12 rec13 ⟨a7, a8, a10⟩ s' ih14 hF ⟨g9, zg9, ok, hws⟩
    refine AQ hws ?_
    clear hws s'
    rw [BG] at hF
    refine DS ?_
    refine DS ?_
    refine EP (mdl []) (by kernel_rfl) (by kernel_rfl) ?_
    refine HS ?_
    refine KH ?_
    refine YW ?_
    refine Lw ?_
    refine Zy ?_
    refine Ds (j := 1) ok rfl rfl rfl (by assumption) (B6 (v := .sl _ _ _) QY N6 rfl) ?_
    refine JV ?_
    refine Mn ?_
    refine Az rfl hF (fun hb15 hF => ?_) fun hb15 hF => ?_
    ·refine Ra ?_
     refine Xm ?_
     refine PH 0 2 ok zg9 rfl rfl (fun _ => rfl) (fun ok => ?_)
     refine H3 ?_
     replace hF := hG12 _ (Aj hF)
     exact rt
    ·refine Jr ?_
     refine KH ?_
     refine YW ?_
     refine Mw ?_
     refine CF (mdl [(11, 1)]) ?_
     refine Eb ?_
     refine CS (v := .agg [.int .i64 (0 : Int), .int .i64 a8, .str ([] : List UInt8), .snil, .str ([] : List UInt8), .int .i64 (0 : Int)]) (Ek M4 V9 rfl) ?_
     refine C8 ok rfl M4 ?_
     intro i17 hi17 ok
     refine Nf cP ok (fun ok => ?_)
     refine Ck (j := 1) (cs' := [.int .i64 (0 : Int), .int .i64 a8, .str ([] : List UInt8), .snil, .str ([] : List UInt8), .int .i64 (0 : Int)]) ok rfl rfl rfl hi17 rfl Fr rfl rfl (fun ok => ?_)
     refine Nf cP ok (fun ok => ?_)
     refine Hw ?_
     obtain ⟨hpe, ok⟩ := A6 2 ok rfl
     rw [hpe]; clear hpe
     obtain ⟨hpe, ok⟩ := A6 4 ok rfl
     rw [hpe]; clear hpe
     refine cl (okT (fun _ hF => It (p0 := (⟨a7, a8⟩ : TS)) (p1 := (⟨(0 : Int), a8, ([] : List UInt8), ([] : List TP), ([] : List UInt8), (0 : Int)⟩ : TK)) (q0 := i3) (q1 := i17) (b1_3 := 0) h [mo 0 cP ([] : List TP), mo g9 cTK a10] hi3 hi17 (fun _ => rfl) ok hF) hF fun x20 _ _ _ hq hF => ?_)
     obtain ⟨rfl, u21, zu21, ok, rfl⟩ := hq
     refine Uy ?_
     refine Az rfl hF (fun hb22 hF => ?_) fun hb22 hF => ?_
     ·refine Hz ?_
      refine S_a (v := .snil) rfl ?_
      refine Ed 2 (v := .sl 6 (List.map cTK ([] : List TK)) 0) (.nil _) ?_
      refine H3 ?_
      replace hF := hG12 _ (Aj hF)
      exact rt
     ·refine GI ?_
      refine CF (mdl [(57, 1)]) ?_
      refine aF (c := cP) (e := x20.2.2.Pairs) (cs' := [.int .i64 x20.2.2.Kind, .int .i64 x20.2.2.At, .str x20.2.2.Name, .sl 2 (List.map cP x20.2.2.Pairs) 0, .str x20.2.2.Text, .int .i64 x20.2.2.Refs]) 1 2 3 ok zu21 rfl hi17 rfl (by decide) (fun _ => rfl) rfl rfl (fun ok => ?_)
      refine XQ 1 11 ok rfl rfl hi17 (fun ok => ?_)
      refine Ld ?_
      refine Cs rfl (Bm (vs := cTK x20.2.2) Hb Fr rfl rfl) ?_
      refine Fk (cs := [.int .i64 x20.2.2.Kind, .int .i64 x20.2.2.At, .str x20.2.2.Name, .sl 2 (List.map cP x20.2.2.Pairs) 0, .str x20.2.2.Text, .int .i64 x20.2.2.Refs]) (es := (List.map cTK [x20.2.2])) rfl RM rfl (by kernel_rfl) (by kernel_rfl) ?_
      refine II (j := 4) (M := [x20.2.2]) ok zg9 rfl rfl Jy (fun _ => rfl) rfl RM WE hF ?_
      intro u26 zu26 ok hF
      obtain ⟨a27, ha27, hF⟩ := DQ hF
      rw [← ha27] at ok zu26
      rw [← ha27]
      refine RB ?_
      refine Qd ?_
      repeat (first | with_reducible refine Exit.sel_goto ?_ | with_reducible refine Exit.blk_goto ?_)
      refine Ny rfl ?_
      refine ih14 (x20.2.1.b, x20.2.1.at_, a27) _ hF ?_
      obtain ⟨hpe, ok⟩ := A6 4 ok rfl
      rw [hpe]; clear hpe
      exact ⟨u26, zu26, oy ok, wy ok⟩
theorem Og {G : Ao → Prop} (h : Heap) (hF : Ap (HJ) G) : CallsA Tryz.prog 23 [] h fun d h' => ∃ r, G r ∧ d = .agg (AU r) ∧ h' = h := by
 refine CallsA.ret ?_
 refine B2 Tryz.func23 rfl cM Tryz.ntmps23 rfl (fun ok => ?_)
 rw [HJ] at hF
 refine DS ?_
 refine CF (mdl [(0, 1)]) ?_
 refine C8 ok rfl Fo ?_
 intro i1 hi1 ok
 refine N2 ?_
 refine CS (v := .agg [.snil]) (Ek Fo KL rfl) ?_
 refine Ed 1 (v := .agg (AU (⟨([] : List Ag)⟩ : Ao))) (.aggC (.cons (.nil _) (.nil))) ?_
 refine Ck (j := 0) (cs' := [.sl 2 (List.map Ad (⟨([] : List Ag)⟩ : Ao).binds) 0]) ok rfl rfl rfl hi1 rfl CL rfl rfl (fun ok => ?_)
 refine AV ?_
 refine MP ?_
 refine xr ?_
 refine Fs (fn := Tryz.f23) rfl (.cell rfl (Ga (j := 0) ok rfl hi1 (Bm (vs := [.sl 2 (List.map Ad (⟨([] : List Ag)⟩ : Ao).binds) 0]) EM CL rfl rfl)) .nil) ?_
 exact ⟨_, _, (.aggC (.refl _)), ok.wh, _, Aj hF, rfl, rfl⟩
theorem E5 (p0 : AD) (p1 : Ac) (q0 : Nat) (b0_0 : Nat) (x0 : List (Af × Nat)) {G : Int × AD → Prop} (h : Heap) (O : List (Nat × AObj)) (hq0 : q0 ≠ 0) (hb0_0 : b0_0 ≠ 0) (hx0 : List.map Prod.fst x0 = p0.open_) (zk0 : zkR x0) (ok : OK h ((q0, .cells [.msl 8 b0_0 0 (List.length p0.open_), .int .i64 p0.nodes, .bool p0.done]) :: (b0_0, .cells (fl cK (List.reverse x0))) :: (EJ x0 ++ O))) (hF : Ap (A0 p0 p1) G) : CallsA Tryz.prog 49 [.ptr q0 0, .agg (Ai p1)] (Hp h ((q0, .cells [.msl 8 b0_0 0 (List.length p0.open_), .int .i64 p0.nodes, .bool p0.done]) :: (b0_0, .cells (fl cK (List.reverse x0))) :: (EJ x0 ++ O))) fun d h' => ∃ r, G r ∧ d = .int .i64 r.1 ∧ ∃ (b0_0' : Nat) (x0' : List (Af × Nat)), b0_0' ≠ 0 ∧ List.map Prod.fst x0' = r.2.open_ ∧ zkR x0' ∧ OK h ((q0, .cells [.msl 8 b0_0' 0 (List.length r.2.open_), .int .i64 r.2.nodes, .bool r.2.done]) :: (b0_0', .cells (fl cK (List.reverse x0'))) :: (EJ x0' ++ O)) ∧ h' = Hp h ((q0, .cells [.msl 8 b0_0' 0 (List.length r.2.open_), .int .i64 r.2.nodes, .bool r.2.done]) :: (b0_0', .cells (fl cK (List.reverse x0'))) :: (EJ x0' ++ O)) := by
 refine CallsA.ret ?_
 refine CB Tryz.func49 rfl cQ Tryz.ntmps49 rfl ?_
 rw [A0] at hF
 refine Bz ?_
 refine FC (v := .agg (Ai p1)) (cs := Ai p1) rfl rfl rfl rfl ?_
 refine Mw ?_
 refine Bz ?_
 refine C9 rfl Es AO (by rw [Ae]; rfl) ?_
 refine Cs rfl (B6 Dg AO (congrArg (List.drop 5) (Ae p1))) ?_
 refine PE ?_
 refine Sj ?_
 refine Az rfl hF (fun hb1 hF => ?_) fun hb1 hF => ?_
 ·refine Eg ?_
  refine rr ?_
  exact ⟨_, _, (.refl _), hy ok, _, Aj hF, rfl, b0_0, x0, hb0_0, hx0, zk0, oy ok, rfl⟩
 ·refine Jr ?_
  refine IL (Kv (e := p0.open_) (j := 0) ok rfl hq0 hF fun x2 he3 hF => ?_) (.k .nil)
  obtain ⟨t4, xs5, rfl, hx6⟩ := Gz hx0 he3
  have zt7 := (BN.1 zk0).1
  have zs8 := (BN.1 zk0).2
  have hp9 := IP HT hx6
  have hck : cK (x2.1, t4) = [.int .i64 x2.1.node.Kind, .str x2.1.node.Name.URI, .str x2.1.node.Name.Local, .sl 3 (List.map Aa x2.1.node.Attrs) 0, As 6 t4 x2.1.node.Kids, .str x2.1.node.Text, .str x2.1.raw, .sl 2 (List.map Ad x2.1.in_.binds) 0] := rfl
  rw [B8, Dl, List.cons_append, hck] at ok
  rw [B8, Dl, List.cons_append, hck]
  clear hck
  refine W3 ?_
  refine GQ ?_
  refine Sa (mdl [(20, 1), (17, 3)]) [0, 1, 2, 3, 4, 5, 6, 7, 8, 9, 11, 12, 13] [10, 14] [14, 10] [_, _, _, _, _, _, _, _, _, _, _, _, _] [_, _] [_, _] (by kernel_rfl) rfl rfl rfl rfl (by kernel_rfl) ?_
  refine Lw ?_
  refine Tc ?_
  refine I4 (j := 1) (f0 := 4) ok rfl rfl rfl hb0_0 (by omega) (B6 (v := As 6 t4 x2.1.node.Kids) Dq BR rfl) ?_
  refine Cs rfl (Bm (vs := Ai p1) DE AK (by rw [Ae]; rfl) (by rw [Ae]; rfl)) ?_
  refine Jp zt7 rfl CE ?_
  refine Fk (cs := [.int .i64 (0 : Int), .str ([] : List UInt8), .str ([] : List UInt8), .snil, .snil, .str ([] : List UInt8)]) (es := [[.int .i64 (0 : Int), .str ([] : List UInt8), .str ([] : List UInt8), .snil, .snil, .str ([] : List UInt8)]]) rfl KX rfl (by kernel_rfl) rfl ?_
  refine Xa (c := Ai) (e := x2.1.node.Kids) (zs := [.int .i64 (0 : Int), .str ([] : List UInt8), .str ([] : List UInt8), .snil, .snil, .str ([] : List UInt8)]) (z0 := (⟨(0 : Int), (⟨([] : List UInt8), ([] : List UInt8)⟩ : Am), ([] : List Ab), ([] : List Ac), ([] : List UInt8)⟩ : Ac)) (j := 2) ok zt7 rfl rfl rfl rfl B3 rfl KX RC hF ?_
  intro u10 hu10 ok hF
  refine ZP (e := x2.1.node.Kids) rfl rfl CE AK ?_
  refine GH ?_
  refine Tc ?_
  refine AV ?_
  refine ⟨?_, ?_⟩
  ·refine T3 (c := Ai) (e := x2.1.node.Kids) (b := p1) (zs := [.int .i64 (0 : Int), .str ([] : List UInt8), .str ([] : List UInt8), .snil, .snil, .str ([] : List UInt8)]) (j := 2) ok rfl rfl rfl hu10 B3 rfl rfl AK rfl (fun ok => ?_)
   obtain ⟨a12, ha12, hF⟩ := DQ hF
   rw [← ha12] at ok
   rw [← ha12]
   have hml : .msl 6 u10 0 (List.length x2.1.node.Kids + 1) = As 6 u10 a12 := by rw [EO hu10, ha12, List.length_append]; rfl
   try rw [hml] at ok
   try rw [hml]
   clear hml
   refine Yp (j := 1) (f0 := 4) (cs' := [.int .i64 x2.1.node.Kind, .str x2.1.node.Name.URI, .str x2.1.node.Name.Local, .sl 3 (List.map Aa x2.1.node.Attrs) 0, As 6 u10 a12, .str x2.1.node.Text, .str x2.1.raw, .sl 2 (List.map Ad x2.1.in_.binds) 0]) ok rfl rfl rfl hb0_0 (by omega) BR rfl rfl (fun ok => ?_)
   refine Hw ?_
   refine Vb ?_
   refine Zb ?_
   refine HW ?_
   refine Vb ?_
   refine Ck (j := 0) (cs' := [.msl 8 b0_0 0 (List.length p0.open_), .int .i64 (IntKind.wrap .i64 (p0.nodes + (1 : Int))), .bool p0.done]) ok rfl rfl rfl hq0 rfl Bb rfl rfl (fun ok => ?_)
   refine AV ?_
   refine Eg ?_
   have hck : cK ((⟨(⟨x2.1.node.Kind, x2.1.node.Name, x2.1.node.Attrs, a12, x2.1.node.Text⟩ : Ac), x2.1.raw, x2.1.in_⟩ : Af), u10) = [.int .i64 x2.1.node.Kind, .str x2.1.node.Name.URI, .str x2.1.node.Name.Local, .sl 3 (List.map Aa x2.1.node.Attrs) 0, As 6 u10 a12, .str x2.1.node.Text, .str x2.1.raw, .sl 2 (List.map Ad x2.1.in_.binds) 0] := rfl
   rw [← hck, ← B8 (c := cK)] at ok
   rw [← hck, ← B8 (c := cK)]
   clear hck
   have hx13 : List.map Prod.fst (((⟨(⟨x2.1.node.Kind, x2.1.node.Name, x2.1.node.Attrs, a12, x2.1.node.Text⟩ : Ac), x2.1.raw, x2.1.in_⟩ : Af), u10) :: xs5) = ((⟨(⟨x2.1.node.Kind, x2.1.node.Name, x2.1.node.Attrs, a12, x2.1.node.Text⟩ : Ac), x2.1.raw, x2.1.in_⟩ : Af) :: x2.2) := by rw [List.map_cons, hx6]
   have zs14 : zkR (((⟨(⟨x2.1.node.Kind, x2.1.node.Name, x2.1.node.Attrs, a12, x2.1.node.Text⟩ : Ac), x2.1.raw, x2.1.in_⟩ : Af), u10) :: xs5) := BN.2 ⟨(fun h => absurd h hu10), zs8⟩
   have hle15 : List.length p0.open_ = List.length ((⟨(⟨x2.1.node.Kind, x2.1.node.Name, x2.1.node.Attrs, a12, x2.1.node.Text⟩ : Ac), x2.1.raw, x2.1.in_⟩ : Af) :: x2.2) := by rw [he3]; rfl
   try rw [hle15] at ok
   try rw [hle15]
   refine rr ?_
   exact ⟨_, _, (.refl _), hy ok, _, Aj hF, rfl, b0_0, (((⟨(⟨x2.1.node.Kind, x2.1.node.Name, x2.1.node.Attrs, a12, x2.1.node.Text⟩ : Ac), x2.1.raw, x2.1.in_⟩ : Af), u10) :: xs5), hb0_0, hx13, zs14, oy ok, rfl⟩
  ·refine T1 (j := 1) (f0 := 4) (cs' := [.int .i64 x2.1.node.Kind, .str x2.1.node.Name.URI, .str x2.1.node.Name.Local, .sl 3 (List.map Aa x2.1.node.Attrs) 0, .msl 6 u10 0 (List.length x2.1.node.Kids + 1), .str x2.1.node.Text, .str x2.1.raw, .sl 2 (List.map Ad x2.1.in_.binds) 0]) ok rfl rfl rfl hb0_0 (by omega) rfl BR rfl rfl (fun ok => ?_)
   refine T3 (c := Ai) (e := x2.1.node.Kids) (b := p1) (zs := [.int .i64 (0 : Int), .str ([] : List UInt8), .str ([] : List UInt8), .snil, .snil, .str ([] : List UInt8)]) (j := 2) ok rfl rfl rfl hu10 B3 rfl rfl AK rfl (fun ok => ?_)
   obtain ⟨a16, ha16, hF⟩ := DQ hF
   rw [← ha16] at ok
   rw [← ha16]
   have hml : .msl 6 u10 0 (List.length x2.1.node.Kids + 1) = As 6 u10 a16 := by rw [EO hu10, ha16, List.length_append]; rfl
   try rw [hml] at ok
   try rw [hml]
   clear hml
   refine Hw ?_
   refine Vb ?_
   refine Zb ?_
   refine HW ?_
   refine Vb ?_
   refine Ck (j := 0) (cs' := [.msl 8 b0_0 0 (List.length p0.open_), .int .i64 (IntKind.wrap .i64 (p0.nodes + (1 : Int))), .bool p0.done]) ok rfl rfl rfl hq0 rfl Bb rfl rfl (fun ok => ?_)
   refine AV ?_
   refine Eg ?_
   have hck : cK ((⟨(⟨x2.1.node.Kind, x2.1.node.Name, x2.1.node.Attrs, a16, x2.1.node.Text⟩ : Ac), x2.1.raw, x2.1.in_⟩ : Af), u10) = [.int .i64 x2.1.node.Kind, .str x2.1.node.Name.URI, .str x2.1.node.Name.Local, .sl 3 (List.map Aa x2.1.node.Attrs) 0, As 6 u10 a16, .str x2.1.node.Text, .str x2.1.raw, .sl 2 (List.map Ad x2.1.in_.binds) 0] := rfl
   rw [← hck, ← B8 (c := cK)] at ok
   rw [← hck, ← B8 (c := cK)]
   clear hck
   have hx17 : List.map Prod.fst (((⟨(⟨x2.1.node.Kind, x2.1.node.Name, x2.1.node.Attrs, a16, x2.1.node.Text⟩ : Ac), x2.1.raw, x2.1.in_⟩ : Af), u10) :: xs5) = ((⟨(⟨x2.1.node.Kind, x2.1.node.Name, x2.1.node.Attrs, a16, x2.1.node.Text⟩ : Ac), x2.1.raw, x2.1.in_⟩ : Af) :: x2.2) := by rw [List.map_cons, hx6]
   have zs18 : zkR (((⟨(⟨x2.1.node.Kind, x2.1.node.Name, x2.1.node.Attrs, a16, x2.1.node.Text⟩ : Ac), x2.1.raw, x2.1.in_⟩ : Af), u10) :: xs5) := BN.2 ⟨(fun h => absurd h hu10), zs8⟩
   have hle19 : List.length p0.open_ = List.length ((⟨(⟨x2.1.node.Kind, x2.1.node.Name, x2.1.node.Attrs, a16, x2.1.node.Text⟩ : Ac), x2.1.raw, x2.1.in_⟩ : Af) :: x2.2) := by rw [he3]; rfl
   try rw [hle19] at ok
   try rw [hle19]
   refine rr ?_
   exact ⟨_, _, (.refl _), hy ok, _, Aj hF, rfl, b0_0, (((⟨(⟨x2.1.node.Kind, x2.1.node.Name, x2.1.node.Attrs, a16, x2.1.node.Text⟩ : Ac), x2.1.raw, x2.1.in_⟩ : Af), u10) :: xs5), hb0_0, hx17, zs18, oy ok, rfl⟩
theorem Ge (p0 : AD) (p1 : TK) (q0 : Nat) (b0_0 : Nat) (x0 : List (Af × Nat)) {G : Int × AD → Prop} (h : Heap) (O : List (Nat × AObj)) (hq0 : q0 ≠ 0) (hb0_0 : b0_0 ≠ 0) (hx0 : List.map Prod.fst x0 = p0.open_) (zk0 : zkR x0) (ok : OK h ((q0, .cells [.msl 8 b0_0 0 (List.length p0.open_), .int .i64 p0.nodes, .bool p0.done]) :: (b0_0, .cells (fl cK (List.reverse x0))) :: (EJ x0 ++ O))) (hF : Ap (AN p0 p1) G) : CallsA Tryz.prog 50 [.ptr q0 0, .agg (cTK p1)] (Hp h ((q0, .cells [.msl 8 b0_0 0 (List.length p0.open_), .int .i64 p0.nodes, .bool p0.done]) :: (b0_0, .cells (fl cK (List.reverse x0))) :: (EJ x0 ++ O))) fun d h' => ∃ r, G r ∧ d = .int .i64 r.1 ∧ ∃ (b0_0' : Nat) (x0' : List (Af × Nat)), b0_0' ≠ 0 ∧ List.map Prod.fst x0' = r.2.open_ ∧ zkR x0' ∧ OK h ((q0, .cells [.msl 8 b0_0' 0 (List.length r.2.open_), .int .i64 r.2.nodes, .bool r.2.done]) :: (b0_0', .cells (fl cK (List.reverse x0'))) :: (EJ x0' ++ O)) ∧ h' = Hp h ((q0, .cells [.msl 8 b0_0' 0 (List.length r.2.open_), .int .i64 r.2.nodes, .bool r.2.done]) :: (b0_0', .cells (fl cK (List.reverse x0'))) :: (EJ x0' ++ O)) := by
 refine CallsA.ret ?_
 refine CB Tryz.func50 rfl dt Tryz.ntmps50 rfl ?_
 rw [AN] at hF
 refine Bz ?_
 refine FC rfl rfl rfl rfl ?_
 refine Mw ?_
 refine On ?_
 refine Uq ?_
 refine HL (e := p0.open_) rfl EL ?_
 refine Mn ?_
 refine Az rfl hF (fun hb1 hF => ?_) fun hb1 hF => ?_
 ·refine DS ?_
  refine Bz ?_
  refine C9 rfl Kj Bb rfl ?_
  refine Y5 ?_
  refine Ib ?_
  refine Cu (b := (p1.Kind == (6 : Int))) 4 20 (.bool ((p1.Kind == (6 : Int)) || (decide ((0 : Int) < p1.Refs)))) (fun hb2 => ?_) (fun hb2 => ?_) ?_
  ·refine Oe ?_
   exact th
  ·refine Hs ?_
   refine C9 rfl Oc Bb rfl ?_
   refine A2 ?_
   refine Y5 ?_
   refine QF ?_
   refine Hy ?_
   exact th
  refine CZ ?_
  refine BH 5 26 hF (fun J4 hb3 hF => ?_) (fun J4 hb3 hF => ?_) (fun v5 hF => ?_)
  ·refine Sk ?_
   exact tw
  ·refine Hs ?_
   refine Vf ?_
   refine A2 ?_
   refine Hx ?_
   refine A2 ?_
   refine cl (Lm _ hF fun x6 _ hF => ?_)
   refine A2 ?_
   refine UK ?_
   exact tw
  ·refine AV ?_
   refine Az rfl hF (fun hb7 hF => ?_) fun hb7 hF => ?_
   ·refine Eg ?_
    refine rr ?_
    exact ⟨_, _, (.refl _), hy ok, _, Aj hF, rfl, b0_0, x0, hb0_0, hx0, zk0, oy ok, rfl⟩
   ·refine SE ?_
    refine rr ?_
    exact ⟨_, _, (.refl _), hy ok, _, Aj hF, rfl, b0_0, x0, hb0_0, hx0, zk0, oy ok, rfl⟩
 ·refine Jr ?_
  refine IL (Kv (e := p0.open_) (j := 0) ok rfl hq0 hF fun x8 he9 hF => ?_) (.k .nil)
  obtain ⟨t10, xs11, rfl, hx12⟩ := Gz hx0 he9
  have zt13 := (BN.1 zk0).1
  have zs14 := (BN.1 zk0).2
  have hp15 := IP HT hx12
  have hck : cK (x8.1, t10) = [.int .i64 x8.1.node.Kind, .str x8.1.node.Name.URI, .str x8.1.node.Name.Local, .sl 3 (List.map Aa x8.1.node.Attrs) 0, As 6 t10 x8.1.node.Kids, .str x8.1.node.Text, .str x8.1.raw, .sl 2 (List.map Ad x8.1.in_.binds) 0] := rfl
  rw [B8, Dl, List.cons_append, hck] at ok
  rw [B8, Dl, List.cons_append, hck]
  clear hck
  refine W3 ?_
  refine Hw ?_
  refine GH ?_
  refine Tc ?_
  refine I4 (j := 1) (f0 := 4) ok rfl rfl rfl hb0_0 (by omega) (B6 (v := As 6 t10 x8.1.node.Kids) Dq BR rfl) ?_
  refine Jp zt13 rfl CE ?_
  refine Hc ?_
  refine Mw ?_
  refine Fe ?_
  refine Bz ?_
  refine Vf ?_
  refine Hx ?_
  refine Uz ?_
  refine Az rfl hF (fun hb16 hF => ?_) fun hb16 hF => ?_
  ·refine Eg ?_
   have hck : cK (x8.1, t10) = [.int .i64 x8.1.node.Kind, .str x8.1.node.Name.URI, .str x8.1.node.Name.Local, .sl 3 (List.map Aa x8.1.node.Attrs) 0, As 6 t10 x8.1.node.Kids, .str x8.1.node.Text, .str x8.1.raw, .sl 2 (List.map Ad x8.1.in_.binds) 0] := rfl
   rw [← hck, ← B8 (c := cK)] at ok
   rw [← hck, ← B8 (c := cK)]
   clear hck
   have hx17 : List.map Prod.fst ((x8.1, t10) :: xs11) = p0.open_ := by rw [List.map_cons, hx12, he9]
   have zs18 : zkR ((x8.1, t10) :: xs11) := BN.2 ⟨zt13, zs14⟩
   refine rr ?_
   exact ⟨_, _, (.refl _), hy ok, _, Aj hF, rfl, b0_0, ((x8.1, t10) :: xs11), hb0_0, hx17, zs18, oy ok, rfl⟩
  ·refine Eh ?_
   refine Si ?_
   refine BH 11 54 hF (fun J20 hb19 hF => ?_) (fun J20 hb19 hF => ?_) (fun v21 hF => ?_)
   ·refine FA ?_
    refine Tf ?_
    exact tw
   ·refine Tq ?_
    refine YR ?_
    refine A2 ?_
    refine Y4 ?_
    refine I4 (j := 1) (f0 := 4) ok rfl rfl rfl hb0_0 (by omega) (B6 (v := As 6 t10 x8.1.node.Kids) Dq BR rfl) ?_
    refine So ?_
    refine DJ zt13 rfl rfl CE AK hF (fun x22 hx22 hF => ?_)
    refine A2 ?_
    refine DA rfl IT Bb ?_
    refine A2 ?_
    refine EY (q := 6) (j := 2) (f0 := 0) ok rfl zt13 rfl rfl B3 hx22 rfl rfl (B6 HC Bb (congrArg (List.drop 0) (Ae x22))) ?_
    refine U5 ?_
    exact tw
   ·refine D7 ?_
    refine Az rfl hF (fun hb23 hF => ?_) fun hb23 hF => ?_
    ·refine FW ?_
     refine Vf ?_
     refine Hx ?_
     refine CS (v := .agg [.int .i64 (3 : Int), .str ([] : List UInt8), .str ([] : List UInt8), .snil, .snil, .str p1.Text]) (Ek Dh FY rfl) ?_
     refine Ed 58 (v := .agg (Ai (⟨(3 : Int), (⟨([] : List UInt8), ([] : List UInt8)⟩ : Am), ([] : List Ab), ([] : List Ac), p1.Text⟩ : Ac))) (Wd.toE (.aggC (.cons (.refl _) (.cons (.refl _) (.cons (.refl _) (.cons (.nil _) (.cons (.nil _) (.refl _))))))) (Ae _)) ?_
     have hck : cK (x8.1, t10) = [.int .i64 x8.1.node.Kind, .str x8.1.node.Name.URI, .str x8.1.node.Name.Local, .sl 3 (List.map Aa x8.1.node.Attrs) 0, As 6 t10 x8.1.node.Kids, .str x8.1.node.Text, .str x8.1.raw, .sl 2 (List.map Ad x8.1.in_.binds) 0] := rfl
     rw [← hck, ← B8 (c := cK)] at ok
     rw [← hck, ← B8 (c := cK)]
     clear hck
     have hx24 : List.map Prod.fst ((x8.1, t10) :: xs11) = p0.open_ := by rw [List.map_cons, hx12, he9]
     have zs25 : zkR ((x8.1, t10) :: xs11) := BN.2 ⟨zt13, zs14⟩
     obtain ⟨hpe, ok⟩ := A6 1 ok rfl
     rw [hpe]; clear hpe
     obtain ⟨hpe, ok⟩ := A6 1 ok rfl
     rw [hpe]; clear hpe
     refine cl (okT (fun _ hF => E5 _ (p0 := p0) (q0 := q0) (b0_0 := b0_0) (x0 := ((x8.1, t10) :: xs11)) h O hq0 hb0_0 hx24 zs25 ok hF) hF fun x26 _ _ _ hq hF => ?_)
     obtain ⟨rfl, u27, x28, hu27, hxu27, zku27, ok, rfl⟩ := hq
     refine EZ ?_
     refine rr ?_
     exact ⟨_, _, (.refl _), hy ok, _, Aj hF, rfl, u27, x28, hu27, hxu27, zku27, oy ok, rfl⟩
    ·refine GI ?_
     refine EP (mdl [(70, 3)]) (by kernel_rfl) (by kernel_rfl) ?_
     refine Lw ?_
     refine Tc ?_
     refine I4 (j := 1) (f0 := 4) ok rfl rfl rfl hb0_0 (by omega) (B6 (v := As 6 t10 x8.1.node.Kids) Dq BR rfl) ?_
     refine Eb ?_
     refine DJ zt13 rfl rfl CE AK hF (fun x29 hx29 hF => ?_)
     refine DA rfl Es AO ?_
     refine EY (q := 6) (j := 2) (f0 := 5) ok rfl zt13 rfl rfl B3 hx29 rfl rfl (B6 Dg AO (congrArg (List.drop 5) (Ae x29))) ?_
     refine Vf ?_
     refine Hx ?_
     refine JB rfl rfl hF (fun hF => ?_)
     refine DJ zt13 rfl rfl CE AK hF (fun x30 hx30 hF => ?_)
     refine DA rfl Es AO ?_
     refine J0 (q := 6) (j := 2) (f0 := 5) (b := (⟨x30.Kind, x30.Name, x30.Attrs, x30.Kids, (x29.Text ++ p1.Text)⟩ : Ac)) ok zt13 rfl rfl rfl B3 hx30 rfl rfl AO rfl (by rw [Ae, Ae]; rfl) (fun za31 ok => ?_)
     obtain ⟨a31, ha31, hF⟩ := DQ hF
     rw [← ha31] at ok za31
     rw [← ha31]
     have hms : As 6 t10 x8.1.node.Kids = As 6 t10 a31 := CK (by rw [ha31, List.length_set])
     try rw [hms] at ok
     try rw [hms]
     clear hms
     refine GQ ?_
     refine On ?_
     refine Tc ?_
     refine I4 (j := 1) (f0 := 4) ok rfl rfl rfl hb0_0 (by omega) (B6 (v := As 6 t10 a31) Dq BR rfl) ?_
     refine Eb ?_
     refine DJ za31 rfl rfl CE AK hF (fun x32 hx32 hF => ?_)
     refine DA rfl Es AO ?_
     refine EY (q := 6) (j := 2) (f0 := 5) ok rfl za31 rfl rfl B3 hx32 rfl rfl (B6 Dg AO (congrArg (List.drop 5) (Ae x32))) ?_
     refine PE ?_
     refine Sj ?_
     refine Az rfl hF (fun hb33 hF => ?_) fun hb33 hF => ?_
     ·refine Eg ?_
      have hck : cK ((⟨(⟨x8.1.node.Kind, x8.1.node.Name, x8.1.node.Attrs, a31, x8.1.node.Text⟩ : Ac), x8.1.raw, x8.1.in_⟩ : Af), t10) = [.int .i64 x8.1.node.Kind, .str x8.1.node.Name.URI, .str x8.1.node.Name.Local, .sl 3 (List.map Aa x8.1.node.Attrs) 0, As 6 t10 a31, .str x8.1.node.Text, .str x8.1.raw, .sl 2 (List.map Ad x8.1.in_.binds) 0] := rfl
      rw [← hck, ← B8 (c := cK)] at ok
      rw [← hck, ← B8 (c := cK)]
      clear hck
      have hx34 : List.map Prod.fst (((⟨(⟨x8.1.node.Kind, x8.1.node.Name, x8.1.node.Attrs, a31, x8.1.node.Text⟩ : Ac), x8.1.raw, x8.1.in_⟩ : Af), t10) :: xs11) = ((⟨(⟨x8.1.node.Kind, x8.1.node.Name, x8.1.node.Attrs, a31, x8.1.node.Text⟩ : Ac), x8.1.raw, x8.1.in_⟩ : Af) :: x8.2) := by rw [List.map_cons, hx12]
      have zs35 : zkR (((⟨(⟨x8.1.node.Kind, x8.1.node.Name, x8.1.node.Attrs, a31, x8.1.node.Text⟩ : Ac), x8.1.raw, x8.1.in_⟩ : Af), t10) :: xs11) := BN.2 ⟨za31, zs14⟩
      have hle36 : List.length p0.open_ = List.length ((⟨(⟨x8.1.node.Kind, x8.1.node.Name, x8.1.node.Attrs, a31, x8.1.node.Text⟩ : Ac), x8.1.raw, x8.1.in_⟩ : Af) :: x8.2) := by rw [he9]; rfl
      try rw [hle36] at ok
      try rw [hle36]
      refine rr ?_
      exact ⟨_, _, (.refl _), hy ok, _, Aj hF, rfl, b0_0, (((⟨(⟨x8.1.node.Kind, x8.1.node.Name, x8.1.node.Attrs, a31, x8.1.node.Text⟩ : Ac), x8.1.raw, x8.1.in_⟩ : Af), t10) :: xs11), hb0_0, hx34, zs35, oy ok, rfl⟩
     ·refine SE ?_
      have hck : cK ((⟨(⟨x8.1.node.Kind, x8.1.node.Name, x8.1.node.Attrs, a31, x8.1.node.Text⟩ : Ac), x8.1.raw, x8.1.in_⟩ : Af), t10) = [.int .i64 x8.1.node.Kind, .str x8.1.node.Name.URI, .str x8.1.node.Name.Local, .sl 3 (List.map Aa x8.1.node.Attrs) 0, As 6 t10 a31, .str x8.1.node.Text, .str x8.1.raw, .sl 2 (List.map Ad x8.1.in_.binds) 0] := rfl
      rw [← hck, ← B8 (c := cK)] at ok
      rw [← hck, ← B8 (c := cK)]
      clear hck
      have hx37 : List.map Prod.fst (((⟨(⟨x8.1.node.Kind, x8.1.node.Name, x8.1.node.Attrs, a31, x8.1.node.Text⟩ : Ac), x8.1.raw, x8.1.in_⟩ : Af), t10) :: xs11) = ((⟨(⟨x8.1.node.Kind, x8.1.node.Name, x8.1.node.Attrs, a31, x8.1.node.Text⟩ : Ac), x8.1.raw, x8.1.in_⟩ : Af) :: x8.2) := by rw [List.map_cons, hx12]
      have zs38 : zkR (((⟨(⟨x8.1.node.Kind, x8.1.node.Name, x8.1.node.Attrs, a31, x8.1.node.Text⟩ : Ac), x8.1.raw, x8.1.in_⟩ : Af), t10) :: xs11) := BN.2 ⟨za31, zs14⟩
      have hle39 : List.length p0.open_ = List.length ((⟨(⟨x8.1.node.Kind, x8.1.node.Name, x8.1.node.Attrs, a31, x8.1.node.Text⟩ : Ac), x8.1.raw, x8.1.in_⟩ : Af) :: x8.2) := by rw [he9]; rfl
      try rw [hle39] at ok
      try rw [hle39]
      refine rr ?_
      exact ⟨_, _, (.refl _), hy ok, _, Aj hF, rfl, b0_0, (((⟨(⟨x8.1.node.Kind, x8.1.node.Name, x8.1.node.Attrs, a31, x8.1.node.Text⟩ : Ac), x8.1.raw, x8.1.in_⟩ : Af), t10) :: xs11), hb0_0, hx37, zs38, oy ok, rfl⟩
theorem Hj (p0 : TP) {G : (List UInt8) × Bool → Prop} (h : Heap) (hF : Ap (D0 p0) G) : CallsA Tryz.prog 131 [.agg (cP p0)] h fun d h' => ∃ r, G r ∧ d = .tup [.str r.1, .bool r.2] ∧ h' = h := by
 refine CallsA.ret ?_
 refine B2 Tryz.func131 rfl ZU Tryz.ntmps131 rfl (fun ok => ?_)
 rw [D0] at hF
 refine Bz ?_
 refine FC rfl rfl rfl rfl ?_
 refine S_a (v := .str ([] : List UInt8)) rfl ?_
 refine D7 ?_
 refine Bz ?_
 refine C9 rfl JA AO rfl ?_
 refine Hx ?_
 refine cl (A4 (fun _ h hF => F7 _ h hF) _ hF fun x1 _ hF => ?_)
 refine Vh ?_
 refine Ov ?_
 refine RQ ?_
 refine Kh ?_
 refine CZ ?_
 refine Cu (b := x1.2.2) 3 19 (.bool (x1.2.2 && (x1.1 == ([120, 109, 108, 110, 115] : List UInt8)))) (fun hb2 => ?_) (fun hb2 => ?_) ?_
 ·refine Jt ?_
  refine UZ ?_
  exact th
 ·refine H0 ?_
  exact th
 refine D7 ?_
 refine Az rfl hF (fun hb3 hF => ?_) fun hb3 hF => ?_
 ·refine E1 ?_
  refine S6 ?_
  exact rt
 ·refine Bz ?_
  refine C9 rfl JA AO rfl ?_
  refine Hx ?_
  refine Uz ?_
  refine Az rfl hF (fun hb4 hF => ?_) fun hb4 hF => ?_
  ·refine Bz ?_
   refine S_a (v := .str ([] : List UInt8)) rfl ?_
   refine GM ?_
   exact rt
  ·refine Co ?_
   refine Bz ?_
   refine S_a (v := .str ([] : List UInt8)) rfl ?_
   refine GM ?_
   exact rt
theorem Mr (p0 : List UInt8) (p1 : List UInt8) {G : Int → Prop} (h : Heap) (hF : Ap (Fp p0 p1) G) : CallsA Tryz.prog 132 [.str p0, .str p1] h fun d h' => ∃ r, G r ∧ d = .int .i64 r ∧ h' = h := by
 refine CallsA.ret ?_
 refine B2 Tryz.func132 rfl aQ Tryz.ntmps132 rfl (fun ok => ?_)
 rw [Fp] at hF
 refine Gd ?_
 refine RQ ?_
 refine Bf hF (fun (a3 : Bool) s' => OK h [] ∧ WS s' ⟨Ak 26 [(0, .str p0), (1, .str p1), (5, .bool a3)], Hp h []⟩) (fun J4 hF => ?_) ?_
 ·refine E1 ?_
  refine Uz ?_
  refine Az rfl hF (fun hb5 hF => ?_) fun hb5 hF => ?_
  ·refine Co ?_
   exact ⟨(p0 == ([120, 109, 108, 110, 115] : List UInt8)), hF, oy ok, wy ok⟩
  ·refine E1 ?_
   refine Uz ?_
   refine Az rfl hF (fun hb6 hF => ?_) fun hb6 hF => ?_
   ·refine Co ?_
    exact ⟨(p1 == ([104, 116, 116, 112, 58, 47, 47, 119, 119, 119, 46, 119, 51, 46, 111, 114, 103, 47, 50, 48, 48, 48, 47, 120, 109, 108, 110, 115, 47] : List UInt8)), hF, oy ok, wy ok⟩
   ·refine IK ?_
    refine HQ ?_
    refine Lr ?_
    refine HQ ?_
    refine Lr ?_
    refine Ef rfl rfl (dG Y7) ?_
    refine D7 ?_
    exact ⟨(!((p0 == ([120, 109, 108] : List UInt8)) == (p1 == ([104, 116, 116, 112, 58, 47, 47, 119, 119, 119, 46, 119, 51, 46, 111, 114, 103, 47, 88, 77, 76, 47, 49, 57, 57, 56, 47, 110, 97, 109, 101, 115, 112, 97, 99, 101] : List UInt8)))), hF, oy ok, wy ok⟩
 ·rintro a3 s' hF ⟨ok, hws⟩
  refine AQ hws ?_
  clear hws s'
  refine Az rfl hF (fun hb7 hF => ?_) fun hb7 hF => ?_
  ·refine Eg ?_
   exact rt
  ·refine E1 ?_
   refine QK ?_
   refine CZ ?_
   refine Cu (b := (!(p0 == ([] : List UInt8)))) 3 21 (.bool ((!(p0 == ([] : List UInt8))) && (p1 == ([] : List UInt8)))) (fun hb8 => ?_) (fun hb8 => ?_) ?_
   ·refine Jt ?_
    refine UZ ?_
    exact th
   ·refine H0 ?_
    exact th
   refine D7 ?_
   refine Az rfl hF (fun hb9 hF => ?_) fun hb9 hF => ?_
   ·refine Eg ?_
    exact rt
   ·refine U3 ?_
    refine Qj ?_
    refine D7 ?_
    refine Az rfl hF (fun hb10 hF => ?_) fun hb10 hF => ?_
    ·refine Eg ?_
     exact rt
    ·refine SE ?_
     exact rt
theorem Gj (p0 : List (List UInt8)) (p1 : List UInt8) {G : Int → Prop} (h : Heap) (hF : Ap (CY p0 p1) G) : CallsA Tryz.prog 169 [.sl 1 (List.map IX p0) 0, .str p1] h fun d h' => ∃ r, G r ∧ d = .int .i64 r ∧ h' = h := by
 refine CallsA.ret ?_
 refine B2 Tryz.func169 rfl aH Tryz.ntmps169 rfl (fun ok => ?_)
 rw [CY] at hF
 refine Gd ?_
 refine Bf hF (fun (_ : Unit) s' => OK h [] ∧ WS s' ⟨Ak 19 [], Hp h []⟩) (fun J5 hF => ?_) ?_
 ·refine Gm ?_
  refine GF rfl K7 ?_
  refine Jb ?_
  refine Cp (σ := Int) hF (fun (a6 : Int) s' => OK h [] ∧ WS s' ⟨Ak 19 [(0, .sl 1 (List.map IX p0) 0), (1, .str p1), (7, .int .i64 (p0.length : Int)), (8, .int .i64 a6)], Hp h []⟩) ?_ ?_
  ·exact ⟨oy ok, wy ok⟩
  ·rintro G7 hG8 rec9 a6 s' ih10 hF ⟨ok, hws⟩
   refine AQ hws ?_
   clear hws s'
   rw [Cd] at hF
   refine Jg ?_
   refine Az rfl hF (fun hb11 hF => ?_) fun hb11 hF => ?_
   ·refine VB ?_
    refine E1 ?_
    refine Ux ?_
    refine Fz rfl rfl K7 AO hF (fun x12 _ hF => ?_)
    refine Hx ?_
    refine Lr ?_
    refine AV ?_
    refine Az rfl hF (fun hb13 hF => ?_) fun hb13 hF => ?_
    ·refine HP ?_
     replace hF := hG8 _ (Aj hF)
     exact rt
    ·refine Ms ?_
     refine ih10 (IntKind.wrap .i64 (a6 + (1 : Int))) _ hF ?_
     exact ⟨oy ok, wy ok⟩
   ·refine DT ?_
    replace hF := hG8 _ (Aj hF)
    exact ⟨(), hF, oy ok, wy ok⟩
 ·rintro ⟨⟩ s' hF ⟨ok, hws⟩
  refine AQ hws ?_
  clear hws s'
  refine Eg ?_
  exact rt
theorem FN (p0 : List (List UInt8)) (p1 : List UInt8) {G : Bool → Prop} (h : Heap) (hF : Ap (Ce p0 p1) G) : CallsA Tryz.prog 133 [.sl 1 (List.map IX p0) 0, .str p1] h fun d h' => ∃ r, G r ∧ d = .bool r ∧ h' = h := by
 refine CallsA.ret ?_
 refine B2 Tryz.func133 rfl bJ Tryz.ntmps133 rfl (fun ok => ?_)
 rw [Ce] at hF
 refine Nq ?_
 refine Gm ?_
 refine HQ ?_
 refine cl (A4 (fun _ h hF => Gj _ _ h hF) _ hF fun x1 _ hF => ?_)
 refine Mk ?_
 refine GM ?_
 exact rt
theorem IE (p0 : Ag) (p1 : List UInt8) {G : Bool → Prop} (h : Heap) (hF : Ap (Ca p0 p1) G) : CallsA Tryz.prog 135 [.agg (Ad p0), .iptr [.str p1]] h fun d h' => ∃ r, G r ∧ d = .bool r ∧ h' = h := by
 refine CallsA.ret ?_
 refine B2 Tryz.func135 rfl ak Tryz.ntmps135 rfl (fun ok => ?_)
 rw [Ca] at hF
 refine Bz ?_
 refine FC rfl rfl rfl rfl ?_
 refine D7 ?_
 refine Bz ?_
 refine C9 rfl Md AO rfl ?_
 refine Hx ?_
 refine Hx ?_
 refine Lr ?_
 refine GM ?_
 exact rt
theorem EF (p0 : List Ag) (p1 : Ag → Option Bool) (f1 : FuncId) (fi1 : List D) (ca1 : List D) (b0 : Nat) {G : Int → Prop} (h : Heap) (O : List (Nat × AObj)) (hf1 : ∀ (x0 : Ag) (G : Bool → Prop) (h : Heap), Ap (p1 x0) G → CallsA Tryz.prog f1 (fi1 ++ [.agg (Ad x0)] ++ ca1) h fun d h' => ∃ r, G r ∧ d = .bool r ∧ h' = h) (zb0 : b0 = 0 → p0 = []) (ok : OK h (mo b0 Ad p0 :: O)) (hF : Ap (BY p0 p1) G) : CallsA Tryz.prog 170 [As 2 b0 p0, .fn (.func f1) fi1 ca1] (Hp h (mo b0 Ad p0 :: O)) fun d h' => ∃ r, G r ∧ d = .int .i64 r ∧ OK h (mo b0 Ad p0 :: O) ∧ h' = Hp h (mo b0 Ad p0 :: O) := by
 refine CallsA.ret ?_
 refine CB Tryz.func170 rfl bZ Tryz.ntmps170 rfl ?_
 rw [BY] at hF
 refine Gd ?_
 refine Bf hF (fun (_ : Unit) s' => OK h (mo b0 Ad p0 :: O) ∧ WS s' ⟨Ak 19 [], Hp h (mo b0 Ad p0 :: O)⟩) (fun J6 hF => ?_) ?_
 ·refine Ra ?_
  refine Jp zb0 rfl Ez ?_
  refine Jb ?_
  refine Cp (σ := Int) hF (fun (a7 : Int) s' => OK h (mo b0 Ad p0 :: O) ∧ WS s' ⟨Ak 19 [(0, As 2 b0 p0), (1, .fn (.func f1) fi1 ca1), (7, .int .i64 (p0.length : Int)), (8, .int .i64 a7)], Hp h (mo b0 Ad p0 :: O)⟩) ?_ ?_
  ·exact ⟨oy ok, wy ok⟩
  ·rintro G8 hG9 rec10 a7 s' ih11 hF ⟨ok, hws⟩
   refine AQ hws ?_
   clear hws s'
   rw [Be] at hF
   refine Jg ?_
   refine Az rfl hF (fun hb12 hF => ?_) fun hb12 hF => ?_
   ·refine VB ?_
    refine Bz ?_
    refine NH ?_
    refine Gb ?_
    refine DJ zb0 rfl rfl Ez DI hF (fun x13 hx13 hF => ?_)
    refine EY (q := 2) (j := 0) (f0 := 0) ok rfl zb0 rfl rfl (fun _ => rfl) hx13 rfl rfl (Bm (vs := Ad x13) Id DI rfl rfl) ?_
    refine JU rfl (A4 (enc := fun r => .bool r) (fun G h hF => hf1 x13 G h hF) _ hF fun x14 _ hF => ?_) (.app (.app (.refl _) (.refl _)) (.refl _))
    refine AV ?_
    refine Az rfl hF (fun hb15 hF => ?_) fun hb15 hF => ?_
    ·refine HP ?_
     replace hF := hG9 _ (Aj hF)
     refine rr ?_
     exact ⟨_, _, (.refl _), hy ok, _, Aj hF, rfl, oy ok, rfl⟩
    ·refine Ms ?_
     refine ih11 (IntKind.wrap .i64 (a7 + (1 : Int))) _ hF ?_
     exact ⟨oy ok, wy ok⟩
   ·refine DT ?_
    replace hF := hG9 _ (Aj hF)
    exact ⟨(), hF, oy ok, wy ok⟩
 ·rintro ⟨⟩ s' hF ⟨ok, hws⟩
  refine AQ hws ?_
  clear hws s'
  refine Eg ?_
  refine rr ?_
  exact ⟨_, _, (.refl _), hy ok, _, Aj hF, rfl, oy ok, rfl⟩
theorem EB (p0 : List Ag) (p1 : Ag → Option Bool) (f1 : FuncId) (fi1 : List D) (ca1 : List D) (b0 : Nat) {G : List Ag → Prop} (h : Heap) (O : List (Nat × AObj)) (hf1 : ∀ (x0 : Ag) (G : Bool → Prop) (h : Heap), Ap (p1 x0) G → CallsA Tryz.prog f1 (fi1 ++ [.agg (Ad x0)] ++ ca1) h fun d h' => ∃ r, G r ∧ d = .bool r ∧ h' = h) (zb0 : b0 = 0 → p0 = []) (ok : OK h (mo b0 Ad p0 :: O)) (hF : Ap (Bn p0 p1) G) : CallsA Tryz.prog 134 [As 2 b0 p0, .fn (.func f1) fi1 ca1] (Hp h (mo b0 Ad p0 :: O)) fun d h' => ∃ r, G r ∧ d = As 2 b0 r ∧ (b0 = 0 → r = []) ∧ OK h (mo b0 Ad r :: O) ∧ h' = Hp h (mo b0 Ad r :: O) := by
 refine CallsA.ret ?_
 refine CB Tryz.func134 rfl ag Tryz.ntmps134 rfl ?_
 rw [Bn] at hF
 refine Bz ?_
 refine S_a (v := .snil) rfl ?_
 refine Ed 4 (v := .sl 2 (List.map Ad ([] : List Ag)) 0) (.nil _) ?_
 refine N2 ?_
 refine Ld ?_
 refine NH ?_
 refine cl (okT (fun _ hF => EF _ (p0 := p0) (f1 := f1) (fi1 := fi1) (ca1 := ca1) (b0 := b0) h (O) hf1 zb0 ok hF) hF fun x1 _ _ _ hq hF => ?_)
 obtain ⟨rfl, ok, rfl⟩ := hq
 refine Km ?_
 refine Mn ?_
 refine Az rfl hF (fun hb2 hF => ?_) fun hb2 hF => ?_
 ·refine Ra ?_
  refine RB ?_
  refine MP ?_
  refine rr ?_
  exact ⟨_, _, (.refl _), hy ok, _, Aj hF, rfl, zb0, oy ok, rfl⟩
 ·refine Co ?_
  refine Bf hF (fun (v : (List Ag) × Int) s' => match v with | (a23, a25) => (b0 = 0 → a23 = []) ∧ OK h (mo b0 Ad a23 :: O) ∧ WS s' ⟨Ak 42 [(0, As 2 b0 a23), (5, .int .i64 a25)], Hp h (mo b0 Ad a23 :: O)⟩) (fun J26 hF => ?_) ?_
  ·refine Eh ?_
   refine HW ?_
   refine EV ?_
   refine Fe ?_
   refine Cp (σ := (List Ag) × Int × Int) hF (fun (v : (List Ag) × Int × Int) s' => match v with | (a27, a29, a30) => (b0 = 0 → a27 = []) ∧ OK h (mo b0 Ad a27 :: O) ∧ WS s' ⟨Ak 42 [(0, As 2 b0 a27), (1, .fn (.func f1) fi1 ca1), (5, .int .i64 a29), (6, .int .i64 a30)], Hp h (mo b0 Ad a27 :: O)⟩) ?_ ?_
   ·exact ⟨zb0, oy ok, wy ok⟩
   ·rintro G31 hG32 rec33 ⟨a27, a29, a30⟩ s' ih34 hF ⟨kz28, ok, hws⟩
    refine AQ hws ?_
    clear hws s'
    rw [AS] at hF
    refine Iq ?_
    refine Ld ?_
    refine Jp kz28 rfl Ez ?_
    refine Kx ?_
    refine Az rfl hF (fun hb35 hF => ?_) fun hb35 hF => ?_
    ·refine Co ?_
     refine Bf hF (fun (v : (List Ag) × Int) s' => match v with | (a42, a44) => (b0 = 0 → a42 = []) ∧ OK h (mo b0 Ad a42 :: O) ∧ WS s' ⟨Ak 42 [(0, As 2 b0 a42), (1, .fn (.func f1) fi1 ca1), (5, .int .i64 a44), (6, .int .i64 a30)], Hp h (mo b0 Ad a42 :: O)⟩) (fun J45 hF => ?_) ?_
     ·refine Fe ?_
      refine DS ?_
      refine CF (mdl [(7, 1)]) ?_
      refine Gb ?_
      refine DJ kz28 rfl rfl Ez DI hF (fun x46 hx46 hF => ?_)
      refine EY (q := 2) (j := 0) (f0 := 0) ok rfl kz28 rfl rfl (fun _ => rfl) hx46 rfl rfl (Bm (vs := Ad x46) Id DI rfl rfl) ?_
      refine C8 ok rfl JH ?_
      intro i47 hi47 ok
      refine Ck (j := 0) (cs' := [.str x46.prefix_, .str x46.uri]) ok rfl rfl rfl hi47 rfl DI rfl rfl (fun ok => ?_)
      refine N2 ?_
      refine NH ?_
      refine Ds (j := 0) ok rfl rfl rfl hi47 (Bm (vs := Ad x46) Id DI rfl rfl) ?_
      refine JU rfl (A4 (enc := fun r => .bool r) (fun G h hF => hf1 x46 G h hF) _ hF fun x48 _ hF => ?_) (.app (.app (.refl _) (.refl _)) (.refl _))
      refine Mt ?_
      refine Az rfl hF (fun hb49 hF => ?_) fun hb49 hF => ?_
      ·refine Bz ?_
       refine Gb ?_
       refine Ds (j := 0) ok rfl rfl rfl hi47 (Bm (vs := Ad x46) Id DI rfl rfl) ?_
       refine DJ kz28 rfl rfl Ez DI hF (fun x50 hx50 hF => ?_)
       refine J0 (q := 2) (j := 1) (f0 := 0) (b := x46) ok kz28 rfl rfl rfl (fun _ => rfl) hx50 rfl rfl DI rfl rfl (fun za51 ok => ?_)
       obtain ⟨a51, ha51, hF⟩ := DQ hF
       rw [← ha51] at ok za51
       rw [← ha51]
       have hms : As 2 b0 a27 = As 2 b0 a51 := CK (by rw [ha51, List.length_set])
       try rw [hms] at ok
       try rw [hms]
       clear hms
       refine AV ?_
       refine Ox ?_
       exact ⟨(a51, (IntKind.wrap .i64 (a29 + (1 : Int)))), hF, za51, oy ok, wy ok⟩
      ·refine Co ?_
       exact ⟨(a27, a29), hF, kz28, oy ok, wy ok⟩
     ·rintro ⟨a42, a44⟩ s' hF ⟨kz43, ok, hws⟩
      refine AQ hws ?_
      clear hws s'
      refine Ox ?_
      refine ih34 (a42, a44, (IntKind.wrap .i64 (a30 + (1 : Int)))) _ hF ?_
      exact ⟨kz43, oy ok, wy ok⟩
    ·refine DT ?_
     replace hF := hG32 _ (Aj hF)
     exact ⟨(a27, a29), hF, kz28, oy ok, wy ok⟩
  ·rintro ⟨a23, a25⟩ s' hF ⟨kz24, ok, hws⟩
   refine AQ hws ?_
   clear hws s'
   refine Bz ?_
   refine Gb ?_
   refine cS kz24 rfl Ez DI (ED rfl) I5 hF (fun x52 hx52 hF => ?_)
   refine bY (c := Ad) (e := a23) (i := a25) 0 ok kz24 rfl (fun _ => rfl) rfl hx52 rfl Ez JH rfl hF (fun hF hi53 hl54 ok => ?_)
   refine N2 ?_
   refine Gb ?_
   refine dr (e := (List.take (Int.toNat a25) a23)) hi53 (Eq.trans (b := As 2 b0 a23) rfl (EO hi53)) rfl Ez DI hl54.1 (Int.le_of_lt hl54.2) (by rw [List.length_take]; have := hl54; omega) ?_
   refine RB ?_
   refine MP ?_
   refine rr ?_
   exact ⟨_, _, (.refl _), hy ok, _, Aj hF, rfl, (fun h => absurd h hi53), oy ok, rfl⟩
theorem El (p0 : Ao) (p1 : List TP) {G : Ao × Int → Prop} (h : Heap) (hF : Ap (CD p0 p1) G) : CallsA Tryz.prog 87 [.agg (AU p0), .sl 2 (List.map cP p1) 0] h fun d h' => ∃ r, G r ∧ d = .tup [.agg (AU r.1), .int .i64 r.2] ∧ h' = h := by
 refine CallsA.ret ?_
 refine B2 Tryz.func87 rfl dz Tryz.ntmps87 rfl (fun ok => ?_)
 rw [CD] at hF
 refine DS ?_
 refine CF (mdl [(4, 1)]) ?_
 refine FC rfl rfl rfl rfl ?_
 refine C8 ok rfl Fo ?_
 intro i1 hi1 ok
 refine EV ?_
 refine Bz ?_
 refine S_a (v := .snil) rfl ?_
 refine TY 6 1 ok rfl rfl ?_
 intro r2 hr2 ok
 refine N2 ?_
 refine C9 rfl M1 KN rfl ?_
 refine Cs rfl (B6 Rs KN rfl) ?_
 refine IL (WI h [(r2, .room), (i1, .cells [.snil])] ok hF fun x3 u4 zu4 ok hF => ?_) (.k .nil)
 refine RB ?_
 refine Bf hF (fun (v : (List Ag) × (List Ag)) s' => match v with | (a52, a54) => ∃ g53 : Nat, (g53 = 0 → a54 = []) ∧ OK h [mo g53 Ad a54, (i1, .cells [.sl 2 (List.map Ad a52) 0])] ∧ WS s' ⟨Ak 65 [(4, .ptr i1 0), (7, As 2 g53 a54)], Hp h [mo g53 Ad a54, (i1, .cells [.sl 2 (List.map Ad a52) 0])]⟩) (fun J55 hF => ?_) ?_
 ·refine Gm ?_
  refine GF rfl H8 ?_
  refine Jb ?_
  refine Cp (σ := (List Ag) × (List (List UInt8)) × (List Ag) × Int) hF (fun (v : (List Ag) × (List (List UInt8)) × (List Ag) × Int) s' => match v with | (a56, a57, a60, a61) => ∃ g58 g59 : Nat, g58 ≠ 0 ∧ (g59 = 0 → a60 = []) ∧ OK h [mo g59 Ad a60, (g58, .room), (i1, .cells [.sl 2 (List.map Ad a56) 0])] ∧ WS s' ⟨Ak 65 [(4, .ptr i1 0), (6, .sl 1 (List.map IX a57) g58), (7, As 2 g59 a60), (16, .sl 2 (List.map cP p1) 0), (17, .int .i64 (p1.length : Int)), (18, .int .i64 a61)], Hp h [mo g59 Ad a60, (g58, .room), (i1, .cells [.sl 2 (List.map Ad a56) 0])]⟩) ?_ ?_
  ·have hwo : WO [mo u4 Ad x3, (r2, .room), (i1, .cells [.snil])] [mo u4 Ad x3, (r2, .room), (i1, .cells [.sl 2 (List.map Ad ([] : List Ag)) 0])] := (.keep (.keep (.weak (.cons (.nil _) (.nil)) .nil)))
   exact ⟨r2, u4, hr2, zu4, (hwo.spec ok).1, WS.mk' (.k (.k (.k (.k (.k (.k .nil)))))) ok hwo⟩
  ·rintro G62 hG63 rec64 ⟨a56, a57, a60, a61⟩ s' ih65 hF ⟨g58, g59, hg58, zg59, ok, hws⟩
   refine AQ hws ?_
   clear hws s'
   rw [Dp] at hF
   refine Jg ?_
   refine Az rfl hF (fun hb66 hF => ?_) fun hb66 hF => ?_
   ·refine Co ?_
    refine Bf hF (fun (v : (List (List UInt8)) × (List Ag)) s' => match v with | (a85, a88) => ∃ g86 g87 : Nat, g86 ≠ 0 ∧ (g87 = 0 → a88 = []) ∧ OK h [mo g87 Ad a88, (g86, .room), (i1, .cells [.sl 2 (List.map Ad a56) 0])] ∧ WS s' ⟨Ak 65 [(4, .ptr i1 0), (6, .sl 1 (List.map IX a85) g86), (7, As 2 g87 a88), (16, .sl 2 (List.map cP p1) 0), (17, .int .i64 (p1.length : Int)), (18, .int .i64 a61)], Hp h [mo g87 Ad a88, (g86, .room), (i1, .cells [.sl 2 (List.map Ad a56) 0])]⟩) (fun J89 hF => ?_) ?_
    ·refine Fe ?_
     refine DS ?_
     refine CF (mdl [(9, 1)]) ?_
     refine Fz rfl rfl H8 Ej hF (fun x90 _ hF => ?_)
     refine Cs rfl (Bm (vs := cP x90) GX Ej rfl rfl) ?_
     refine C8 ok rfl H1 ?_
     intro i91 hi91 ok
     refine Ck (j := 0) (cs' := [.str x90.Name, .str x90.Value]) ok rfl rfl rfl hi91 rfl Ej rfl rfl (fun ok => ?_)
     refine GQ ?_
     refine CF (mdl [(10, 1)]) ?_
     refine Ds (j := 0) ok rfl rfl rfl hi91 (Bm (vs := cP x90) GX Ej rfl rfl) ?_
     refine cl (A4 (fun _ h hF => Hj _ h hF) _ hF fun x92 _ hF => ?_)
     refine GL ?_
     refine C8 ok rfl Zs ?_
     intro i93 hi93 ok
     refine Ck (j := 0) (cs' := [.str x92.1]) ok rfl rfl rfl hi93 rfl AO rfl rfl (fun ok => ?_)
     refine D7 ?_
     refine DS ?_
     refine Kh ?_
     refine Mt ?_
     refine Az rfl hF (fun hb94 hF => ?_) fun hb94 hF => ?_
     ·refine DT ?_
      exact ⟨(a57, a60), hF, g58, g59, hg58, zg59, oy ok, wy ok⟩
     ·refine GI ?_
      refine Bz ?_
      refine QU ?_
      refine X0 ?_
      refine bC ?_
      refine cl (A4 (fun _ h hF => Mr _ _ h hF) _ hF fun x95 _ hF => ?_)
      refine Rl ?_
      refine Az rfl hF (fun hb96 hF => ?_) fun hb96 hF => ?_
      ·refine Bz ?_
       refine CS (v := .agg [.snil]) (Ek Fo KL rfl) ?_
       refine Ed 35 (v := .agg (AU (⟨([] : List Ag)⟩ : Ao))) (.aggC (.cons (.nil _) (.nil))) ?_
       refine Eb ?_
       refine Ck (j := 4) (cs' := [.sl 2 (List.map Ad (⟨([] : List Ag)⟩ : Ao).binds) 0]) ok rfl rfl rfl hi1 rfl CL rfl rfl (fun ok => ?_)
       refine EZ ?_
       replace hF := hG63 _ (Aj hF)
       refine xr ?_
       refine Fs (fn := Tryz.f87) rfl (.cell rfl (Ga (j := 4) ok rfl hi1 (Bm (vs := [.sl 2 (List.map Ad (⟨([] : List Ag)⟩ : Ao).binds) 0]) EM CL rfl rfl)) (.tmp (v := .int .i64 x95) rfl .nil)) ?_
       exact ⟨_, _, (.tupC (.cons (.aggC (.refl _)) (.refl _))), ok.wh, _, Aj hF, rfl, rfl⟩
      ·refine GI ?_
       refine Gm ?_
       refine Ed 37 (v := .sl 1 (List.map IX a57) 0) (.zero _ _ _) ?_
       refine QU ?_
       refine cl (A4 (fun _ h hF => FN _ _ h hF) _ hF fun x97 _ hF => ?_)
       refine AV ?_
       refine Az rfl hF (fun hb98 hF => ?_) fun hb98 hF => ?_
       ·refine Bz ?_
        refine CS (v := .agg [.snil]) (Ek Fo KL rfl) ?_
        refine Ed 40 (v := .agg (AU (⟨([] : List Ag)⟩ : Ao))) (.aggC (.cons (.nil _) (.nil))) ?_
        refine Ck (j := 4) (cs' := [.sl 2 (List.map Ad (⟨([] : List Ag)⟩ : Ao).binds) 0]) ok rfl rfl rfl hi1 rfl CL rfl rfl (fun ok => ?_)
        refine EZ ?_
        replace hF := hG63 _ (Aj hF)
        refine xr ?_
        refine Fs (fn := Tryz.f87) rfl (.cell rfl (Ga (j := 4) ok rfl hi1 (Bm (vs := [.sl 2 (List.map Ad (⟨([] : List Ag)⟩ : Ao).binds) 0]) EM CL rfl rfl)) (.tmp (v := .int .i64 (27 : Int)) rfl .nil)) ?_
        exact ⟨_, _, (.tupC (.cons (.aggC (.refl _)) (.refl _))), ok.wh, _, Aj hF, rfl, rfl⟩
       ·refine GI ?_
        refine CF (mdl [(44, 2)]) ?_
        refine Kr ?_
        refine QU ?_
        refine Fk (cs := [.str x92.1]) (es := (List.map IX [x92.1])) rfl NE rfl (by kernel_rfl) (by kernel_rfl) ?_
        refine dg (j := 3) ok rfl rfl rfl rfl hg58 NE XK hF ?_
        intro r99 hr99 ok hF
        refine RU ?_
        refine Bz ?_
        refine XQ 0 10 ok rfl rfl hi93 (fun ok => ?_)
        refine Ld ?_
        refine dj (ca := [.iptr (IX x92.1)]) rfl ?_
        obtain ⟨hpe, ok⟩ := A6 2 ok rfl
        rw [hpe]; clear hpe
        refine cl (okT (fun _ hF => EB _ (p0 := a60) (f1 := 135) (fi1 := []) (ca1 := [.iptr (IX x92.1)]) (b0 := g59) h [(0, .room), (i91, .cells [.str x90.Name, .str x90.Value]), (r99, .room), (i1, .cells [.sl 2 (List.map Ad a56) 0])] (fun z0 G h hF => IE z0 x92.1 h hF) zg59 ok hF) hF fun x102 _ _ _ hq hF => ?_)
        obtain ⟨rfl, zr103, ok, rfl⟩ := hq
        refine Xm ?_
        refine N2 ?_
        refine Hx ?_
        refine QK ?_
        refine CZ ?_
        refine Cu (b := (!(x92.1 == ([120, 109, 108] : List UInt8)))) 4 54 (.bool ((!(x92.1 == ([120, 109, 108] : List UInt8))) && (!(x90.Value == ([] : List UInt8))))) (fun hb104 => ?_) (fun hb104 => ?_) ?_
        ·refine Hs ?_
         refine X0 ?_
         refine A2 ?_
         refine aY ?_
         refine A2 ?_
         refine QK ?_
         refine Hh ?_
         exact th
        ·refine LE ?_
         exact th
        refine AV ?_
        refine Az rfl hF (fun hb105 hF => ?_) fun hb105 hF => ?_
        ·refine CF (mdl [(61, 1)]) ?_
         refine Ld ?_
         refine Hx ?_
         refine X0 ?_
         refine aY ?_
         refine CS (v := .agg (Ad (⟨x92.1, x90.Value⟩ : Ag))) (Ek JH VD rfl) ?_
         refine Fk (cs := [.str (⟨x92.1, x90.Value⟩ : Ag).prefix_, .str (⟨x92.1, x90.Value⟩ : Ag).uri]) (es := (List.map Ad [(⟨x92.1, x90.Value⟩ : Ag)])) rfl Ie rfl (by kernel_rfl) (by kernel_rfl) ?_
         refine II (j := 0) (M := [(⟨x92.1, x90.Value⟩ : Ag)]) ok zr103 rfl rfl Jy (fun _ => rfl) rfl Ie M9 hF ?_
         intro u106 zu106 ok hF
         obtain ⟨a107, ha107, hF⟩ := DQ hF
         rw [← ha107] at ok zu106
         rw [← ha107]
         refine RB ?_
         exact ⟨((a57 ++ [x92.1]), a107), hF, r99, u106, hr99, zu106, oy ok, wy ok⟩
        ·refine Co ?_
         exact ⟨((a57 ++ [x92.1]), x102), hF, r99, g59, hr99, zr103, oy ok, wy ok⟩
    ·rintro ⟨a85, a88⟩ s' hF ⟨g86, g87, hg86, zg87, ok, hws⟩
     refine AQ hws ?_
     clear hws s'
     refine SO ?_
     refine ih65 (a56, a85, a88, (IntKind.wrap .i64 (a61 + (1 : Int)))) _ hF ?_
     exact ⟨g86, g87, hg86, zg87, oy ok, wy ok⟩
   ·refine DT ?_
    replace hF := hG63 _ (Aj hF)
    exact ⟨(a56, a60), hF, g59, zg59, oy ok, wy ok⟩
 ·rintro ⟨a52, a54⟩ s' hF ⟨g53, zg53, ok, hws⟩
  refine AQ hws ?_
  clear hws s'
  refine Ra ?_
  refine PH 0 63 ok zg53 rfl rfl (fun _ => rfl) (fun ok => ?_)
  refine CS (v := .agg (AU (⟨a54⟩ : Ao))) (Ek Fo KL rfl) ?_
  refine Ck (j := 1) (cs' := [.sl 2 (List.map Ad (⟨a54⟩ : Ao).binds) 0]) ok rfl rfl rfl hi1 rfl CL rfl rfl (fun ok => ?_)
  refine EZ ?_
  refine xr ?_
  refine Fs (fn := Tryz.f87) rfl (.cell rfl (Ga (j := 1) ok rfl hi1 (Bm (vs := [.sl 2 (List.map Ad (⟨a54⟩ : Ao).binds) 0]) EM CL rfl rfl)) (.tmp (v := .int .i64 (0 : Int)) rfl .nil)) ?_
  exact ⟨_, _, (.tupC (.cons (.aggC (.refl _)) (.refl _))), ok.wh, _, Aj hF, rfl, rfl⟩
theorem Jd (p0 : Ao) (p1 : List UInt8) {G : (List UInt8) × Bool → Prop} (h : Heap) (hF : Ap (DR p0 p1) G) : CallsA Tryz.prog 137 [.agg (AU p0), .str p1] h fun d h' => ∃ r, G r ∧ d = .tup [.str r.1, .bool r.2] ∧ h' = h := by
 refine CallsA.ret ?_
 refine B2 Tryz.func137 rfl aK Tryz.ntmps137 rfl (fun ok => ?_)
 rw [DR] at hF
 refine Bz ?_
 refine FC rfl rfl rfl rfl ?_
 refine S_a (v := .str ([] : List UInt8)) rfl ?_
 refine D7 ?_
 refine DS ?_
 refine QB ?_
 refine AV ?_
 refine Az rfl hF (fun hb1 hF => ?_) fun hb1 hF => ?_
 ·refine Bz ?_
  refine S_a (v := .str ([104, 116, 116, 112, 58, 47, 47, 119, 119, 119, 46, 119, 51, 46, 111, 114, 103, 47, 88, 77, 76, 47, 49, 57, 57, 56, 47, 110, 97, 109, 101, 115, 112, 97, 99, 101] : List UInt8)) rfl ?_
  refine GM ?_
  exact rt
 ·refine Co ?_
  refine Bf hF (fun (_ : Unit) s' => OK h [] ∧ WS s' ⟨Ak 26 [(1, .str p1)], Hp h []⟩) (fun J7 hF => ?_) ?_
  ·refine Bz ?_
   refine C9 rfl M1 KN rfl ?_
   refine Cs rfl (B6 Rs KN rfl) ?_
   refine GF rfl Ez ?_
   refine Jb ?_
   refine Cp (σ := Int) hF (fun (a8 : Int) s' => OK h [] ∧ WS s' ⟨Ak 26 [(1, .str p1), (11, .sl 2 (List.map Ad p0.binds) 0), (12, .int .i64 (p0.binds.length : Int)), (13, .int .i64 a8)], Hp h []⟩) ?_ ?_
   ·exact ⟨oy ok, wy ok⟩
   ·rintro G9 hG10 rec11 a8 s' ih12 hF ⟨ok, hws⟩
    refine AQ hws ?_
    clear hws s'
    rw [Df] at hF
    refine Jg ?_
    refine Az rfl hF (fun hb13 hF => ?_) fun hb13 hF => ?_
    ·refine Vt ?_
     refine CF (mdl [(7, 1)]) ?_
     refine Fz rfl rfl Ez DI hF (fun x14 _ hF => ?_)
     refine Cs rfl (Bm (vs := Ad x14) Id DI rfl rfl) ?_
     refine C8 ok rfl JH ?_
     intro i15 hi15 ok
     refine Ck (j := 0) (cs' := [.str x14.prefix_, .str x14.uri]) ok rfl rfl rfl hi15 rfl DI rfl rfl (fun ok => ?_)
     refine N2 ?_
     refine DA rfl Md AO ?_
     refine QU ?_
     refine HQ ?_
     refine Lr ?_
     refine AV ?_
     refine Az rfl hF (fun hb16 hF => ?_) fun hb16 hF => ?_
     ·refine Bz ?_
      refine DA rfl Q3 AO ?_
      refine QU ?_
      refine S6 ?_
      replace hF := hG10 _ (Aj hF)
      exact rt
     ·refine Ms ?_
      refine ih12 (IntKind.wrap .i64 (a8 + (1 : Int))) _ hF ?_
      exact ⟨oy ok, wy ok⟩
    ·refine DT ?_
     replace hF := hG10 _ (Aj hF)
     exact ⟨(), hF, oy ok, wy ok⟩
  ·rintro ⟨⟩ s' hF ⟨ok, hws⟩
   refine AQ hws ?_
   clear hws s'
   refine QB ?_
   refine S_a (v := .str ([] : List UInt8)) rfl ?_
   refine GM ?_
   exact rt
theorem FF (p0 : Ao) (p1 : List UInt8) {G : Am × Int → Prop} (h : Heap) (hF : Ap (Cg p0 p1) G) : CallsA Tryz.prog 88 [.agg (AU p0), .str p1] h fun d h' => ∃ r, G r ∧ d = .tup [.agg (Cb r.1), .int .i64 r.2] ∧ h' = h := by
 refine CallsA.ret ?_
 refine B2 Tryz.func88 rfl de Tryz.ntmps88 rfl (fun ok => ?_)
 rw [Cg] at hF
 refine DS ?_
 refine CF (mdl [(4, 1)]) ?_
 refine FC rfl rfl rfl rfl ?_
 refine C8 ok rfl F2 ?_
 intro i1 hi1 ok
 refine EV ?_
 refine E1 ?_
 refine cl (A4 (fun _ h hF => F7 _ h hF) _ hF fun x2 _ hF => ?_)
 refine Vh ?_
 refine Ov ?_
 refine RQ ?_
 refine Kh ?_
 refine P1 ?_
 refine D7 ?_
 refine Az rfl hF (fun hb3 hF => ?_) fun hb3 hF => ?_
 ·refine Bz ?_
  refine CS (v := .agg (Cb (⟨([] : List UInt8), ([] : List UInt8)⟩ : Am))) (Ek F2 In rfl) ?_
  refine Ck (j := 0) (cs' := [.str (⟨([] : List UInt8), ([] : List UInt8)⟩ : Am).URI, .str (⟨([] : List UInt8), ([] : List UInt8)⟩ : Am).Local]) ok rfl rfl rfl hi1 rfl Cx rfl rfl (fun ok => ?_)
  refine EZ ?_
  refine xr ?_
  refine Fs (fn := Tryz.f88) rfl (.cell rfl (Ga (j := 0) ok rfl hi1 (Bm (vs := [.str (⟨([] : List UInt8), ([] : List UInt8)⟩ : Am).URI, .str (⟨([] : List UInt8), ([] : List UInt8)⟩ : Am).Local]) EK Cx rfl rfl)) (.tmp (v := .int .i64 (24 : Int)) rfl .nil)) ?_
  exact ⟨_, _, (.tupC (.cons (.aggC (.refl _)) (.refl _))), ok.wh, _, Aj hF, rfl, rfl⟩
 ·refine E1 ?_
  refine Uz ?_
  refine Az rfl hF (fun hb4 hF => ?_) fun hb4 hF => ?_
  ·refine Bz ?_
   refine CS (v := .agg (Cb (⟨([] : List UInt8), ([] : List UInt8)⟩ : Am))) (Ek F2 In rfl) ?_
   refine Ck (j := 0) (cs' := [.str (⟨([] : List UInt8), ([] : List UInt8)⟩ : Am).URI, .str (⟨([] : List UInt8), ([] : List UInt8)⟩ : Am).Local]) ok rfl rfl rfl hi1 rfl Cx rfl rfl (fun ok => ?_)
   refine EZ ?_
   refine xr ?_
   refine Fs (fn := Tryz.f88) rfl (.cell rfl (Ga (j := 0) ok rfl hi1 (Bm (vs := [.str (⟨([] : List UInt8), ([] : List UInt8)⟩ : Am).URI, .str (⟨([] : List UInt8), ([] : List UInt8)⟩ : Am).Local]) EK Cx rfl rfl)) (.tmp (v := .int .i64 (29 : Int)) rfl .nil)) ?_
   exact ⟨_, _, (.tupC (.cons (.aggC (.refl _)) (.refl _))), ok.wh, _, Aj hF, rfl, rfl⟩
  ·refine Co ?_
   refine Bz ?_
   refine Cs rfl (Bm (vs := AU p0) EM CL rfl rfl) ?_
   refine HQ ?_
   refine cl (A4 (fun _ h hF => Jd _ _ h hF) _ hF fun x5 _ hF => ?_)
   refine GL ?_
   refine Ov ?_
   refine DS ?_
   refine Kh ?_
   refine Mt ?_
   refine Az rfl hF (fun hb6 hF => ?_) fun hb6 hF => ?_
   ·refine Bz ?_
    refine CS (v := .agg (Cb (⟨([] : List UInt8), ([] : List UInt8)⟩ : Am))) (Ek F2 In rfl) ?_
    refine Ck (j := 0) (cs' := [.str (⟨([] : List UInt8), ([] : List UInt8)⟩ : Am).URI, .str (⟨([] : List UInt8), ([] : List UInt8)⟩ : Am).Local]) ok rfl rfl rfl hi1 rfl Cx rfl rfl (fun ok => ?_)
    refine EZ ?_
    refine xr ?_
    refine Fs (fn := Tryz.f88) rfl (.cell rfl (Ga (j := 0) ok rfl hi1 (Bm (vs := [.str (⟨([] : List UInt8), ([] : List UInt8)⟩ : Am).URI, .str (⟨([] : List UInt8), ([] : List UInt8)⟩ : Am).Local]) EK Cx rfl rfl)) (.tmp (v := .int .i64 (28 : Int)) rfl .nil)) ?_
    exact ⟨_, _, (.tupC (.cons (.aggC (.refl _)) (.refl _))), ok.wh, _, Aj hF, rfl, rfl⟩
   ·refine Co ?_
    refine Qt ?_
    refine CS (v := .agg (Cb (⟨x5.1, x2.2.1⟩ : Am))) (Ek F2 In rfl) ?_
    refine Ck (j := 0) (cs' := [.str (⟨x5.1, x2.2.1⟩ : Am).URI, .str (⟨x5.1, x2.2.1⟩ : Am).Local]) ok rfl rfl rfl hi1 rfl Cx rfl rfl (fun ok => ?_)
    refine EZ ?_
    refine xr ?_
    refine Fs (fn := Tryz.f88) rfl (.cell rfl (Ga (j := 0) ok rfl hi1 (Bm (vs := [.str (⟨x5.1, x2.2.1⟩ : Am).URI, .str (⟨x5.1, x2.2.1⟩ : Am).Local]) EK Cx rfl rfl)) (.tmp (v := .int .i64 (0 : Int)) rfl .nil)) ?_
    exact ⟨_, _, (.tupC (.cons (.aggC (.refl _)) (.refl _))), ok.wh, _, Aj hF, rfl, rfl⟩
theorem Do (p0 : List Ab) (p1 : Int) (p2 : Int) (p3 : Ab → Ab → Option Int) (f3 : FuncId) (fi3 : List D) (ca3 : List D) (b0 : Nat) {G : (List Ab) → Prop} (h : Heap) (O : List (Nat × AObj)) (hf3 : ∀ (x0 : Ab) (x1 : Ab) (G : Int → Prop) (h : Heap), Ap (p3 x0 x1) G → CallsA Tryz.prog f3 (fi3 ++ [.agg (Aa x0), .agg (Aa x1)] ++ ca3) h fun d h' => ∃ r, G r ∧ d = .int .i64 r ∧ h' = h) (zb0 : b0 = 0 → p0 = []) (ok : OK h (mo b0 Aa p0 :: O)) (hF : Ap (A9 p0 p1 p2 p3) G) : CallsA Tryz.prog 187 [As 3 b0 p0, .int .i64 p1, .int .i64 p2, .fn (.func f3) fi3 ca3] (Hp h (mo b0 Aa p0 :: O)) fun d h' => ∃ r, G r ∧ d = .tup [] ∧ (b0 = 0 → r = []) ∧ OK h (mo b0 Aa r :: O) ∧ h' = Hp h (mo b0 Aa r :: O) := by
 refine CallsA.ret ?_
 refine CB Tryz.func187 rfl bg Tryz.ntmps187 rfl ?_
 rw [A9] at hF
 refine Eh ?_
 refine HW ?_
 refine EV ?_
 refine Fe ?_
 refine Cp (σ := (List Ab) × Int) hF (fun (v : (List Ab) × Int) s' => match v with | (a1, a3) => (b0 = 0 → a1 = []) ∧ OK h (mo b0 Aa a1 :: O) ∧ WS s' ⟨Ak 53 [(0, As 3 b0 a1), (1, .int .i64 p1), (2, .int .i64 p2), (3, .fn (.func f3) fi3 ca3), (8, .int .i64 a3)], Hp h (mo b0 Aa a1 :: O)⟩) ?_ ?_
 ·exact ⟨zb0, oy ok, wy ok⟩
 ·rintro G4 hG5 rec6 ⟨a1, a3⟩ s' ih7 hF ⟨kz2, ok, hws⟩
  refine AQ hws ?_
  clear hws s'
  rw [Bo] at hF
  refine Sq ?_
  refine Az rfl hF (fun hb8 hF => ?_) fun hb8 hF => ?_
  ·refine Co ?_
   refine Bf hF (fun (a30 : (List Ab)) s' => (b0 = 0 → a30 = []) ∧ OK h (mo b0 Aa a30 :: O) ∧ WS s' ⟨Ak 53 [(0, As 3 b0 a30), (1, .int .i64 p1), (2, .int .i64 p2), (3, .fn (.func f3) fi3 ca3), (8, .int .i64 a3)], Hp h (mo b0 Aa a30 :: O)⟩) (fun J32 hF => ?_) ?_
   ·refine Fe ?_
    refine MW ?_
    refine Fe ?_
    refine Cp (σ := (List Ab) × Int) hF (fun (v : (List Ab) × Int) s' => match v with | (a33, a35) => (b0 = 0 → a33 = []) ∧ OK h (mo b0 Aa a33 :: O) ∧ WS s' ⟨Ak 53 [(0, As 3 b0 a33), (1, .int .i64 p1), (2, .int .i64 p2), (3, .fn (.func f3) fi3 ca3), (8, .int .i64 a3), (9, .int .i64 a35)], Hp h (mo b0 Aa a33 :: O)⟩) ?_ ?_
    ·exact ⟨kz2, oy ok, wy ok⟩
    ·rintro G36 hG37 rec38 ⟨a33, a35⟩ s' ih39 hF ⟨kz34, ok, hws⟩
     refine AQ hws ?_
     clear hws s'
     rw [AP] at hF
     refine DS ?_
     refine Bf hF (fun (a45 : Bool) s' => OK h (mo b0 Aa a33 :: O) ∧ WS s' ⟨Ak 53 [(0, As 3 b0 a33), (1, .int .i64 p1), (2, .int .i64 p2), (3, .fn (.func f3) fi3 ca3), (8, .int .i64 a3), (9, .int .i64 a35), (34, .bool a45)], Hp h (mo b0 Aa a33 :: O)⟩) (fun J46 hF => ?_) ?_
     ·refine EP (mdl []) (by kernel_rfl) (by kernel_rfl) ?_
      refine Eb ?_
      refine Eb ?_
      refine Qj ?_
      refine CZ ?_
      refine bm (b := (decide (p1 < a35))) hF (fun hb47 hF => ?_) (fun hb48 hF => ?_)
      ·refine Hs ?_
       refine NH ?_
       refine A2 ?_
       refine Ld ?_
       refine So ?_
       refine DJ kz34 rfl rfl BL AB hF (fun x49 hx49 hF => ?_)
       refine A2 ?_
       refine EY (q := 3) (j := 0) (f0 := 0) ok rfl kz34 rfl rfl (fun _ => rfl) hx49 rfl rfl (Bm (vs := Aa x49) CG AB rfl rfl) ?_
       refine A2 ?_
       refine Ld ?_
       refine So ?_
       refine Hc ?_
       refine A2 ?_
       refine DJ kz34 rfl rfl BL AB hF (fun x50 hx50 hF => ?_)
       refine A2 ?_
       refine EY (q := 3) (j := 0) (f0 := 0) ok rfl kz34 rfl rfl (fun _ => rfl) hx50 rfl rfl (Bm (vs := Aa x50) CG AB rfl rfl) ?_
       refine A2 ?_
       refine JU rfl (A4 (enc := fun r => .int .i64 r) (fun G h hF => hf3 x49 x50 G h hF) _ hF fun x51 _ hF => ?_) (.app (.app (.refl _) (.refl _)) (.refl _))
       refine A2 ?_
       refine V0 ?_
       exact ⟨(decide (x51 < (0 : Int))), hF, oy ok, wy ok⟩
      ·refine FA ?_
       refine FA ?_
       refine Wc ?_
       exact ⟨false, hF, oy ok, wy ok⟩
     ·rintro a45 s' hF ⟨ok, hws⟩
      refine AQ hws ?_
      clear hws s'
      refine Az rfl hF (fun hb52 hF => ?_) fun hb52 hF => ?_
      ·refine Ro ?_
       refine EP (mdl []) (by kernel_rfl) (by kernel_rfl) ?_
       refine Gb ?_
       refine Gb ?_
       refine Hc ?_
       refine Gb ?_
       refine Hc ?_
       refine DJ kz34 rfl rfl BL AB hF (fun x53 hx53 hF => ?_)
       refine EY (q := 3) (j := 0) (f0 := 0) ok rfl kz34 rfl rfl (fun _ => rfl) hx53 rfl rfl (Bm (vs := Aa x53) CG AB rfl rfl) ?_
       refine Gb ?_
       refine DJ kz34 rfl rfl BL AB hF (fun x54 hx54 hF => ?_)
       refine EY (q := 3) (j := 0) (f0 := 0) ok rfl kz34 rfl rfl (fun _ => rfl) hx54 rfl rfl (Bm (vs := Aa x54) CG AB rfl rfl) ?_
       refine DJ kz34 rfl rfl BL AB hF (fun x55 hx55 hF => ?_)
       refine J0 (q := 3) (j := 0) (f0 := 0) (b := x53) ok kz34 rfl rfl rfl (fun _ => rfl) hx55 rfl rfl AB rfl rfl (fun za56 ok => ?_)
       obtain ⟨a56, ha56, hF⟩ := DQ hF
       rw [← ha56] at ok za56
       rw [← ha56]
       have hms : As 3 b0 a33 = As 3 b0 a56 := CK (by rw [ha56, List.length_set])
       try rw [hms] at ok
       try rw [hms]
       clear hms
       refine DJ za56 rfl rfl BL AB hF (fun x57 hx57 hF => ?_)
       refine J0 (q := 3) (j := 0) (f0 := 0) (b := x54) ok za56 rfl rfl rfl (fun _ => rfl) hx57 rfl rfl AB rfl rfl (fun za58 ok => ?_)
       obtain ⟨a58, ha58, hF⟩ := DQ hF
       rw [← ha58] at ok za58
       rw [← ha58]
       have hms : As 3 b0 a56 = As 3 b0 a58 := CK (by rw [ha58, List.length_set])
       try rw [hms] at ok
       try rw [hms]
       clear hms
       refine AV ?_
       refine P8 ?_
       refine Ql ?_
       refine ih39 (a58, (IntKind.wrap .i64 (a35 - (1 : Int)))) _ hF ?_
       exact ⟨za58, oy ok, wy ok⟩
      ·refine DT ?_
       replace hF := hG37 _ (Aj hF)
       exact ⟨a33, hF, kz34, oy ok, wy ok⟩
   ·rintro a30 s' hF ⟨kz31, ok, hws⟩
    refine AQ hws ?_
    clear hws s'
    refine Ox ?_
    refine ih7 (a30, (IntKind.wrap .i64 (a3 + (1 : Int)))) _ hF ?_
    exact ⟨kz31, oy ok, wy ok⟩
  ·refine DT ?_
   replace hF := hG5 _ (Aj hF)
   refine xr ?_
   refine Is (fn := Tryz.f187) rfl .nil ?_
   exact ⟨_, _, (.refl _), hy ok, _, Aj hF, rfl, kz2, oy ok, rfl⟩
theorem CN (p0 : List Ab) (p1 : Int) (p2 : Int) (p3 : Int) (p4 : Ab → Ab → Option Int) (f4 : FuncId) (fi4 : List D) (ca4 : List D) (b0 : Nat) {G : (List Ab) → Prop} (h : Heap) (O : List (Nat × AObj)) (hf4 : ∀ (x0 : Ab) (x1 : Ab) (G : Int → Prop) (h : Heap), Ap (p4 x0 x1) G → CallsA Tryz.prog f4 (fi4 ++ [.agg (Aa x0), .agg (Aa x1)] ++ ca4) h fun d h' => ∃ r, G r ∧ d = .int .i64 r ∧ h' = h) (zb0 : b0 = 0 → p0 = []) (ok : OK h (mo b0 Aa p0 :: O)) (hF : Ap (A7 p0 p1 p2 p3 p4) G) : CallsA Tryz.prog 195 [As 3 b0 p0, .int .i64 p1, .int .i64 p2, .int .i64 p3, .fn (.func f4) fi4 ca4] (Hp h (mo b0 Aa p0 :: O)) fun d h' => ∃ r, G r ∧ d = .tup [] ∧ (b0 = 0 → r = []) ∧ OK h (mo b0 Aa r :: O) ∧ h' = Hp h (mo b0 Aa r :: O) := by
 refine CallsA.ret ?_
 refine CB Tryz.func195 rfl bN Tryz.ntmps195 rfl ?_
 rw [A7] at hF
 refine Gd ?_
 refine Fe ?_
 refine Cp (σ := (List Ab) × Int) hF (fun (v : (List Ab) × Int) s' => match v with | (a1, a3) => (b0 = 0 → a1 = []) ∧ OK h (mo b0 Aa a1 :: O) ∧ WS s' ⟨Ak 38 [(0, As 3 b0 a1), (1, .int .i64 p1), (2, .int .i64 p2), (3, .int .i64 p3), (10, .int .i64 a3)], Hp h (mo b0 Aa a1 :: O)⟩) ?_ ?_
 ·exact ⟨zb0, oy ok, wy ok⟩
 ·rintro G4 hG5 rec6 ⟨a1, a3⟩ s' ih7 hF ⟨kz2, ok, hws⟩
  refine AQ hws ?_
  clear hws s'
  rw [BE] at hF
  refine Sq ?_
  refine Az rfl hF (fun hb8 hF => ?_) fun hb8 hF => ?_
  ·refine Ro ?_
   refine EP (mdl []) (by kernel_rfl) (by kernel_rfl) ?_
   refine Gb ?_
   refine If ?_
   refine Gb ?_
   refine If ?_
   refine Gb ?_
   refine If ?_
   refine DJ kz2 rfl rfl BL AB hF (fun x9 hx9 hF => ?_)
   refine EY (q := 3) (j := 0) (f0 := 0) ok rfl kz2 rfl rfl (fun _ => rfl) hx9 rfl rfl (Bm (vs := Aa x9) CG AB rfl rfl) ?_
   refine Gb ?_
   refine If ?_
   refine DJ kz2 rfl rfl BL AB hF (fun x10 hx10 hF => ?_)
   refine EY (q := 3) (j := 0) (f0 := 0) ok rfl kz2 rfl rfl (fun _ => rfl) hx10 rfl rfl (Bm (vs := Aa x10) CG AB rfl rfl) ?_
   refine DJ kz2 rfl rfl BL AB hF (fun x11 hx11 hF => ?_)
   refine J0 (q := 3) (j := 0) (f0 := 0) (b := x9) ok kz2 rfl rfl rfl (fun _ => rfl) hx11 rfl rfl AB rfl rfl (fun za12 ok => ?_)
   obtain ⟨a12, ha12, hF⟩ := DQ hF
   rw [← ha12] at ok za12
   rw [← ha12]
   have hms : As 3 b0 a1 = As 3 b0 a12 := CK (by rw [ha12, List.length_set])
   try rw [hms] at ok
   try rw [hms]
   clear hms
   refine DJ za12 rfl rfl BL AB hF (fun x13 hx13 hF => ?_)
   refine J0 (q := 3) (j := 0) (f0 := 0) (b := x10) ok za12 rfl rfl rfl (fun _ => rfl) hx13 rfl rfl AB rfl rfl (fun za14 ok => ?_)
   obtain ⟨a14, ha14, hF⟩ := DQ hF
   rw [← ha14] at ok za14
   rw [← ha14]
   have hms : As 3 b0 a12 = As 3 b0 a14 := CK (by rw [ha14, List.length_set])
   try rw [hms] at ok
   try rw [hms]
   clear hms
   refine AV ?_
   refine Ox ?_
   refine ih7 (a14, (IntKind.wrap .i64 (a3 + (1 : Int)))) _ hF ?_
   exact ⟨za14, oy ok, wy ok⟩
  ·refine DT ?_
   replace hF := hG5 _ (Aj hF)
   refine xr ?_
   refine Is (fn := Tryz.f195) rfl .nil ?_
   exact ⟨_, _, (.refl _), hy ok, _, Aj hF, rfl, kz2, oy ok, rfl⟩
theorem FP (p0 : List Ab) (p1 : Int) (p2 : Int) (p3 : Int) (p4 : Ab → Ab → Option Int) (f4 : FuncId) (fi4 : List D) (ca4 : List D) (b0 : Nat) {G : (List Ab) → Prop} (h : Heap) (O : List (Nat × AObj)) (hf4 : ∀ (x0 : Ab) (x1 : Ab) (G : Int → Prop) (h : Heap), Ap (p4 x0 x1) G → CallsA Tryz.prog f4 (fi4 ++ [.agg (Aa x0), .agg (Aa x1)] ++ ca4) h fun d h' => ∃ r, G r ∧ d = .int .i64 r ∧ h' = h) (zb0 : b0 = 0 → p0 = []) (ok : OK h (mo b0 Aa p0 :: O)) (hF : Ap (BM p0 p1 p2 p3 p4) G) : CallsA Tryz.prog 193 [As 3 b0 p0, .int .i64 p1, .int .i64 p2, .int .i64 p3, .fn (.func f4) fi4 ca4] (Hp h (mo b0 Aa p0 :: O)) fun d h' => ∃ r, G r ∧ d = .tup [] ∧ (b0 = 0 → r = []) ∧ OK h (mo b0 Aa r :: O) ∧ h' = Hp h (mo b0 Aa r :: O) := by
 refine CallsA.ret ?_
 refine CB Tryz.func193 rfl aR Tryz.ntmps193 rfl ?_
 rw [BM] at hF
 refine Hz ?_
 refine Ql ?_
 refine Hz ?_
 refine Ql ?_
 refine Bf hF (fun (v : (List Ab) × Int) s' => match v with | (a15, a17) => (b0 = 0 → a15 = []) ∧ OK h (mo b0 Aa a15 :: O) ∧ WS s' ⟨Ak 58 [(0, As 3 b0 a15), (2, .int .i64 p2), (4, .fn (.func f4) fi4 ca4), (10, .int .i64 a17)], Hp h (mo b0 Aa a15 :: O)⟩) (fun J18 hF => ?_) ?_
 ·refine Fe ?_
  refine Cp (σ := (List Ab) × Int × Int) hF (fun (v : (List Ab) × Int × Int) s' => match v with | (a19, a21, a22) => (b0 = 0 → a19 = []) ∧ OK h (mo b0 Aa a19 :: O) ∧ WS s' ⟨Ak 58 [(0, As 3 b0 a19), (2, .int .i64 p2), (4, .fn (.func f4) fi4 ca4), (10, .int .i64 a21), (11, .int .i64 a22)], Hp h (mo b0 Aa a19 :: O)⟩) ?_ ?_
  ·exact ⟨zb0, oy ok, wy ok⟩
  ·rintro G23 hG24 rec25 ⟨a19, a21, a22⟩ s' ih26 hF ⟨kz20, ok, hws⟩
   refine AQ hws ?_
   clear hws s'
   rw [Bv] at hF
   refine Ol ?_
   refine Mq ?_
   refine Az rfl hF (fun hb27 hF => ?_) fun hb27 hF => ?_
   ·refine K8 ?_
    refine Hz ?_
    refine Sj ?_
    refine Az rfl hF (fun hb28 hF => ?_) fun hb28 hF => ?_
    ·refine Bz ?_
     refine Nb ?_
     refine Hc ?_
     refine Eb ?_
     refine Rn ?_
     refine cl (okT (fun _ hF => CN _ _ _ _ (p0 := a19) (f4 := f4) (fi4 := fi4) (ca4 := ca4) (b0 := b0) h (O) hf4 kz20 ok hF) hF fun x29 _ _ _ hq hF => ?_)
     obtain ⟨rfl, zr30, ok, rfl⟩ := hq
     obtain ⟨a31, ha31, hF⟩ := DQ hF
     obtain ⟨_, hl32, hF⟩ := BT hF
     rw [← ha31] at ok zr30
     rw [← ha31]
     have hms : As 3 b0 a19 = As 3 b0 a31 := CK (EN hl32)
     try rw [hms] at ok
     try rw [hms]
     clear hms
     refine AV ?_
     refine V2 ?_
     refine Ql ?_
     refine ih26 (a31, (IntKind.wrap .i64 (a21 - a22)), a22) _ hF ?_
     exact ⟨zr30, oy ok, wy ok⟩
    ·refine Bz ?_
     refine Nb ?_
     refine Hc ?_
     refine Eb ?_
     refine If ?_
     refine Eb ?_
     refine Hc ?_
     refine Rn ?_
     refine cl (okT (fun _ hF => CN _ _ _ _ (p0 := a19) (f4 := f4) (fi4 := fi4) (ca4 := ca4) (b0 := b0) h (O) hf4 kz20 ok hF) hF fun x33 _ _ _ hq hF => ?_)
     obtain ⟨rfl, zr34, ok, rfl⟩ := hq
     obtain ⟨a35, ha35, hF⟩ := DQ hF
     obtain ⟨_, hl36, hF⟩ := BT hF
     rw [← ha35] at ok zr34
     rw [← ha35]
     have hms : As 3 b0 a19 = As 3 b0 a35 := CK (EN hl36)
     try rw [hms] at ok
     try rw [hms]
     clear hms
     refine AV ?_
     refine V2 ?_
     refine Ql ?_
     refine ih26 (a35, a21, (IntKind.wrap .i64 (a22 - a21))) _ hF ?_
     exact ⟨zr34, oy ok, wy ok⟩
   ·refine DT ?_
    replace hF := hG24 _ (Aj hF)
    exact ⟨(a19, a21), hF, kz20, oy ok, wy ok⟩
 ·rintro ⟨a15, a17⟩ s' hF ⟨kz16, ok, hws⟩
  refine AQ hws ?_
  clear hws s'
  refine IK ?_
  refine Nb ?_
  refine Hc ?_
  refine Eb ?_
  refine Rn ?_
  refine cl (okT (fun _ hF => CN _ _ _ _ (p0 := a15) (f4 := f4) (fi4 := fi4) (ca4 := ca4) (b0 := b0) h (O) hf4 kz16 ok hF) hF fun x37 _ _ _ hq hF => ?_)
  obtain ⟨rfl, zr38, ok, rfl⟩ := hq
  obtain ⟨a39, ha39, hF⟩ := DQ hF
  obtain ⟨_, hl40, hF⟩ := BT hF
  rw [← ha39] at ok zr38
  rw [← ha39]
  have hms : As 3 b0 a15 = As 3 b0 a39 := CK (EN hl40)
  try rw [hms] at ok
  try rw [hms]
  clear hms
  refine AV ?_
  refine xr ?_
  refine Is (fn := Tryz.f193) rfl .nil ?_
  exact ⟨_, _, (.refl _), hy ok, _, Aj hF, rfl, zr38, oy ok, rfl⟩
theorem Fq : ∀ (N : Nat) {p0 : List Ab} {p1 : Int} {p2 : Int} {p3 : Int} {p4 : Ab → Ab → Option Int} {f4 : FuncId} {fi4 : List D} {ca4 : List D} {b0 : Nat} {G : (List Ab) → Prop} (h : Heap) (O : List (Nat × AObj)) (hf4 : ∀ (x0 : Ab) (x1 : Ab) (G : Int → Prop) (h : Heap), Ap (p4 x0 x1) G → CallsA Tryz.prog f4 (fi4 ++ [.agg (Aa x0), .agg (Aa x1)] ++ ca4) h fun d h' => ∃ r, G r ∧ d = .int .i64 r ∧ h' = h) (zb0 : b0 = 0 → p0 = []) (ok : OK h (mo b0 Aa p0 :: O)) (hF : Ap (iter AG N (p0, p1, p2, p3, p4)) G), CallsA Tryz.prog 188 [As 3 b0 p0, .int .i64 p1, .int .i64 p2, .int .i64 p3, .fn (.func f4) fi4 ca4] (Hp h (mo b0 Aa p0 :: O)) fun d h' => ∃ r, G r ∧ d = .tup [] ∧ (b0 = 0 → r = []) ∧ OK h (mo b0 Aa r :: O) ∧ h' = Hp h (mo b0 Aa r :: O) := by
 intro N
 induction N with
 | zero => intro p0 p1 p2 p3 p4 f4 fi4 ca4 b0 G h O hf4 zb0 ok hF; exact MR hF
 | succ N ih0 =>
 have self_ok : ∀ {β : Type} {f0 : (List Ab) → Option β} {G : β → Prop} {R : D → Heap → Prop} {p0 : List Ab} {p1 : Int} {p2 : Int} {p3 : Int} {p4 : Ab → Ab → Option Int} {f4 : FuncId} {fi4 : List D} {ca4 : List D} {b0 : Nat} (h : Heap) (O : List (Nat × AObj)) (hf4 : ∀ (x0 : Ab) (x1 : Ab) (G : Int → Prop) (h : Heap), Ap (p4 x0 x1) G → CallsA Tryz.prog f4 (fi4 ++ [.agg (Aa x0), .agg (Aa x1)] ++ ca4) h fun d h' => ∃ r, G r ∧ d = .int .i64 r ∧ h' = h) (zb0 : b0 = 0 → p0 = []) (ok : OK h (mo b0 Aa p0 :: O)) (hF : Ap ((iter AG N (p0, p1, p2, p3, p4)).bind f0) G) (hk : ∀ r, iter AG N (p0, p1, p2, p3, p4) = some r → (b0 = 0 → r = []) → OK h (mo b0 Aa r :: O) → Ap (f0 r) G → R (.tup []) (Hp h (mo b0 Aa r :: O))), CallsA Tryz.prog 188 [As 3 b0 p0, .int .i64 p1, .int .i64 p2, .int .i64 p3, .fn (.func f4) fi4 ca4] (Hp h (mo b0 Aa p0 :: O)) R := by
  intro β f0 G R p0 p1 p2 p3 p4 f4 fi4 ca4 b0 h O hf4 zb0 ok hF hk
  obtain ⟨r0, hr, hF⟩ := BT hF
  refine (ih0 (G := fun r => r = r0) h O hf4 zb0 ok ⟨r0, hr, rfl⟩).mono ?_
  rintro _ _ ⟨r, rfl, rfl, y0, ok', rfl⟩
  exact hk _ hr y0 ok' hF
 clear ih0
 intro p0 p1 p2 p3 p4 f4 fi4 ca4 b0 G h O hf4 zb0 ok hF
 replace hF : Ap (AG (iter AG N) (p0, p1, p2, p3, p4)) G := hF
 refine CallsA.ret ?_
 refine CB Tryz.func188 rfl aJ Tryz.ntmps188 rfl ?_
 rw [AG] at hF
 refine Bf hF (fun (_ : Unit) s' => OK h (mo b0 Aa p0 :: O) ∧ WS s' ⟨Ak 220 [(0, As 3 b0 p0), (1, .int .i64 p1), (2, .int .i64 p2), (3, .int .i64 p3), (4, .fn (.func f4) fi4 ca4)], Hp h (mo b0 Aa p0 :: O)⟩) (fun J39 hF => ?_) ?_
 ·refine Hz ?_
  refine Hc ?_
  refine Mn ?_
  refine Az rfl hF (fun hb40 hF => ?_) fun hb40 hF => ?_
  ·refine MW ?_
   refine MW ?_
   refine Bf hF (fun (a48 : Int) s' => OK h (mo b0 Aa p0 :: O) ∧ WS s' ⟨Ak 220 [(0, As 3 b0 p0), (1, .int .i64 p1), (10, .int .i64 a48)], Hp h (mo b0 Aa p0 :: O)⟩) (fun J49 hF => ?_) ?_
   ·refine Fe ?_
    refine Cp (σ := Int × Int) hF (fun (v : Int × Int) s' => match v with | (a50, a51) => OK h (mo b0 Aa p0 :: O) ∧ WS s' ⟨Ak 220 [(0, As 3 b0 p0), (1, .int .i64 p1), (4, .fn (.func f4) fi4 ca4), (10, .int .i64 a50), (11, .int .i64 a51)], Hp h (mo b0 Aa p0 :: O)⟩) ?_ ?_
    ·exact ⟨oy ok, wy ok⟩
    ·rintro G52 hG53 rec54 ⟨a50, a51⟩ s' ih55 hF ⟨ok, hws⟩
     refine AQ hws ?_
     clear hws s'
     rw [Bk] at hF
     refine Sq ?_
     refine Az rfl hF (fun hb56 hF => ?_) fun hb56 hF => ?_
     ·refine K8 ?_
      refine Eh ?_
      refine If ?_
      refine Yv ?_
      refine Ef rfl rfl (Tu rfl) ?_
      refine ZE ?_
      refine Mw ?_
      refine EP (mdl []) (by kernel_rfl) (by kernel_rfl) ?_
      refine NH ?_
      refine Gb ?_
      refine DJ zb0 rfl rfl BL AB hF (fun x57 hx57 hF => ?_)
      refine EY (q := 3) (j := 0) (f0 := 0) ok rfl zb0 rfl rfl (fun _ => rfl) hx57 rfl rfl (Bm (vs := Aa x57) CG AB rfl rfl) ?_
      refine Gb ?_
      refine DJ zb0 rfl rfl BL AB hF (fun x58 hx58 hF => ?_)
      refine EY (q := 3) (j := 0) (f0 := 0) ok rfl zb0 rfl rfl (fun _ => rfl) hx58 rfl rfl (Bm (vs := Aa x58) CG AB rfl rfl) ?_
      refine JU rfl (A4 (enc := fun r => .int .i64 r) (fun G h hF => hf4 x57 x58 G h hF) _ hF fun x59 _ hF => ?_) (.app (.app (.refl _) (.refl _)) (.refl _))
      refine Kx ?_
      refine Az rfl hF (fun hb60 hF => ?_) fun hb60 hF => ?_
      ·refine Ox ?_
       refine ih55 ((IntKind.wrap .i64 ((IntKind.wrap .i64 (DF .u64 (IntKind.wrap .u64 (IntKind.wrap .i64 (a50 + a51))) (1 : Int))) + (1 : Int))), a51) _ hF ?_
       exact ⟨oy ok, wy ok⟩
      ·refine SZ ?_
       refine ih55 (a50, (IntKind.wrap .i64 (DF .u64 (IntKind.wrap .u64 (IntKind.wrap .i64 (a50 + a51))) (1 : Int)))) _ hF ?_
       exact ⟨oy ok, wy ok⟩
     ·refine DT ?_
      replace hF := hG53 _ (Aj hF)
      exact ⟨a50, hF, oy ok, wy ok⟩
   ·rintro a48 s' hF ⟨ok, hws⟩
    refine AQ hws ?_
    clear hws s'
    refine Bf hF (fun (a71 : (List Ab)) s' => (b0 = 0 → a71 = []) ∧ OK h (mo b0 Aa a71 :: O) ∧ WS s' ⟨Ak 220 [], Hp h (mo b0 Aa a71 :: O)⟩) (fun J73 hF => ?_) ?_
    ·refine MW ?_
     refine Fe ?_
     refine Cp (σ := (List Ab) × Int) hF (fun (v : (List Ab) × Int) s' => match v with | (a74, a76) => (b0 = 0 → a74 = []) ∧ OK h (mo b0 Aa a74 :: O) ∧ WS s' ⟨Ak 220 [(0, As 3 b0 a74), (10, .int .i64 a48), (13, .int .i64 a76)], Hp h (mo b0 Aa a74 :: O)⟩) ?_ ?_
     ·exact ⟨zb0, oy ok, wy ok⟩
     ·rintro G77 hG78 rec79 ⟨a74, a76⟩ s' ih80 hF ⟨kz75, ok, hws⟩
      refine AQ hws ?_
      clear hws s'
      rw [Bi] at hF
      refine Ol ?_
      refine Hc ?_
      refine Kx ?_
      refine Az rfl hF (fun hb81 hF => ?_) fun hb81 hF => ?_
      ·refine Ro ?_
       refine EP (mdl []) (by kernel_rfl) (by kernel_rfl) ?_
       refine Gb ?_
       refine Gb ?_
       refine HW ?_
       refine Gb ?_
       refine HW ?_
       refine DJ kz75 rfl rfl BL AB hF (fun x82 hx82 hF => ?_)
       refine EY (q := 3) (j := 0) (f0 := 0) ok rfl kz75 rfl rfl (fun _ => rfl) hx82 rfl rfl (Bm (vs := Aa x82) CG AB rfl rfl) ?_
       refine Gb ?_
       refine DJ kz75 rfl rfl BL AB hF (fun x83 hx83 hF => ?_)
       refine EY (q := 3) (j := 0) (f0 := 0) ok rfl kz75 rfl rfl (fun _ => rfl) hx83 rfl rfl (Bm (vs := Aa x83) CG AB rfl rfl) ?_
       refine DJ kz75 rfl rfl BL AB hF (fun x84 hx84 hF => ?_)
       refine J0 (q := 3) (j := 0) (f0 := 0) (b := x82) ok kz75 rfl rfl rfl (fun _ => rfl) hx84 rfl rfl AB rfl rfl (fun za85 ok => ?_)
       obtain ⟨a85, ha85, hF⟩ := DQ hF
       rw [← ha85] at ok za85
       rw [← ha85]
       have hms : As 3 b0 a74 = As 3 b0 a85 := CK (by rw [ha85, List.length_set])
       try rw [hms] at ok
       try rw [hms]
       clear hms
       refine DJ za85 rfl rfl BL AB hF (fun x86 hx86 hF => ?_)
       refine J0 (q := 3) (j := 0) (f0 := 0) (b := x83) ok za85 rfl rfl rfl (fun _ => rfl) hx86 rfl rfl AB rfl rfl (fun za87 ok => ?_)
       obtain ⟨a87, ha87, hF⟩ := DQ hF
       rw [← ha87] at ok za87
       rw [← ha87]
       have hms : As 3 b0 a85 = As 3 b0 a87 := CK (by rw [ha87, List.length_set])
       try rw [hms] at ok
       try rw [hms]
       clear hms
       refine AV ?_
       refine Ox ?_
       refine ih80 (a87, (IntKind.wrap .i64 (a76 + (1 : Int)))) _ hF ?_
       exact ⟨za87, oy ok, wy ok⟩
      ·refine DT ?_
       replace hF := hG78 _ (Aj hF)
       exact ⟨a74, hF, kz75, oy ok, wy ok⟩
    ·rintro a71 s' hF ⟨kz72, ok, hws⟩
     refine AQ hws ?_
     clear hws s'
     refine MP ?_
     refine rr ?_
     exact ⟨_, _, (.refl _), hy ok, _, Aj hF, rfl, kz72, oy ok, rfl⟩
  ·refine Co ?_
   exact ⟨(), hF, oy ok, wy ok⟩
 ·rintro ⟨⟩ s' hF ⟨ok, hws⟩
  refine AQ hws ?_
  clear hws s'
  refine Bf hF (fun (_ : Unit) s' => OK h (mo b0 Aa p0 :: O) ∧ WS s' ⟨Ak 220 [(0, As 3 b0 p0), (1, .int .i64 p1), (2, .int .i64 p2), (3, .int .i64 p3), (4, .fn (.func f4) fi4 ca4)], Hp h (mo b0 Aa p0 :: O)⟩) (fun J126 hF => ?_) ?_
  ·refine Hz ?_
   refine Hc ?_
   refine Mn ?_
   refine Az rfl hF (fun hb127 hF => ?_) fun hb127 hF => ?_
   ·refine MW ?_
    refine MW ?_
    refine Bf hF (fun (a135 : Int) s' => OK h (mo b0 Aa p0 :: O) ∧ WS s' ⟨Ak 220 [(0, As 3 b0 p0), (2, .int .i64 p2), (14, .int .i64 a135)], Hp h (mo b0 Aa p0 :: O)⟩) (fun J136 hF => ?_) ?_
    ·refine Fe ?_
     refine Cp (σ := Int × Int) hF (fun (v : Int × Int) s' => match v with | (a137, a138) => OK h (mo b0 Aa p0 :: O) ∧ WS s' ⟨Ak 220 [(0, As 3 b0 p0), (2, .int .i64 p2), (4, .fn (.func f4) fi4 ca4), (14, .int .i64 a137), (15, .int .i64 a138)], Hp h (mo b0 Aa p0 :: O)⟩) ?_ ?_
     ·exact ⟨oy ok, wy ok⟩
     ·rintro G139 hG140 rec141 ⟨a137, a138⟩ s' ih142 hF ⟨ok, hws⟩
      refine AQ hws ?_
      clear hws s'
      rw [Bj] at hF
      refine Sq ?_
      refine Az rfl hF (fun hb143 hF => ?_) fun hb143 hF => ?_
      ·refine K8 ?_
       refine Eh ?_
       refine If ?_
       refine Yv ?_
       refine Ef rfl rfl (Tu rfl) ?_
       refine ZE ?_
       refine Mw ?_
       refine EP (mdl []) (by kernel_rfl) (by kernel_rfl) ?_
       refine NH ?_
       refine Gb ?_
       refine DJ zb0 rfl rfl BL AB hF (fun x144 hx144 hF => ?_)
       refine EY (q := 3) (j := 0) (f0 := 0) ok rfl zb0 rfl rfl (fun _ => rfl) hx144 rfl rfl (Bm (vs := Aa x144) CG AB rfl rfl) ?_
       refine Gb ?_
       refine DJ zb0 rfl rfl BL AB hF (fun x145 hx145 hF => ?_)
       refine EY (q := 3) (j := 0) (f0 := 0) ok rfl zb0 rfl rfl (fun _ => rfl) hx145 rfl rfl (Bm (vs := Aa x145) CG AB rfl rfl) ?_
       refine JU rfl (A4 (enc := fun r => .int .i64 r) (fun G h hF => hf4 x144 x145 G h hF) _ hF fun x146 _ hF => ?_) (.app (.app (.refl _) (.refl _)) (.refl _))
       refine UN ?_
       refine Mt ?_
       refine Az rfl hF (fun hb147 hF => ?_) fun hb147 hF => ?_
       ·refine Ox ?_
        refine ih142 ((IntKind.wrap .i64 ((IntKind.wrap .i64 (DF .u64 (IntKind.wrap .u64 (IntKind.wrap .i64 (a137 + a138))) (1 : Int))) + (1 : Int))), a138) _ hF ?_
        exact ⟨oy ok, wy ok⟩
       ·refine SZ ?_
        refine ih142 (a137, (IntKind.wrap .i64 (DF .u64 (IntKind.wrap .u64 (IntKind.wrap .i64 (a137 + a138))) (1 : Int)))) _ hF ?_
        exact ⟨oy ok, wy ok⟩
      ·refine DT ?_
       replace hF := hG140 _ (Aj hF)
       exact ⟨a137, hF, oy ok, wy ok⟩
    ·rintro a135 s' hF ⟨ok, hws⟩
     refine AQ hws ?_
     clear hws s'
     refine Bf hF (fun (a158 : (List Ab)) s' => (b0 = 0 → a158 = []) ∧ OK h (mo b0 Aa a158 :: O) ∧ WS s' ⟨Ak 220 [], Hp h (mo b0 Aa a158 :: O)⟩) (fun J160 hF => ?_) ?_
     ·refine MW ?_
      refine Fe ?_
      refine Cp (σ := (List Ab) × Int) hF (fun (v : (List Ab) × Int) s' => match v with | (a161, a163) => (b0 = 0 → a161 = []) ∧ OK h (mo b0 Aa a161 :: O) ∧ WS s' ⟨Ak 220 [(0, As 3 b0 a161), (14, .int .i64 a135), (17, .int .i64 a163)], Hp h (mo b0 Aa a161 :: O)⟩) ?_ ?_
      ·exact ⟨zb0, oy ok, wy ok⟩
      ·rintro G164 hG165 rec166 ⟨a161, a163⟩ s' ih167 hF ⟨kz162, ok, hws⟩
       refine AQ hws ?_
       clear hws s'
       rw [Bg] at hF
       refine Ol ?_
       refine Sj ?_
       refine Az rfl hF (fun hb168 hF => ?_) fun hb168 hF => ?_
       ·refine Ro ?_
        refine EP (mdl []) (by kernel_rfl) (by kernel_rfl) ?_
        refine Gb ?_
        refine Gb ?_
        refine Hc ?_
        refine Gb ?_
        refine Hc ?_
        refine DJ kz162 rfl rfl BL AB hF (fun x169 hx169 hF => ?_)
        refine EY (q := 3) (j := 0) (f0 := 0) ok rfl kz162 rfl rfl (fun _ => rfl) hx169 rfl rfl (Bm (vs := Aa x169) CG AB rfl rfl) ?_
        refine Gb ?_
        refine DJ kz162 rfl rfl BL AB hF (fun x170 hx170 hF => ?_)
        refine EY (q := 3) (j := 0) (f0 := 0) ok rfl kz162 rfl rfl (fun _ => rfl) hx170 rfl rfl (Bm (vs := Aa x170) CG AB rfl rfl) ?_
        refine DJ kz162 rfl rfl BL AB hF (fun x171 hx171 hF => ?_)
        refine J0 (q := 3) (j := 0) (f0 := 0) (b := x169) ok kz162 rfl rfl rfl (fun _ => rfl) hx171 rfl rfl AB rfl rfl (fun za172 ok => ?_)
        obtain ⟨a172, ha172, hF⟩ := DQ hF
        rw [← ha172] at ok za172
        rw [← ha172]
        have hms : As 3 b0 a161 = As 3 b0 a172 := CK (by rw [ha172, List.length_set])
        try rw [hms] at ok
        try rw [hms]
        clear hms
        refine DJ za172 rfl rfl BL AB hF (fun x173 hx173 hF => ?_)
        refine J0 (q := 3) (j := 0) (f0 := 0) (b := x170) ok za172 rfl rfl rfl (fun _ => rfl) hx173 rfl rfl AB rfl rfl (fun za174 ok => ?_)
        obtain ⟨a174, ha174, hF⟩ := DQ hF
        rw [← ha174] at ok za174
        rw [← ha174]
        have hms : As 3 b0 a172 = As 3 b0 a174 := CK (by rw [ha174, List.length_set])
        try rw [hms] at ok
        try rw [hms]
        clear hms
        refine AV ?_
        refine P8 ?_
        refine Ql ?_
        refine ih167 (a174, (IntKind.wrap .i64 (a163 - (1 : Int)))) _ hF ?_
        exact ⟨za174, oy ok, wy ok⟩
       ·refine DT ?_
        replace hF := hG165 _ (Aj hF)
        exact ⟨a161, hF, kz162, oy ok, wy ok⟩
     ·rintro a158 s' hF ⟨kz159, ok, hws⟩
      refine AQ hws ?_
      clear hws s'
      refine MP ?_
      refine rr ?_
      exact ⟨_, _, (.refl _), hy ok, _, Aj hF, rfl, kz159, oy ok, rfl⟩
   ·refine Co ?_
    exact ⟨(), hF, oy ok, wy ok⟩
  ·rintro ⟨⟩ s' hF ⟨ok, hws⟩
   refine AQ hws ?_
   clear hws s'
   refine Eh ?_
   refine If ?_
   refine Yv ?_
   refine Ef rfl rfl (Tu rfl) ?_
   refine ZE ?_
   refine Yb ?_
   refine Wh ?_
   refine Bz ?_
   refine HX ?_
   refine Bf hF (fun (v : Int × Int) s' => match v with | (a176, a177) => OK h (mo b0 Aa p0 :: O) ∧ WS s' ⟨Ak 220 [(0, As 3 b0 p0), (1, .int .i64 p1), (2, .int .i64 p2), (3, .int .i64 p3), (4, .fn (.func f4) fi4 ca4), (18, .int .i64 (IntKind.wrap .i64 (DF .u64 (IntKind.wrap .u64 (IntKind.wrap .i64 (p1 + p3))) (1 : Int)))), (19, .int .i64 (IntKind.wrap .i64 ((IntKind.wrap .i64 (DF .u64 (IntKind.wrap .u64 (IntKind.wrap .i64 (p1 + p3))) (1 : Int))) + p2))), (20, .int .i64 a176), (21, .int .i64 a177)], Hp h (mo b0 Aa p0 :: O)⟩) (fun J178 hF => ?_) ?_
   ·refine Hz ?_
    refine Sj ?_
    refine Az rfl hF (fun hb179 hF => ?_) fun hb179 hF => ?_
    ·refine Hz ?_
     refine Ql ?_
     refine SZ ?_
     exact ⟨((IntKind.wrap .i64 ((IntKind.wrap .i64 ((IntKind.wrap .i64 (DF .u64 (IntKind.wrap .u64 (IntKind.wrap .i64 (p1 + p3))) (1 : Int))) + p2)) - p3)), (IntKind.wrap .i64 (DF .u64 (IntKind.wrap .u64 (IntKind.wrap .i64 (p1 + p3))) (1 : Int)))), hF, oy ok, wy ok⟩
    ·refine MW ?_
     refine SZ ?_
     exact ⟨(p1, p2), hF, oy ok, wy ok⟩
   ·rintro ⟨a176, a177⟩ s' hF ⟨ok, hws⟩
    refine AQ hws ?_
    clear hws s'
    refine Eh ?_
    refine Ql ?_
    refine Bf hF (fun (a187 : Int) s' => OK h (mo b0 Aa p0 :: O) ∧ WS s' ⟨Ak 220 [(0, As 3 b0 p0), (1, .int .i64 p1), (2, .int .i64 p2), (3, .int .i64 p3), (4, .fn (.func f4) fi4 ca4), (18, .int .i64 (IntKind.wrap .i64 (DF .u64 (IntKind.wrap .u64 (IntKind.wrap .i64 (p1 + p3))) (1 : Int)))), (19, .int .i64 (IntKind.wrap .i64 ((IntKind.wrap .i64 (DF .u64 (IntKind.wrap .u64 (IntKind.wrap .i64 (p1 + p3))) (1 : Int))) + p2))), (20, .int .i64 a187)], Hp h (mo b0 Aa p0 :: O)⟩) (fun J188 hF => ?_) ?_
    ·refine Fe ?_
     refine Cp (σ := Int × Int) hF (fun (v : Int × Int) s' => match v with | (a189, a190) => OK h (mo b0 Aa p0 :: O) ∧ WS s' ⟨Ak 220 [(0, As 3 b0 p0), (1, .int .i64 p1), (2, .int .i64 p2), (3, .int .i64 p3), (4, .fn (.func f4) fi4 ca4), (18, .int .i64 (IntKind.wrap .i64 (DF .u64 (IntKind.wrap .u64 (IntKind.wrap .i64 (p1 + p3))) (1 : Int)))), (19, .int .i64 (IntKind.wrap .i64 ((IntKind.wrap .i64 (DF .u64 (IntKind.wrap .u64 (IntKind.wrap .i64 (p1 + p3))) (1 : Int))) + p2))), (20, .int .i64 a189), (21, .int .i64 a190), (22, .int .i64 (IntKind.wrap .i64 ((IntKind.wrap .i64 ((IntKind.wrap .i64 (DF .u64 (IntKind.wrap .u64 (IntKind.wrap .i64 (p1 + p3))) (1 : Int))) + p2)) - (1 : Int))))], Hp h (mo b0 Aa p0 :: O)⟩) ?_ ?_
     ·exact ⟨oy ok, wy ok⟩
     ·rintro G191 hG192 rec193 ⟨a189, a190⟩ s' ih194 hF ⟨ok, hws⟩
      refine AQ hws ?_
      clear hws s'
      rw [Bh] at hF
      refine Sq ?_
      refine Az rfl hF (fun hb195 hF => ?_) fun hb195 hF => ?_
      ·refine K8 ?_
       refine Eh ?_
       refine If ?_
       refine Yv ?_
       refine Ef rfl rfl (Tu rfl) ?_
       refine ZE ?_
       refine Mw ?_
       refine EP (mdl []) (by kernel_rfl) (by kernel_rfl) ?_
       refine NH ?_
       refine Nb ?_
       refine Hc ?_
       refine DJ zb0 rfl rfl BL AB hF (fun x196 hx196 hF => ?_)
       refine EY (q := 3) (j := 0) (f0 := 0) ok rfl zb0 rfl rfl (fun _ => rfl) hx196 rfl rfl (Bm (vs := Aa x196) CG AB rfl rfl) ?_
       refine Gb ?_
       refine DJ zb0 rfl rfl BL AB hF (fun x197 hx197 hF => ?_)
       refine EY (q := 3) (j := 0) (f0 := 0) ok rfl zb0 rfl rfl (fun _ => rfl) hx197 rfl rfl (Bm (vs := Aa x197) CG AB rfl rfl) ?_
       refine JU rfl (A4 (enc := fun r => .int .i64 r) (fun G h hF => hf4 x196 x197 G h hF) _ hF fun x198 _ hF => ?_) (.app (.app (.refl _) (.refl _)) (.refl _))
       refine UN ?_
       refine Mt ?_
       refine Az rfl hF (fun hb199 hF => ?_) fun hb199 hF => ?_
       ·refine Ox ?_
        refine ih194 ((IntKind.wrap .i64 ((IntKind.wrap .i64 (DF .u64 (IntKind.wrap .u64 (IntKind.wrap .i64 (a189 + a190))) (1 : Int))) + (1 : Int))), a190) _ hF ?_
        exact ⟨oy ok, wy ok⟩
       ·refine SZ ?_
        refine ih194 (a189, (IntKind.wrap .i64 (DF .u64 (IntKind.wrap .u64 (IntKind.wrap .i64 (a189 + a190))) (1 : Int)))) _ hF ?_
        exact ⟨oy ok, wy ok⟩
      ·refine DT ?_
       replace hF := hG192 _ (Aj hF)
       exact ⟨a189, hF, oy ok, wy ok⟩
    ·rintro a187 s' hF ⟨ok, hws⟩
     refine AQ hws ?_
     clear hws s'
     refine Hz ?_
     refine Ql ?_
     refine Bf hF (fun (a206 : (List Ab)) s' => (b0 = 0 → a206 = []) ∧ OK h (mo b0 Aa a206 :: O) ∧ WS s' ⟨Ak 220 [(0, As 3 b0 a206), (1, .int .i64 p1), (3, .int .i64 p3), (4, .fn (.func f4) fi4 ca4), (18, .int .i64 (IntKind.wrap .i64 (DF .u64 (IntKind.wrap .u64 (IntKind.wrap .i64 (p1 + p3))) (1 : Int)))), (20, .int .i64 a187), (24, .int .i64 (IntKind.wrap .i64 ((IntKind.wrap .i64 ((IntKind.wrap .i64 (DF .u64 (IntKind.wrap .u64 (IntKind.wrap .i64 (p1 + p3))) (1 : Int))) + p2)) - a187)))], Hp h (mo b0 Aa a206 :: O)⟩) (fun J208 hF => ?_) ?_
     ·refine Hz ?_
      refine Si ?_
      refine Cu (b := (decide (a187 < p2))) 4 185 (.bool ((decide (a187 < p2)) && (decide (p2 < (IntKind.wrap .i64 ((IntKind.wrap .i64 ((IntKind.wrap .i64 (DF .u64 (IntKind.wrap .u64 (IntKind.wrap .i64 (p1 + p3))) (1 : Int))) + p2)) - a187)))))) (fun hb209 => ?_) (fun hb209 => ?_) ?_
      ·refine Vk ?_
       refine V0 ?_
       exact th
      ·refine LE ?_
       exact th
      refine AV ?_
      refine Az rfl hF (fun hb210 hF => ?_) fun hb210 hF => ?_
      ·refine IK ?_
       refine Nb ?_
       refine Rn ?_
       refine cl (okT (fun _ hF => FP _ _ _ _ (p0 := p0) (f4 := f4) (fi4 := fi4) (ca4 := ca4) (b0 := b0) h (O) hf4 zb0 ok hF) hF fun x211 _ _ _ hq hF => ?_)
       obtain ⟨rfl, zr212, ok, rfl⟩ := hq
       obtain ⟨a213, ha213, hF⟩ := DQ hF
       obtain ⟨_, hl214, hF⟩ := BT hF
       rw [← ha213] at ok zr212
       rw [← ha213]
       have hms : As 3 b0 p0 = As 3 b0 a213 := CK (EN hl214)
       try rw [hms] at ok
       try rw [hms]
       clear hms
       refine AV ?_
       exact ⟨a213, hF, zr212, oy ok, wy ok⟩
      ·refine Co ?_
       exact ⟨p0, hF, zb0, oy ok, wy ok⟩
     ·rintro a206 s' hF ⟨kz207, ok, hws⟩
      refine AQ hws ?_
      clear hws s'
      refine Bf hF (fun (a221 : (List Ab)) s' => (b0 = 0 → a221 = []) ∧ OK h (mo b0 Aa a221 :: O) ∧ WS s' ⟨Ak 220 [(0, As 3 b0 a221), (3, .int .i64 p3), (4, .fn (.func f4) fi4 ca4), (18, .int .i64 (IntKind.wrap .i64 (DF .u64 (IntKind.wrap .u64 (IntKind.wrap .i64 (p1 + p3))) (1 : Int)))), (24, .int .i64 (IntKind.wrap .i64 ((IntKind.wrap .i64 ((IntKind.wrap .i64 (DF .u64 (IntKind.wrap .u64 (IntKind.wrap .i64 (p1 + p3))) (1 : Int))) + p2)) - a187)))], Hp h (mo b0 Aa a221 :: O)⟩) (fun J223 hF => ?_) ?_
      ·refine Hz ?_
       refine Si ?_
       refine Cu (b := (decide (p1 < a187))) 4 199 (.bool ((decide (p1 < a187)) && (decide (a187 < (IntKind.wrap .i64 (DF .u64 (IntKind.wrap .u64 (IntKind.wrap .i64 (p1 + p3))) (1 : Int))))))) (fun hb224 => ?_) (fun hb224 => ?_) ?_
       ·refine Vk ?_
        refine V0 ?_
        exact th
       ·refine LE ?_
        exact th
       refine AV ?_
       refine Az rfl hF (fun hb225 hF => ?_) fun hb225 hF => ?_
       ·refine IK ?_
        refine Nb ?_
        refine Rn ?_
        refine cl (self_ok (p0 := a206) (f4 := f4) (fi4 := fi4) (ca4 := ca4) (b0 := b0) h (O) hf4 kz207 ok hF fun x226 _ zr227 ok hF => ?_)
        obtain ⟨a228, ha228, hF⟩ := DQ hF
        obtain ⟨_, hl229, hF⟩ := BT hF
        rw [← ha228] at ok zr227
        rw [← ha228]
        have hms : As 3 b0 a206 = As 3 b0 a228 := CK (EN hl229)
        try rw [hms] at ok
        try rw [hms]
        clear hms
        refine AV ?_
        exact ⟨a228, hF, zr227, oy ok, wy ok⟩
       ·refine Co ?_
        exact ⟨a206, hF, kz207, oy ok, wy ok⟩
      ·rintro a221 s' hF ⟨kz222, ok, hws⟩
       refine AQ hws ?_
       clear hws s'
       refine Hz ?_
       refine Si ?_
       refine Cu (b := (decide ((IntKind.wrap .i64 (DF .u64 (IntKind.wrap .u64 (IntKind.wrap .i64 (p1 + p3))) (1 : Int))) < (IntKind.wrap .i64 ((IntKind.wrap .i64 ((IntKind.wrap .i64 (DF .u64 (IntKind.wrap .u64 (IntKind.wrap .i64 (p1 + p3))) (1 : Int))) + p2)) - a187))))) 4 213 (.bool ((decide ((IntKind.wrap .i64 (DF .u64 (IntKind.wrap .u64 (IntKind.wrap .i64 (p1 + p3))) (1 : Int))) < (IntKind.wrap .i64 ((IntKind.wrap .i64 ((IntKind.wrap .i64 (DF .u64 (IntKind.wrap .u64 (IntKind.wrap .i64 (p1 + p3))) (1 : Int))) + p2)) - a187)))) && (decide ((IntKind.wrap .i64 ((IntKind.wrap .i64 ((IntKind.wrap .i64 (DF .u64 (IntKind.wrap .u64 (IntKind.wrap .i64 (p1 + p3))) (1 : Int))) + p2)) - a187)) < p3)))) (fun hb230 => ?_) (fun hb230 => ?_) ?_
       ·refine Vk ?_
        refine V0 ?_
        exact th
       ·refine LE ?_
        exact th
       refine AV ?_
       refine Az rfl hF (fun hb231 hF => ?_) fun hb231 hF => ?_
       ·refine IK ?_
        refine Nb ?_
        refine Rn ?_
        refine cl (self_ok (p0 := a221) (f4 := f4) (fi4 := fi4) (ca4 := ca4) (b0 := b0) h (O) hf4 kz222 ok hF fun x232 _ zr233 ok hF => ?_)
        obtain ⟨a234, ha234, hF⟩ := DQ hF
        obtain ⟨_, hl235, hF⟩ := BT hF
        rw [← ha234] at ok zr233
        rw [← ha234]
        have hms : As 3 b0 a221 = As 3 b0 a234 := CK (EN hl235)
        try rw [hms] at ok
        try rw [hms]
        clear hms
        refine AV ?_
        refine xr ?_
        refine Is (fn := Tryz.f188) rfl .nil ?_
        exact ⟨_, _, (.refl _), hy ok, _, Aj hF, rfl, zr233, oy ok, rfl⟩
       ·refine Co ?_
        refine xr ?_
        refine Is (fn := Tryz.f188) rfl .nil ?_
        exact ⟨_, _, (.refl _), hy ok, _, Aj hF, rfl, kz222, oy ok, rfl⟩
theorem DX (p0 : List Ab) (p1 : Int) (p2 : Int) (p3 : Int) (p4 : Ab → Ab → Option Int) (f4 : FuncId) (fi4 : List D) (ca4 : List D) (b0 : Nat) {G : (List Ab) → Prop} (h : Heap) (O : List (Nat × AObj)) (hf4 : ∀ (x0 : Ab) (x1 : Ab) (G : Int → Prop) (h : Heap), Ap (p4 x0 x1) G → CallsA Tryz.prog f4 (fi4 ++ [.agg (Aa x0), .agg (Aa x1)] ++ ca4) h fun d h' => ∃ r, G r ∧ d = .int .i64 r ∧ h' = h) (zb0 : b0 = 0 → p0 = []) (ok : OK h (mo b0 Aa p0 :: O)) (hF : Ap (B1 p0 p1 p2 p3 p4) G) : CallsA Tryz.prog 188 [As 3 b0 p0, .int .i64 p1, .int .i64 p2, .int .i64 p3, .fn (.func f4) fi4 ca4] (Hp h (mo b0 Aa p0 :: O)) fun d h' => ∃ r, G r ∧ d = .tup [] ∧ (b0 = 0 → r = []) ∧ OK h (mo b0 Aa r :: O) ∧ h' = Hp h (mo b0 Aa r :: O) := Fq AA h O hf4 zb0 ok hF
end Go.Proofs.YtilhbalhkljanaaGreatDoor
