/- The walks. No condition. -/
import Derived.Test.YtilhbalhkljanaaGreatDoorWs
import Derived.Test.YtilhbalhkljanaaGreatDoorWk2
set_option linter.unusedVariables false
set_option linter.unusedSimpArgs false
set_option maxRecDepth 20000
set_option maxHeartbeats 8000000
namespace Go.Proofs.YtilhbalhkljanaaGreatDoor
theorem FO (p0 : List Ab) (p1 : Int) (p2 : Ab → Ab → Option Int) (f2 : FuncId) (fi2 : List D) (ca2 : List D) (b0 : Nat) {G : (List Ab) → Prop} (h : Heap) (O : List (Nat × AObj)) (hf2 : ∀ (x0 : Ab) (x1 : Ab) (G : Int → Prop) (h : Heap), Ap (p2 x0 x1) G → CallsA Tryz.prog f2 (fi2 ++ [.agg (Aa x0), .agg (Aa x1)] ++ ca2) h fun d h' => ∃ r, G r ∧ d = .int .i64 r ∧ h' = h) (zb0 : b0 = 0 → p0 = []) (ok : OK h (mo b0 Aa p0 :: O)) (hF : Ap (Cf p0 p1 p2) G) : CallsA Tryz.prog 172 [As 3 b0 p0, .int .i64 p1, .fn (.func f2) fi2 ca2] (Hp h (mo b0 Aa p0 :: O)) fun d h' => ∃ r, G r ∧ d = .tup [] ∧ (b0 = 0 → r = []) ∧ OK h (mo b0 Aa r :: O) ∧ h' = Hp h (mo b0 Aa r :: O) := by
 refine CallsA.ret ?_
 refine CB Tryz.func172 rfl ar Tryz.ntmps172 rfl ?_
 rw [Cf] at hF
 refine Gd ?_
 refine Eh ?_
 refine HX ?_
 refine Bf hF (fun (v : (List Ab) × Int) s' => match v with | (a10, a12) => (b0 = 0 → a10 = []) ∧ OK h (mo b0 Aa a10 :: O) ∧ WS s' ⟨Ak 63 [(0, As 3 b0 a10), (1, .int .i64 p1), (2, .fn (.func f2) fi2 ca2), (6, .int .i64 (20 : Int)), (7, .int .i64 a12)], Hp h (mo b0 Aa a10 :: O)⟩) (fun J13 hF => ?_) ?_
 ·refine Fe ?_
  refine Cp (σ := (List Ab) × Int × Int) hF (fun (v : (List Ab) × Int × Int) s' => match v with | (a14, a16, a17) => (b0 = 0 → a14 = []) ∧ OK h (mo b0 Aa a14 :: O) ∧ WS s' ⟨Ak 63 [(0, As 3 b0 a14), (1, .int .i64 p1), (2, .fn (.func f2) fi2 ca2), (6, .int .i64 (20 : Int)), (7, .int .i64 a16), (8, .int .i64 a17)], Hp h (mo b0 Aa a14 :: O)⟩) ?_ ?_
  ·exact ⟨zb0, oy ok, wy ok⟩
  ·rintro G18 hG19 rec20 ⟨a14, a16, a17⟩ s' ih21 hF ⟨kz15, ok, hws⟩
   refine AQ hws ?_
   clear hws s'
   rw [BV] at hF
   refine Ol ?_
   refine Vg ?_
   refine AV ?_
   refine Az rfl hF (fun hb22 hF => ?_) fun hb22 hF => ?_
   ·refine K8 ?_
    refine Bz ?_
    refine Nb ?_
    refine NH ?_
    refine cl (okT (fun _ hF => Do _ _ _ (p0 := a14) (f3 := f2) (fi3 := fi2) (ca3 := ca2) (b0 := b0) h (O) hf2 kz15 ok hF) hF fun x23 _ _ _ hq hF => ?_)
    obtain ⟨rfl, zr24, ok, rfl⟩ := hq
    obtain ⟨a25, ha25, hF⟩ := DQ hF
    obtain ⟨_, hl26, hF⟩ := BT hF
    rw [← ha25] at ok zr24
    rw [← ha25]
    have hms : As 3 b0 a14 = As 3 b0 a25 := CK (EN hl26)
    try rw [hms] at ok
    try rw [hms]
    clear hms
    refine AV ?_
    refine MW ?_
    refine P8 ?_
    refine Wh ?_
    refine ih21 (a25, a17, (IntKind.wrap .i64 (a17 + (20 : Int)))) _ hF ?_
    exact ⟨zr24, oy ok, wy ok⟩
   ·refine DT ?_
    replace hF := hG19 _ (Aj hF)
    exact ⟨(a14, a16), hF, kz15, oy ok, wy ok⟩
 ·rintro ⟨a10, a12⟩ s' hF ⟨kz11, ok, hws⟩
  refine AQ hws ?_
  clear hws s'
  refine Bz ?_
  refine Nb ?_
  refine NH ?_
  refine cl (okT (fun _ hF => Do _ _ _ (p0 := a10) (f3 := f2) (fi3 := fi2) (ca3 := ca2) (b0 := b0) h (O) hf2 kz11 ok hF) hF fun x27 _ _ _ hq hF => ?_)
  obtain ⟨rfl, zr28, ok, rfl⟩ := hq
  obtain ⟨a29, ha29, hF⟩ := DQ hF
  obtain ⟨_, hl30, hF⟩ := BT hF
  rw [← ha29] at ok zr28
  rw [← ha29]
  have hms : As 3 b0 a10 = As 3 b0 a29 := CK (EN hl30)
  try rw [hms] at ok
  try rw [hms]
  clear hms
  refine VS ?_
  refine Cp (σ := (List Ab) × Int) hF (fun (v : (List Ab) × Int) s' => match v with | (a31, a33) => (b0 = 0 → a31 = []) ∧ OK h (mo b0 Aa a31 :: O) ∧ WS s' ⟨Ak 63 [(0, As 3 b0 a31), (1, .int .i64 p1), (2, .fn (.func f2) fi2 ca2), (6, .int .i64 a33)], Hp h (mo b0 Aa a31 :: O)⟩) ?_ ?_
  ·exact ⟨zr28, oy ok, wy ok⟩
  ·rintro G34 hG35 rec36 ⟨a31, a33⟩ s' ih37 hF ⟨kz32, ok, hws⟩
   refine AQ hws ?_
   clear hws s'
   rw [Bs] at hF
   refine Sq ?_
   refine Az rfl hF (fun hb38 hF => ?_) fun hb38 hF => ?_
   ·refine K8 ?_
    refine Eh ?_
    refine Ef rfl rfl (NM ..) ?_
    refine HX ?_
    refine Bf hF (fun (v : (List Ab) × Int) s' => match v with | (a48, a50) => (b0 = 0 → a48 = []) ∧ OK h (mo b0 Aa a48 :: O) ∧ WS s' ⟨Ak 63 [(0, As 3 b0 a48), (1, .int .i64 p1), (2, .fn (.func f2) fi2 ca2), (6, .int .i64 a33), (7, .int .i64 a50)], Hp h (mo b0 Aa a48 :: O)⟩) (fun J51 hF => ?_) ?_
    ·refine Fe ?_
     refine Cp (σ := (List Ab) × Int × Int) hF (fun (v : (List Ab) × Int × Int) s' => match v with | (a52, a54, a55) => (b0 = 0 → a52 = []) ∧ OK h (mo b0 Aa a52 :: O) ∧ WS s' ⟨Ak 63 [(0, As 3 b0 a52), (1, .int .i64 p1), (2, .fn (.func f2) fi2 ca2), (6, .int .i64 a33), (7, .int .i64 a54), (8, .int .i64 a55)], Hp h (mo b0 Aa a52 :: O)⟩) ?_ ?_
     ·exact ⟨kz32, oy ok, wy ok⟩
     ·rintro G56 hG57 rec58 ⟨a52, a54, a55⟩ s' ih59 hF ⟨kz53, ok, hws⟩
      refine AQ hws ?_
      clear hws s'
      rw [Bu] at hF
      refine Ol ?_
      refine Vg ?_
      refine AV ?_
      refine Az rfl hF (fun hb60 hF => ?_) fun hb60 hF => ?_
      ·refine K8 ?_
       refine Bz ?_
       refine Nb ?_
       refine If ?_
       refine Rn ?_
       refine cl (okT (fun _ hF => DX _ _ _ _ (p0 := a52) (f4 := f2) (fi4 := fi2) (ca4 := ca2) (b0 := b0) h (O) hf2 kz53 ok hF) hF fun x61 _ _ _ hq hF => ?_)
       obtain ⟨rfl, zr62, ok, rfl⟩ := hq
       obtain ⟨a63, ha63, hF⟩ := DQ hF
       obtain ⟨_, hl64, hF⟩ := BT hF
       rw [← ha63] at ok zr62
       rw [← ha63]
       have hms : As 3 b0 a52 = As 3 b0 a63 := CK (EN hl64)
       try rw [hms] at ok
       try rw [hms]
       clear hms
       refine AV ?_
       refine MW ?_
       refine V2 ?_
       refine Ef rfl rfl (NM ..) ?_
       refine HW ?_
       refine EV ?_
       refine ih59 (a63, a55, (IntKind.wrap .i64 (a55 + (IntKind.wrap .i64 ((2 : Int) * a33))))) _ hF ?_
       exact ⟨zr62, oy ok, wy ok⟩
      ·refine DT ?_
       replace hF := hG57 _ (Aj hF)
       exact ⟨(a52, a54), hF, kz53, oy ok, wy ok⟩
    ·rintro ⟨a48, a50⟩ s' hF ⟨kz49, ok, hws⟩
     refine AQ hws ?_
     clear hws s'
     refine Bf hF (fun (a70 : (List Ab)) s' => (b0 = 0 → a70 = []) ∧ OK h (mo b0 Aa a70 :: O) ∧ WS s' ⟨Ak 63 [(0, As 3 b0 a70), (1, .int .i64 p1), (2, .fn (.func f2) fi2 ca2), (6, .int .i64 a33)], Hp h (mo b0 Aa a70 :: O)⟩) (fun J72 hF => ?_) ?_
     ·refine Eh ?_
      refine Wh ?_
      refine Hz ?_
      refine Kx ?_
      refine Az rfl hF (fun hb73 hF => ?_) fun hb73 hF => ?_
      ·refine IK ?_
       refine Nb ?_
       refine Rn ?_
       refine cl (okT (fun _ hF => DX _ _ _ _ (p0 := a48) (f4 := f2) (fi4 := fi2) (ca4 := ca2) (b0 := b0) h (O) hf2 kz49 ok hF) hF fun x74 _ _ _ hq hF => ?_)
       obtain ⟨rfl, zr75, ok, rfl⟩ := hq
       obtain ⟨a76, ha76, hF⟩ := DQ hF
       obtain ⟨_, hl77, hF⟩ := BT hF
       rw [← ha76] at ok zr75
       rw [← ha76]
       have hms : As 3 b0 a48 = As 3 b0 a76 := CK (EN hl77)
       try rw [hms] at ok
       try rw [hms]
       clear hms
       refine AV ?_
       exact ⟨a76, hF, zr75, oy ok, wy ok⟩
      ·refine Co ?_
       exact ⟨a48, hF, kz49, oy ok, wy ok⟩
     ·rintro a70 s' hF ⟨kz71, ok, hws⟩
      refine AQ hws ?_
      clear hws s'
      refine P8 ?_
      refine Ef rfl rfl (NM ..) ?_
      refine EV ?_
      refine ih37 (a70, (IntKind.wrap .i64 (a33 * (2 : Int)))) _ hF ?_
      exact ⟨kz71, oy ok, wy ok⟩
   ·refine DT ?_
    replace hF := hG35 _ (Aj hF)
    refine xr ?_
    refine Is (fn := Tryz.f172) rfl .nil ?_
    exact ⟨_, _, (.refl _), hy ok, _, Aj hF, rfl, kz32, oy ok, rfl⟩
theorem EC (p0 : List Ab) (p1 : Ab → Ab → Option Int) (f1 : FuncId) (fi1 : List D) (ca1 : List D) (b0 : Nat) {G : (List Ab) → Prop} (h : Heap) (O : List (Nat × AObj)) (hf1 : ∀ (x0 : Ab) (x1 : Ab) (G : Int → Prop) (h : Heap), Ap (p1 x0 x1) G → CallsA Tryz.prog f1 (fi1 ++ [.agg (Aa x0), .agg (Aa x1)] ++ ca1) h fun d h' => ∃ r, G r ∧ d = .int .i64 r ∧ h' = h) (zb0 : b0 = 0 → p0 = []) (ok : OK h (mo b0 Aa p0 :: O)) (hF : Ap (Bp p0 p1) G) : CallsA Tryz.prog 138 [As 3 b0 p0, .fn (.func f1) fi1 ca1] (Hp h (mo b0 Aa p0 :: O)) fun d h' => ∃ r, G r ∧ d = .tup [] ∧ (b0 = 0 → r = []) ∧ OK h (mo b0 Aa r :: O) ∧ h' = Hp h (mo b0 Aa r :: O) := by
 refine CallsA.ret ?_
 refine CB Tryz.func138 rfl bp Tryz.ntmps138 rfl ?_
 rw [Bp] at hF
 refine IK ?_
 refine Ld ?_
 refine Ld ?_
 refine Jp zb0 rfl BL ?_
 refine NH ?_
 refine cl (okT (fun _ hF => FO _ _ (p0 := p0) (f2 := f1) (fi2 := fi1) (ca2 := ca1) (b0 := b0) h (O) hf1 zb0 ok hF) hF fun x1 _ _ _ hq hF => ?_)
 obtain ⟨rfl, zr2, ok, rfl⟩ := hq
 obtain ⟨a3, ha3, hF⟩ := DQ hF
 obtain ⟨_, hl4, hF⟩ := BT hF
 rw [← ha3] at ok zr2
 rw [← ha3]
 have hms : As 3 b0 p0 = As 3 b0 a3 := CK (EN hl4)
 try rw [hms] at ok
 try rw [hms]
 clear hms
 refine AV ?_
 refine xr ?_
 refine Is (fn := Tryz.f138) rfl .nil ?_
 exact ⟨_, _, (.refl _), hy ok, _, Aj hF, rfl, zr2, oy ok, rfl⟩
theorem Gx (p0 : List UInt8) {G : Bool → Prop} (h : Heap) (hF : Ap (D5 p0) G) : CallsA Tryz.prog 154 [.str p0] h fun d h' => ∃ r, G r ∧ d = .bool r ∧ h' = h := by
 refine CallsA.ret ?_
 refine B2 Tryz.func154 rfl bd Tryz.ntmps154 rfl (fun ok => ?_)
 rw [D5] at hF
 refine Nq ?_
 refine Qt ?_
 refine QK ?_
 refine GM ?_
 exact rt
theorem F4 (p0 : List UInt8) (p1 : List UInt8) {G : Int → Prop} (h : Heap) (hF : Ap (C6 p0 p1) G) : CallsA Tryz.prog 108 [.str p0, .str p1] h fun d h' => ∃ r, G r ∧ d = .int .i64 r ∧ h' = h := by
 refine CallsA.ret ?_
 refine B2 Tryz.func108 rfl az Tryz.ntmps108 rfl (fun ok => ?_)
 rw [C6] at hF
 refine Gd ?_
 refine E1 ?_
 refine cl (A4 (fun _ h hF => Gx _ h hF) _ hF fun x1 _ hF => ?_)
 refine D7 ?_
 refine E1 ?_
 refine cl (A4 (fun _ h hF => Gx _ h hF) _ hF fun x2 _ hF => ?_)
 refine D7 ?_
 refine DS ?_
 refine Kh ?_
 refine AV ?_
 refine Az rfl hF (fun hb3 hF => ?_) fun hb3 hF => ?_
 ·refine DS ?_
  refine Kh ?_
  refine AV ?_
  refine Az rfl hF (fun hb4 hF => ?_) fun hb4 hF => ?_
  ·refine Eg ?_
   exact rt
  ·refine SE ?_
   exact rt
 ·refine GI ?_
  refine Kh ?_
  refine AV ?_
  refine Az rfl hF (fun hb5 hF => ?_) fun hb5 hF => ?_
  ·refine Eg ?_
   exact rt
  ·refine GI ?_
   refine Qt ?_
   refine Ef rfl rfl ZS ?_
   refine AV ?_
   refine Az rfl hF (fun hb6 hF => ?_) fun hb6 hF => ?_
   ·refine Eg ?_
    exact rt
   ·refine GI ?_
    refine Qt ?_
    refine Ef rfl rfl aC ?_
    refine AV ?_
    refine Az rfl hF (fun hb7 hF => ?_) fun hb7 hF => ?_
    ·refine Eg ?_
     exact rt
    ·refine SE ?_
     exact rt
theorem M6 (p0 : List Int) {G : Int → Prop} (h : Heap) (hF : Ap (F0 p0) G) : CallsA Tryz.prog 107 [.sl 1 (List.map W9 p0) 0] h fun d h' => ∃ r, G r ∧ d = .int .i64 r ∧ h' = h := by
 refine CallsA.ret ?_
 refine B2 Tryz.func107 rfl ao Tryz.ntmps107 rfl (fun ok => ?_)
 rw [F0] at hF
 refine Gd ?_
 refine Gd ?_
 refine Bf hF (fun (_ : Unit) s' => OK h [] ∧ WS s' ⟨Ak 18 [(3, .int .i64 (0 : Int))], Hp h []⟩) (fun J5 hF => ?_) ?_
 ·refine Gm ?_
  refine GF rfl OF ?_
  refine Jb ?_
  refine Cp (σ := Int) hF (fun (a6 : Int) s' => OK h [] ∧ WS s' ⟨Ak 18 [(3, .int .i64 (0 : Int)), (6, .sl 1 (List.map W9 p0) 0), (7, .int .i64 (p0.length : Int)), (8, .int .i64 a6)], Hp h []⟩) ?_ ?_
  ·exact ⟨oy ok, wy ok⟩
  ·rintro G7 hG8 rec9 a6 s' ih10 hF ⟨ok, hws⟩
   refine AQ hws ?_
   clear hws s'
   rw [Fw] at hF
   refine Jg ?_
   refine Az rfl hF (fun hb11 hF => ?_) fun hb11 hF => ?_
   ·refine Ro ?_
    refine Bz ?_
    refine Fz rfl rfl OF Bb hF (fun x12 _ hF => ?_)
    refine Y5 ?_
    refine EV ?_
    refine Hz ?_
    refine Mq ?_
    refine Az rfl hF (fun hb13 hF => ?_) fun hb13 hF => ?_
    ·refine HP ?_
     replace hF := hG8 _ (Aj hF)
     exact rt
    ·refine Ms ?_
     refine ih10 (IntKind.wrap .i64 (a6 + (1 : Int))) _ hF ?_
     exact ⟨oy ok, wy ok⟩
   ·refine DT ?_
    replace hF := hG8 _ (Aj hF)
    exact ⟨(), hF, oy ok, wy ok⟩
 ·rintro ⟨⟩ s' hF ⟨ok, hws⟩
  refine AQ hws ?_
  clear hws s'
  refine HP ?_
  exact rt
theorem H9 (p0 : Ab) (p1 : Ab) {G : Int → Prop} (h : Heap) (hF : Ap (Dr p0 p1) G) : CallsA Tryz.prog 139 [.agg (Aa p0), .agg (Aa p1)] h fun d h' => ∃ r, G r ∧ d = .int .i64 r ∧ h' = h := by
 refine CallsA.ret ?_
 refine B2 Tryz.func139 rfl aW Tryz.ntmps139 rfl (fun ok => ?_)
 rw [Dr] at hF
 refine Bz ?_
 refine FC rfl rfl rfl rfl ?_
 refine FC rfl rfl rfl rfl ?_
 refine Mw ?_
 refine Xl (mdl [(7, 3), (10, 3), (14, 3), (17, 3)]) [0, 1, 2, 3, 4, 5, 7, 8, 9, 10, 11, 12, 6, 13, 14, 15, 16] [_, _, _, _, _, _, _, _, _, _, _, _, _, _, _, _, _] (by kernel_rfl) rfl rfl (by kernel_rfl) ?_
 refine Y0 ?_
 refine C9 rfl Kk AO rfl ?_
 refine Hx ?_
 refine Y0 ?_
 refine C9 rfl Kk AO rfl ?_
 refine Hx ?_
 refine Y0 ?_
 refine C9 rfl Nn AO rfl ?_
 refine Hx ?_
 refine Y0 ?_
 refine C9 rfl Nn AO rfl ?_
 refine Hx ?_
 refine cl (A4 (fun _ h hF => F4 _ _ h hF) _ hF fun x1 _ hF => ?_)
 refine cl (A4 (fun _ h hF => F4 _ _ h hF) _ hF fun x2 _ hF => ?_)
 refine Fk (cs := [.int .i64 x1, .int .i64 x2]) (es := (List.map W9 [x1, x2])) rfl VF rfl (by kernel_rfl) (by kernel_rfl) ?_
 refine cl (A4 (fun _ h hF => M6 _ h hF) _ hF fun x3 _ hF => ?_)
 refine EZ ?_
 exact rt
theorem Jf (p0 : Ao) (p1 : List TP) {G : (List Ab) × Int → Prop} (h : Heap) (hF : Ap (CQ p0 p1) G) : CallsA Tryz.prog 89 [.agg (AU p0), .sl 2 (List.map cP p1) 0] h fun d h' => ∃ r, G r ∧ d = .tup [.sl 3 (List.map Aa r.1) 0, .int .i64 r.2] ∧ h' = h := by
 refine CallsA.ret ?_
 refine B2 Tryz.func89 rfl dE Tryz.ntmps89 rfl (fun ok => ?_)
 rw [CQ] at hF
 refine Bz ?_
 refine FC rfl rfl rfl rfl ?_
 refine S_a (v := .snil) rfl ?_
 refine Ed 4 (v := .sl 3 (List.map Aa ([] : List Ab)) 0) (.nil _) ?_
 refine EV ?_
 refine Bz ?_
 refine S_a (v := .snil) rfl ?_
 refine Nf Aa ok (fun ok => ?_)
 refine AV ?_
 refine Bf hF (fun (a37 : (List Ab)) s' => ∃ g36 : Nat, (g36 = 0 → a37 = []) ∧ OK h [mo g36 Aa a37] ∧ WS s' ⟨Ak 82 [(6, As 3 g36 a37)], Hp h [mo g36 Aa a37]⟩) (fun J38 hF => ?_) ?_
 ·refine Gm ?_
  refine GF rfl H8 ?_
  refine Jb ?_
  refine Cp (σ := (List Ab) × Int) hF (fun (v : (List Ab) × Int) s' => match v with | (a40, a41) => ∃ g39 : Nat, (g39 = 0 → a40 = []) ∧ OK h [mo g39 Aa a40] ∧ WS s' ⟨Ak 82 [(2, .iptr (AU p0)), (6, As 3 g39 a40), (17, .sl 2 (List.map cP p1) 0), (18, .int .i64 (p1.length : Int)), (19, .int .i64 a41)], Hp h [mo g39 Aa a40]⟩) ?_ ?_
  ·exact ⟨0, (fun _ => rfl), oy ok, wy ok⟩
  ·rintro G42 hG43 rec44 ⟨a40, a41⟩ s' ih45 hF ⟨g39, zg39, ok, hws⟩
   refine AQ hws ?_
   clear hws s'
   rw [Dd] at hF
   refine Jg ?_
   refine Az rfl hF (fun hb46 hF => ?_) fun hb46 hF => ?_
   ·refine Co ?_
    refine Bf hF (fun (a62 : (List Ab)) s' => ∃ g61 : Nat, (g61 = 0 → a62 = []) ∧ OK h [mo g61 Aa a62] ∧ WS s' ⟨Ak 82 [(2, .iptr (AU p0)), (6, As 3 g61 a62), (17, .sl 2 (List.map cP p1) 0), (18, .int .i64 (p1.length : Int)), (19, .int .i64 a41)], Hp h [mo g61 Aa a62]⟩) (fun J63 hF => ?_) ?_
    ·refine Fe ?_
     refine DS ?_
     refine CF (mdl [(8, 1)]) ?_
     refine Fz rfl rfl H8 Ej hF (fun x64 _ hF => ?_)
     refine Cs rfl (Bm (vs := cP x64) GX Ej rfl rfl) ?_
     refine C8 ok rfl H1 ?_
     intro i65 hi65 ok
     refine Ck (j := 0) (cs' := [.str x64.Name, .str x64.Value]) ok rfl rfl rfl hi65 rfl Ej rfl rfl (fun ok => ?_)
     refine GQ ?_
     refine Bz ?_
     refine Ds (j := 0) ok rfl rfl rfl hi65 (Bm (vs := cP x64) GX Ej rfl rfl) ?_
     refine cl (A4 (fun _ h hF => Hj _ h hF) _ hF fun x66 _ hF => ?_)
     refine GL ?_
     refine Ov ?_
     refine Kh ?_
     refine AV ?_
     refine Az rfl hF (fun hb67 hF => ?_) fun hb67 hF => ?_
     ·refine DT ?_
      exact ⟨a40, hF, g39, zg39, oy ok, wy ok⟩
     ·refine GI ?_
      refine CF (mdl [(11, 1)]) ?_
      refine Cs rfl (Bm (vs := AU p0) EM CL rfl rfl) ?_
      refine V6 ?_
      refine QU ?_
      refine cl (A4 (fun _ h hF => FF _ _ h hF) _ hF fun x68 _ hF => ?_)
      refine GL ?_
      refine C8 ok rfl F2 ?_
      intro i69 hi69 ok
      refine Ck (j := 0) (cs' := [.str x68.1.URI, .str x68.1.Local]) ok rfl rfl rfl hi69 rfl Cx rfl rfl (fun ok => ?_)
      refine Uy ?_
      refine Az rfl hF (fun hb70 hF => ?_) fun hb70 hF => ?_
      ·refine Eh ?_
       refine S_a (v := .snil) rfl ?_
       refine Ed 4 (v := .sl 3 (List.map Aa ([] : List Ab)) 0) (.nil _) ?_
       refine EZ ?_
       replace hF := hG43 _ (Aj hF)
       exact rt
      ·refine Co ?_
       refine Bf hF (fun (a73 : (List UInt8)) s' => OK h [(i69, .cells [.str a73, .str x68.1.Local]), (i65, .cells [.str x64.Name, .str x64.Value]), mo g39 Aa a40] ∧ WS s' ⟨Ak 82 [(2, .iptr (AU p0)), (6, As 3 g39 a40), (8, .ptr i65 0), (11, .ptr i69 0), (17, .sl 2 (List.map cP p1) 0), (18, .int .i64 (p1.length : Int)), (19, .int .i64 a41)], Hp h [(i69, .cells [.str a73, .str x68.1.Local]), (i65, .cells [.str x64.Name, .str x64.Value]), mo g39 Aa a40]⟩) (fun J74 hF => ?_) ?_
       ·refine Bz ?_
        refine V6 ?_
        refine bC ?_
        refine cl (A4 (fun _ h hF => F7 _ h hF) _ hF fun x75 _ hF => ?_)
        refine Vh ?_
        refine Ov ?_
        refine QB ?_
        refine AV ?_
        refine Az rfl hF (fun hb76 hF => ?_) fun hb76 hF => ?_
        ·refine IK ?_
         refine DA rfl Kk AO ?_
         refine Ck (j := 0) (cs' := [.str ([] : List UInt8), .str x68.1.Local]) ok rfl rfl rfl hi69 rfl AO rfl rfl (fun ok => ?_)
         refine AV ?_
         exact ⟨([] : List UInt8), hF, oy ok, wy ok⟩
        ·refine Co ?_
         exact ⟨x68.1.URI, hF, oy ok, wy ok⟩
       ·rintro a73 s' hF ⟨ok, hws⟩
        refine AQ hws ?_
        clear hws s'
        refine CF (mdl [(55, 1)]) ?_
        refine Ld ?_
        refine Ds (j := 0) ok rfl rfl rfl hi69 (Bm (vs := Cb (⟨a73, x68.1.Local⟩ : Am)) EK Cx rfl rfl) ?_
        refine X0 ?_
        refine bC ?_
        refine CS (v := .agg (Aa (⟨(⟨a73, x68.1.Local⟩ : Am), x64.Value⟩ : Ab))) (Ek Pf Vp rfl) ?_
        refine Fk (cs := [.str (⟨(⟨a73, x68.1.Local⟩ : Am), x64.Value⟩ : Ab).Name.URI, .str (⟨(⟨a73, x68.1.Local⟩ : Am), x64.Value⟩ : Ab).Name.Local, .str (⟨(⟨a73, x68.1.Local⟩ : Am), x64.Value⟩ : Ab).Value]) (es := (List.map Aa [(⟨(⟨a73, x68.1.Local⟩ : Am), x64.Value⟩ : Ab)])) rfl Q0 rfl (by kernel_rfl) (by kernel_rfl) ?_
        refine II (j := 2) (M := [(⟨(⟨a73, x68.1.Local⟩ : Am), x64.Value⟩ : Ab)]) ok zg39 rfl rfl Jy (fun _ => rfl) rfl Q0 Wa hF ?_
        intro u77 zu77 ok hF
        obtain ⟨a78, ha78, hF⟩ := DQ hF
        rw [← ha78] at ok zu77
        rw [← ha78]
        refine RB ?_
        exact ⟨a78, hF, u77, zu77, oy ok, wy ok⟩
    ·rintro a62 s' hF ⟨g61, zg61, ok, hws⟩
     refine AQ hws ?_
     clear hws s'
     refine SO ?_
     refine ih45 (a62, (IntKind.wrap .i64 (a41 + (1 : Int)))) _ hF ?_
     exact ⟨g61, zg61, oy ok, wy ok⟩
   ·refine DT ?_
    replace hF := hG43 _ (Aj hF)
    exact ⟨a40, hF, g39, zg39, oy ok, wy ok⟩
 ·rintro a37 s' hF ⟨g36, zg36, ok, hws⟩
  refine AQ hws ?_
  clear hws s'
  refine Ra ?_
  refine cl (okT (fun _ hF => EC _ (p0 := a37) (f1 := 139) (fi1 := []) (ca1 := []) (b0 := g36) h [] (fun z0 z1 G h hF => H9 z0 z1 h hF) zg36 ok hF) hF fun x79 _ _ _ hq hF => ?_)
  obtain ⟨rfl, zr80, ok, rfl⟩ := hq
  obtain ⟨a81, ha81, hF⟩ := DQ hF
  obtain ⟨_, hl82, hF⟩ := BT hF
  rw [← ha81] at ok zr80
  rw [← ha81]
  have hms : As 3 g36 a37 = As 3 g36 a81 := CK (EN hl82)
  try rw [hms] at ok
  try rw [hms]
  clear hms
  refine AV ?_
  refine Bf hF (fun (_ : Unit) s' => OK h [mo g36 Aa a81] ∧ WS s' ⟨Ak 82 [(6, As 3 g36 a81)], Hp h [mo g36 Aa a81]⟩) (fun J95 hF => ?_) ?_
  ·refine Ra ?_
   refine Jp zr80 rfl BL ?_
   refine Jb ?_
   refine Cp (σ := Int) hF (fun (a96 : Int) s' => OK h [mo g36 Aa a81] ∧ WS s' ⟨Ak 82 [(6, As 3 g36 a81), (60, .int .i64 (a81.length : Int)), (61, .int .i64 a96)], Hp h [mo g36 Aa a81]⟩) ?_ ?_
   ·exact ⟨oy ok, wy ok⟩
   ·rintro G97 hG98 rec99 a96 s' ih100 hF ⟨ok, hws⟩
    refine AQ hws ?_
    clear hws s'
    rw [De] at hF
    refine Jg ?_
    refine Az rfl hF (fun hb101 hF => ?_) fun hb101 hF => ?_
    ·refine VB ?_
     refine Bf hF (fun (a106 : Bool) s' => OK h [mo g36 Aa a81] ∧ WS s' ⟨Ak 82 [(6, As 3 g36 a81), (60, .int .i64 (a81.length : Int)), (61, .int .i64 a96), (79, .bool a106)], Hp h [mo g36 Aa a81]⟩) (fun J107 hF => ?_) ?_
     ·refine EP (mdl []) (by kernel_rfl) (by kernel_rfl) ?_
      refine Eb ?_
      refine Qj ?_
      refine CZ ?_
      refine bm (b := (decide ((0 : Int) < a96))) hF (fun hb108 hF => ?_) (fun hb109 hF => ?_)
      ·refine Hs ?_
       refine Ld ?_
       refine So ?_
       refine DJ zr80 rfl rfl BL AB hF (fun x110 hx110 hF => ?_)
       refine A2 ?_
       refine DA rfl Jj Cx ?_
       refine A2 ?_
       refine EY (q := 3) (j := 0) (f0 := 0) ok rfl zr80 rfl rfl (fun _ => rfl) hx110 rfl rfl (Bm (vs := Cb x110.Name) EK Cx rfl rfl) ?_
       refine A2 ?_
       refine Ld ?_
       refine So ?_
       refine Hc ?_
       refine A2 ?_
       refine DJ zr80 rfl rfl BL AB hF (fun x111 hx111 hF => ?_)
       refine A2 ?_
       refine DA rfl Jj Cx ?_
       refine A2 ?_
       refine EY (q := 3) (j := 0) (f0 := 0) ok rfl zr80 rfl rfl (fun _ => rfl) hx111 rfl rfl (Bm (vs := Cb x111.Name) EK Cx rfl rfl) ?_
       refine A2 ?_
       refine Ef rfl rfl (ZN (b := ((x110.Name.URI == x111.Name.URI) && ((x110.Name.Local == x111.Name.Local) && true))) Ic Hd (by simp only [Cb, GD, G3, La, Hd, Ic, Dg, AO, Di, Dg, AO, Di, Ik, H4, G0, Ia, Hl, Hn, GC, List.drop_zero, List.drop_succ_cons, List.length_cons, List.length_nil, List.take_succ_cons, List.take_zero, Option.isSome_some, if_true, Option.bind_some, Option.map_some, Nat.reduceAdd, Nat.reduceLeDiff])) ?_
       refine Hh ?_
       exact ⟨((x110.Name.URI == x111.Name.URI) && ((x110.Name.Local == x111.Name.Local) && true)), hF, oy ok, wy ok⟩
      ·refine FA ?_
       refine FA ?_
       refine Wc ?_
       exact ⟨false, hF, oy ok, wy ok⟩
     ·rintro a106 s' hF ⟨ok, hws⟩
      refine AQ hws ?_
      clear hws s'
      refine Az rfl hF (fun hb112 hF => ?_) fun hb112 hF => ?_
      ·refine Bz ?_
       refine S_a (v := .snil) rfl ?_
       refine Ed 4 (v := .sl 3 (List.map Aa ([] : List Ab)) 0) (.nil _) ?_
       refine EZ ?_
       replace hF := hG98 _ (Aj hF)
       exact rt
      ·refine Ms ?_
       refine ih100 (IntKind.wrap .i64 (a96 + (1 : Int))) _ hF ?_
       exact ⟨oy ok, wy ok⟩
    ·refine DT ?_
     replace hF := hG98 _ (Aj hF)
     exact ⟨(), hF, oy ok, wy ok⟩
  ·rintro ⟨⟩ s' hF ⟨ok, hws⟩
   refine AQ hws ?_
   clear hws s'
   refine Ra ?_
   refine Xm ?_
   refine PH 0 4 ok zr80 rfl rfl (fun _ => rfl) (fun ok => ?_)
   refine EZ ?_
   exact rt
theorem FX (p0 : AD) (p1 : TK) (q0 : Nat) (b0_0 : Nat) (x0 : List (Af × Nat)) {G : Int × AD → Prop} (h : Heap) (O : List (Nat × AObj)) (hq0 : q0 ≠ 0) (hb0_0 : b0_0 ≠ 0) (hx0 : List.map Prod.fst x0 = p0.open_) (zk0 : zkR x0) (ok : OK h ((q0, .cells [.msl 8 b0_0 0 (List.length p0.open_), .int .i64 p0.nodes, .bool p0.done]) :: (b0_0, .cells (fl cK (List.reverse x0))) :: (EJ x0 ++ O))) (hF : Ap (AE p0 p1) G) : CallsA Tryz.prog 51 [.ptr q0 0, .agg (cTK p1)] (Hp h ((q0, .cells [.msl 8 b0_0 0 (List.length p0.open_), .int .i64 p0.nodes, .bool p0.done]) :: (b0_0, .cells (fl cK (List.reverse x0))) :: (EJ x0 ++ O))) fun d h' => ∃ r, G r ∧ d = .int .i64 r.1 ∧ ∃ (b0_0' : Nat) (x0' : List (Af × Nat)), b0_0' ≠ 0 ∧ List.map Prod.fst x0' = r.2.open_ ∧ zkR x0' ∧ OK h ((q0, .cells [.msl 8 b0_0' 0 (List.length r.2.open_), .int .i64 r.2.nodes, .bool r.2.done]) :: (b0_0', .cells (fl cK (List.reverse x0'))) :: (EJ x0' ++ O)) ∧ h' = Hp h ((q0, .cells [.msl 8 b0_0' 0 (List.length r.2.open_), .int .i64 r.2.nodes, .bool r.2.done]) :: (b0_0', .cells (fl cK (List.reverse x0'))) :: (EJ x0' ++ O)) := by
 refine CallsA.ret ?_
 refine CB Tryz.func51 rfl dA Tryz.ntmps51 rfl ?_
 rw [AE] at hF
 refine Bz ?_
 refine FC rfl rfl rfl rfl ?_
 refine Mw ?_
 refine Fe ?_
 refine On ?_
 refine Uq ?_
 refine HL (e := p0.open_) rfl EL ?_
 refine Ib ?_
 refine BH 5 23 hF (fun J2 hb1 hF => ?_) (fun J2 hb1 hF => ?_) (fun v3 hF => ?_)
 ·refine Tq ?_
  refine Us ?_
  refine A2 ?_
  refine dP ?_
  refine Hh ?_
  exact tw
 ·refine Wc ?_
  exact tw
 ·refine D7 ?_
  refine Az rfl hF (fun hb4 hF => ?_) fun hb4 hF => ?_
  ·refine Eg ?_
   refine rr ?_
   exact ⟨_, _, (.refl _), hy ok, _, Aj hF, rfl, b0_0, x0, hb0_0, hx0, zk0, oy ok, rfl⟩
  ·refine On ?_
   refine Uq ?_
   refine HL (e := p0.open_) rfl EL ?_
   refine Hc ?_
   refine Qj ?_
   refine D7 ?_
   refine Az rfl hF (fun hb5 hF => ?_) fun hb5 hF => ?_
   ·refine Eg ?_
    refine rr ?_
    exact ⟨_, _, (.refl _), hy ok, _, Aj hF, rfl, b0_0, x0, hb0_0, hx0, zk0, oy ok, rfl⟩
   ·refine Co ?_
    refine Bf hF (fun (v : (List Ag) × Int) s' => match v with | (a39, a40) => ∃ g38 : Nat, g38 ≠ 0 ∧ OK h ((g38, .cells [.sl 2 (List.map Ad a39) 0]) :: (q0, .cells [.msl 8 b0_0 0 (List.length p0.open_), .int .i64 p0.nodes, .bool p0.done]) :: (b0_0, .cells (fl cK (List.reverse x0))) :: (EJ x0 ++ O)) ∧ WS s' ⟨Ak 105 [(0, .ptr q0 0), (3, .iptr (cTK p1)), (5, .ptr g38 0), (6, .int .i64 a40)], Hp h ((g38, .cells [.sl 2 (List.map Ad a39) 0]) :: (q0, .cells [.msl 8 b0_0 0 (List.length p0.open_), .int .i64 p0.nodes, .bool p0.done]) :: (b0_0, .cells (fl cK (List.reverse x0))) :: (EJ x0 ++ O))⟩) (fun J41 hF => ?_) ?_
    ·refine XJ N0 (mdl [(5, 1), (39, 3)]) (NL _) (by kernel_rfl) ?_
     refine NG [0, 5, 6] [_, _, _] 11 #[true, false, false, false, false, true, true, false, false, false, false, false, false, false] rfl rfl (by kernel_rfl) (by kernel_rfl) ?_
     refine HS ?_
     refine C9 rfl Ko F8 rfl ?_
     refine Cs rfl (B6 KY F8 rfl) ?_
     refine AV ?_
     refine Xi 1 11 _ _ #[true, true, false, false, false, true, true, false, false, false, false, false, false, false] #[true, false, false, false, false, true, true, false, false, false, false, true, false, false] (by kernel_rfl) rfl rfl (by kernel_rfl) (by kernel_rfl) ?_ ?_
     ·refine IL (Kv (e := p0.open_) (j := 0) ok rfl hq0 hF fun x42 he43 hF => ?_) (.k .nil)
      obtain ⟨t44, xs45, rfl, hx46⟩ := Gz hx0 he43
      have zt47 := (BN.1 zk0).1
      have zs48 := (BN.1 zk0).2
      have hp49 := IP HT hx46
      have hck : cK (x42.1, t44) = [.int .i64 x42.1.node.Kind, .str x42.1.node.Name.URI, .str x42.1.node.Name.Local, .sl 3 (List.map Aa x42.1.node.Attrs) 0, As 6 t44 x42.1.node.Kids, .str x42.1.node.Text, .str x42.1.raw, .sl 2 (List.map Ad x42.1.in_.binds) 0] := rfl
      rw [B8, Dl, List.cons_append, hck] at ok
      rw [B8, Dl, List.cons_append, hck]
      clear hck
      refine AV ?_
      refine NG [2, 3] [_, _] 8 #[true, true, true, true, false, true, true, false, false, false, false, false, false, false] rfl rfl (by kernel_rfl) (by kernel_rfl) ?_
      refine GH ?_
      refine DA rfl Nv CL ?_
      refine AV ?_
      refine Xi 4 11 _ _ #[true, true, true, true, true, true, true, false, false, false, false, false, false, false] #[true, true, true, true, false, true, true, false, false, false, false, true, false, false] (by kernel_rfl) rfl rfl (by kernel_rfl) (by kernel_rfl) ?_ ?_
      ·refine I4 (j := 1) (f0 := 7) ok rfl rfl rfl hb0_0 (by omega) (Bm (vs := AU x42.1.in_) EM CL rfl rfl) ?_
       refine AV ?_
       refine NG [] [] 7 #[true, true, true, true, true, true, true, false, false, false, false, false, false, false] rfl rfl (by kernel_rfl) (by kernel_rfl) ?_
       refine AV ?_
       refine Xi 7 11 _ _ #[true, true, true, true, true, true, true, true, false, false, false, false, false, false] #[true, true, true, true, true, true, true, false, false, false, false, true, false, false] (by kernel_rfl) rfl rfl (by kernel_rfl) (by kernel_rfl) ?_ ?_
       ·refine cl (A4 (fun _ h hF => El _ _ h hF) _ hF fun x50 _ hF => ?_)
        refine AV ?_
        refine NG [8, 9, 10, 11, 12, 13] [_, _, _, _, _, _] 0 #[true, true, true, true, true, true, true, true, true, true, true, true, true, true] rfl rfl (by kernel_rfl) (by kernel_rfl) ?_
        refine GL ?_
        refine C8 ok rfl Fo ?_
        intro i51 hi51 ok
        refine Ck (j := 0) (cs' := [.sl 2 (List.map Ad x50.1.binds) 0]) ok rfl rfl rfl hi51 rfl CL rfl rfl (fun ok => ?_)
        refine EV ?_
        refine TL (by kernel_rfl) ?_
        have hck : cK (x42.1, t44) = [.int .i64 x42.1.node.Kind, .str x42.1.node.Name.URI, .str x42.1.node.Name.Local, .sl 3 (List.map Aa x42.1.node.Attrs) 0, As 6 t44 x42.1.node.Kids, .str x42.1.node.Text, .str x42.1.raw, .sl 2 (List.map Ad x42.1.in_.binds) 0] := rfl
        rw [← hck, ← B8 (c := cK)] at ok
        rw [← hck, ← B8 (c := cK)]
        clear hck
        have hx52 : List.map Prod.fst ((x42.1, t44) :: xs45) = p0.open_ := by rw [List.map_cons, hx46, he43]
        have zs53 : zkR ((x42.1, t44) :: xs45) := BN.2 ⟨zt47, zs48⟩
        exact ⟨(x50.1.binds, x50.2), hF, i51, hi51, oy ok, wy ok⟩
       ·refine C8 ok rfl Fo ?_
        intro i54 hi54 ok
        refine AV ?_
        refine NG [7, 8, 9, 10, 12, 13] [_, _, _, _, _, _] 0 #[true, true, true, true, true, true, true, true, true, true, true, true, true, true] rfl rfl (by kernel_rfl) (by kernel_rfl) ?_
        refine cl (A4 (fun _ h hF => El _ _ h hF) _ hF fun x55 _ hF => ?_)
        refine GL ?_
        refine Ck (j := 0) (cs' := [.sl 2 (List.map Ad x55.1.binds) 0]) ok rfl rfl rfl hi54 rfl CL rfl rfl (fun ok => ?_)
        refine EV ?_
        refine TL (by kernel_rfl) ?_
        have hck : cK (x42.1, t44) = [.int .i64 x42.1.node.Kind, .str x42.1.node.Name.URI, .str x42.1.node.Name.Local, .sl 3 (List.map Aa x42.1.node.Attrs) 0, As 6 t44 x42.1.node.Kids, .str x42.1.node.Text, .str x42.1.raw, .sl 2 (List.map Ad x42.1.in_.binds) 0] := rfl
        rw [← hck, ← B8 (c := cK)] at ok
        rw [← hck, ← B8 (c := cK)]
        clear hck
        have hx56 : List.map Prod.fst ((x42.1, t44) :: xs45) = p0.open_ := by rw [List.map_cons, hx46, he43]
        have zs57 : zkR ((x42.1, t44) :: xs45) := BN.2 ⟨zt47, zs48⟩
        exact ⟨(x55.1.binds, x55.2), hF, i54, hi54, oy ok, wy ok⟩
      ·refine C8 ok rfl Fo ?_
       intro i58 hi58 ok
       refine AV ?_
       refine NG [4, 7, 8, 9, 10, 12, 13] [_, _, _, _, _, _, _] 0 #[true, true, true, true, true, true, true, true, true, true, true, true, true, true] rfl rfl (by kernel_rfl) (by kernel_rfl) ?_
       refine I4 (j := 2) (f0 := 7) ok rfl rfl rfl hb0_0 (by omega) (Bm (vs := AU x42.1.in_) EM CL rfl rfl) ?_
       refine cl (A4 (fun _ h hF => El _ _ h hF) _ hF fun x59 _ hF => ?_)
       refine GL ?_
       refine Ck (j := 0) (cs' := [.sl 2 (List.map Ad x59.1.binds) 0]) ok rfl rfl rfl hi58 rfl CL rfl rfl (fun ok => ?_)
       refine EV ?_
       refine TL (by kernel_rfl) ?_
       have hck : cK (x42.1, t44) = [.int .i64 x42.1.node.Kind, .str x42.1.node.Name.URI, .str x42.1.node.Name.Local, .sl 3 (List.map Aa x42.1.node.Attrs) 0, As 6 t44 x42.1.node.Kids, .str x42.1.node.Text, .str x42.1.raw, .sl 2 (List.map Ad x42.1.in_.binds) 0] := rfl
       rw [← hck, ← B8 (c := cK)] at ok
       rw [← hck, ← B8 (c := cK)]
       clear hck
       have hx60 : List.map Prod.fst ((x42.1, t44) :: xs45) = p0.open_ := by rw [List.map_cons, hx46, he43]
       have zs61 : zkR ((x42.1, t44) :: xs45) := BN.2 ⟨zt47, zs48⟩
       exact ⟨(x59.1.binds, x59.2), hF, i58, hi58, oy ok, wy ok⟩
     ·refine C8 ok rfl Fo ?_
      intro i62 hi62 ok
      refine AV ?_
      refine NG [1, 2, 3, 4, 7, 8, 9, 10, 12, 13] [_, _, _, _, _, _, _, _, _, _] 0 #[true, true, true, true, true, true, true, true, true, true, true, true, true, true] rfl rfl (by kernel_rfl) (by kernel_rfl) ?_
      refine IL (Kv (e := p0.open_) (j := 1) ok rfl hq0 hF fun x63 he64 hF => ?_) (.k .nil)
      obtain ⟨t65, xs66, rfl, hx67⟩ := Gz hx0 he64
      have zt68 := (BN.1 zk0).1
      have zs69 := (BN.1 zk0).2
      have hp70 := IP HT hx67
      have hck : cK (x63.1, t65) = [.int .i64 x63.1.node.Kind, .str x63.1.node.Name.URI, .str x63.1.node.Name.Local, .sl 3 (List.map Aa x63.1.node.Attrs) 0, As 6 t65 x63.1.node.Kids, .str x63.1.node.Text, .str x63.1.raw, .sl 2 (List.map Ad x63.1.in_.binds) 0] := rfl
      rw [B8, Dl, List.cons_append, hck] at ok
      rw [B8, Dl, List.cons_append, hck]
      clear hck
      refine GH ?_
      refine DA rfl Nv CL ?_
      refine I4 (j := 2) (f0 := 7) ok rfl rfl rfl hb0_0 (by omega) (Bm (vs := AU x63.1.in_) EM CL rfl rfl) ?_
      refine cl (A4 (fun _ h hF => El _ _ h hF) _ hF fun x71 _ hF => ?_)
      refine GL ?_
      refine Ck (j := 0) (cs' := [.sl 2 (List.map Ad x71.1.binds) 0]) ok rfl rfl rfl hi62 rfl CL rfl rfl (fun ok => ?_)
      refine EV ?_
      refine TL (by kernel_rfl) ?_
      have hck : cK (x63.1, t65) = [.int .i64 x63.1.node.Kind, .str x63.1.node.Name.URI, .str x63.1.node.Name.Local, .sl 3 (List.map Aa x63.1.node.Attrs) 0, As 6 t65 x63.1.node.Kids, .str x63.1.node.Text, .str x63.1.raw, .sl 2 (List.map Ad x63.1.in_.binds) 0] := rfl
      rw [← hck, ← B8 (c := cK)] at ok
      rw [← hck, ← B8 (c := cK)]
      clear hck
      have hx72 : List.map Prod.fst ((x63.1, t65) :: xs66) = p0.open_ := by rw [List.map_cons, hx67, he64]
      have zs73 : zkR ((x63.1, t65) :: xs66) := BN.2 ⟨zt68, zs69⟩
      exact ⟨(x71.1.binds, x71.2), hF, i62, hi62, oy ok, wy ok⟩
    ·rintro ⟨a39, a40⟩ s' hF ⟨g38, hg38, ok, hws⟩
     refine AQ hws ?_
     clear hws s'
     refine Iq ?_
     refine Mq ?_
     refine Az rfl hF (fun hb74 hF => ?_) fun hb74 hF => ?_
     ·refine HP ?_
      refine rr ?_
      exact ⟨_, _, (.refl _), hy ok, _, Aj hF, rfl, b0_0, x0, hb0_0, hx0, zk0, oy ok, rfl⟩
     ·refine GI ?_
      refine CF (mdl [(7, 1)]) ?_
      refine Ds (j := 0) ok rfl rfl rfl hg38 (Bm (vs := AU (⟨a39⟩ : Ao)) EM CL rfl rfl) ?_
      refine Zi ?_
      refine Hx ?_
      refine cl (A4 (fun _ h hF => FF _ _ h hF) _ hF fun x75 _ hF => ?_)
      refine GL ?_
      refine C8 ok rfl F2 ?_
      intro i76 hi76 ok
      refine Ck (j := 0) (cs' := [.str x75.1.URI, .str x75.1.Local]) ok rfl rfl rfl hi76 rfl Cx rfl rfl (fun ok => ?_)
      refine Uy ?_
      refine Az rfl hF (fun hb77 hF => ?_) fun hb77 hF => ?_
      ·refine HP ?_
       refine rr ?_
       exact ⟨_, _, (.refl _), hy ok, _, Aj hF, rfl, b0_0, x0, hb0_0, hx0, zk0, oy ok, rfl⟩
      ·refine Co ?_
       refine Bz ?_
       refine Ds (j := 1) ok rfl rfl rfl hg38 (Bm (vs := AU (⟨a39⟩ : Ao)) EM CL rfl rfl) ?_
       refine C9 rfl Ko F8 rfl ?_
       refine Cs rfl (B6 KY F8 rfl) ?_
       refine cl (A4 (fun _ h hF => Jf _ _ h hF) _ hF fun x78 _ hF => ?_)
       refine GL ?_
       refine SF ?_
       refine Uy ?_
       refine Az rfl hF (fun hb79 hF => ?_) fun hb79 hF => ?_
       ·refine HP ?_
        refine rr ?_
        exact ⟨_, _, (.refl _), hy ok, _, Aj hF, rfl, b0_0, x0, hb0_0, hx0, zk0, oy ok, rfl⟩
       ·refine Co ?_
        refine Bf hF (fun (_ : Unit) s' => OK h ((i76, .cells [.str x75.1.URI, .str x75.1.Local]) :: (g38, .cells [.sl 2 (List.map Ad a39) 0]) :: (q0, .cells [.msl 8 b0_0 0 (List.length p0.open_), .int .i64 p0.nodes, .bool p0.done]) :: (b0_0, .cells (fl cK (List.reverse x0))) :: (EJ x0 ++ O)) ∧ WS s' ⟨Ak 105 [(0, .ptr q0 0), (3, .iptr (cTK p1)), (5, .ptr g38 0), (7, .ptr i76 0), (8, .sl 3 (List.map Aa x78.1) 0)], Hp h ((i76, .cells [.str x75.1.URI, .str x75.1.Local]) :: (g38, .cells [.sl 2 (List.map Ad a39) 0]) :: (q0, .cells [.msl 8 b0_0 0 (List.length p0.open_), .int .i64 p0.nodes, .bool p0.done]) :: (b0_0, .cells (fl cK (List.reverse x0))) :: (EJ x0 ++ O))⟩) (fun J86 hF => ?_) ?_
        ·refine Za ?_
         refine Jb ?_
         refine Cp (σ := Int) hF (fun (a87 : Int) s' => OK h ((i76, .cells [.str x75.1.URI, .str x75.1.Local]) :: (g38, .cells [.sl 2 (List.map Ad a39) 0]) :: (q0, .cells [.msl 8 b0_0 0 (List.length p0.open_), .int .i64 p0.nodes, .bool p0.done]) :: (b0_0, .cells (fl cK (List.reverse x0))) :: (EJ x0 ++ O)) ∧ WS s' ⟨Ak 105 [(0, .ptr q0 0), (3, .iptr (cTK p1)), (5, .ptr g38 0), (7, .ptr i76 0), (8, .sl 3 (List.map Aa x78.1) 0), (66, .sl 3 (List.map Aa x78.1) 0), (67, .int .i64 (x78.1.length : Int)), (68, .int .i64 a87)], Hp h ((i76, .cells [.str x75.1.URI, .str x75.1.Local]) :: (g38, .cells [.sl 2 (List.map Ad a39) 0]) :: (q0, .cells [.msl 8 b0_0 0 (List.length p0.open_), .int .i64 p0.nodes, .bool p0.done]) :: (b0_0, .cells (fl cK (List.reverse x0))) :: (EJ x0 ++ O))⟩) ?_ ?_
         ·exact ⟨oy ok, wy ok⟩
         ·rintro G88 hG89 rec90 a87 s' ih91 hF ⟨ok, hws⟩
          refine AQ hws ?_
          clear hws s'
          rw [BZ] at hF
          refine Jg ?_
          refine Az rfl hF (fun hb92 hF => ?_) fun hb92 hF => ?_
          ·refine Vt ?_
           refine CF (mdl [(10, 1)]) ?_
           refine Fz rfl rfl BL AB hF (fun x93 _ hF => ?_)
           refine Cs rfl (Bm (vs := Aa x93) CG AB rfl rfl) ?_
           refine C8 ok rfl Pf ?_
           intro i94 hi94 ok
           refine Ck (j := 0) (cs' := [.str x93.Name.URI, .str x93.Name.Local, .str x93.Value]) ok rfl rfl rfl hi94 rfl AB rfl rfl (fun ok => ?_)
           refine AV ?_
           refine Za ?_
           refine Qj ?_
           refine CZ ?_
           refine Cu (b := (decide ((64 : Int) < (x78.1.length : Int)))) 5 80 (.bool ((decide ((64 : Int) < (x78.1.length : Int))) || (decide ((8192 : Int) < (x93.Value.length : Int))))) (fun hb95 => ?_) (fun hb95 => ?_) ?_
           ·refine Sk ?_
            exact th
           ·refine Hs ?_
            refine DA rfl QG AO ?_
            refine A2 ?_
            refine QU ?_
            refine A2 ?_
            refine PE ?_
            refine QF ?_
            refine Hy ?_
            exact th
           refine AV ?_
           refine Az rfl hF (fun hb96 hF => ?_) fun hb96 hF => ?_
           ·refine Eg ?_
            replace hF := hG89 _ (Aj hF)
            refine rr ?_
            exact ⟨_, _, (.refl _), hy ok, _, Aj hF, rfl, b0_0, x0, hb0_0, hx0, zk0, oy ok, rfl⟩
           ·refine Ms ?_
            refine ih91 (IntKind.wrap .i64 (a87 + (1 : Int))) _ hF ?_
            exact ⟨oy ok, wy ok⟩
          ·refine DT ?_
           replace hF := hG89 _ (Aj hF)
           exact ⟨(), hF, oy ok, wy ok⟩
        ·rintro ⟨⟩ s' hF ⟨ok, hws⟩
         refine AQ hws ?_
         clear hws s'
         refine DS ?_
         refine EP (mdl [(95, 1), (91, 3)]) (by kernel_rfl) (by kernel_rfl) ?_
         refine HS ?_
         refine Lw ?_
         refine QX ?_
         refine Xj ?_
         refine Ds (j := 0) ok rfl rfl rfl hi76 (Bm (vs := Cb x75.1) EK Cx rfl rfl) ?_
         refine Kr ?_
         refine CS (v := .agg [.int .i64 (2 : Int), .str x75.1.URI, .str x75.1.Local, .sl 3 (List.map Aa x78.1) 0, .snil, .str ([] : List UInt8)]) (Ek Dh FY rfl) ?_
         refine Zi ?_
         refine Hx ?_
         refine Ds (j := 1) ok rfl rfl rfl hg38 (Bm (vs := AU (⟨a39⟩ : Ao)) EM CL rfl rfl) ?_
         refine CS (v := .agg [.int .i64 (2 : Int), .str x75.1.URI, .str x75.1.Local, .sl 3 (List.map Aa x78.1) 0, .snil, .str ([] : List UInt8), .str p1.Name, .sl 2 (List.map Ad (⟨a39⟩ : Ao).binds) 0]) (Ek QL QH rfl) ?_
         refine Fk (es := [[.int .i64 (2 : Int), .str x75.1.URI, .str x75.1.Local, .sl 3 (List.map Aa x78.1) 0, .snil, .str ([] : List UInt8), .str p1.Name, .sl 2 (List.map Ad (⟨a39⟩ : Ao).binds) 0]]) rfl NO rfl rfl rfl ?_
         refine Zl (c := cK) (X := x0) (e := p0.open_) (a := (⟨(⟨(2 : Int), x75.1, x78.1, ([] : List Ac), ([] : List UInt8)⟩ : Ac), p1.Name, (⟨a39⟩ : Ao)⟩ : Af)) (j := 3) ok rfl hx0 rfl rfl rfl HT rfl hb0_0 NO WX hF ?_
         intro u97 hu97 ok hF
         have hx98 : List.map Prod.fst (((⟨(⟨(2 : Int), x75.1, x78.1, ([] : List Ac), ([] : List UInt8)⟩ : Ac), p1.Name, (⟨a39⟩ : Ao)⟩ : Af), 0) :: x0) = ((⟨(⟨(2 : Int), x75.1, x78.1, ([] : List Ac), ([] : List UInt8)⟩ : Ac), p1.Name, (⟨a39⟩ : Ao)⟩ : Af) :: p0.open_) := by rw [List.map_cons, hx0]
         have zs99 : zkR (((⟨(⟨(2 : Int), x75.1, x78.1, ([] : List Ac), ([] : List UInt8)⟩ : Ac), p1.Name, (⟨a39⟩ : Ao)⟩ : Af), 0) :: x0) := BN.2 ⟨fun _ => rfl, zk0⟩
         obtain ⟨hpe, ok⟩ := Zm [(i76, .cells [.str x75.1.URI, .str x75.1.Local]), (g38, .cells [.sl 2 (List.map Ad a39) 0]), (q0, .cells [.msl 8 b0_0 0 (List.length p0.open_), .int .i64 p0.nodes, .bool p0.done]), (u97, .cells (fl cK (List.reverse (((⟨(⟨(2 : Int), x75.1, x78.1, ([] : List Ac), ([] : List UInt8)⟩ : Ac), p1.Name, (⟨a39⟩ : Ao)⟩ : Af), 0) :: x0))))] (L := (EJ x0 ++ O)) ok
         refine TH hpe ?_
         clear hpe
         refine GH ?_
         refine QX ?_
         refine Ck (j := 2) (cs' := [.msl 8 u97 0 (List.length ((⟨(⟨(2 : Int), x75.1, x78.1, ([] : List Ac), ([] : List UInt8)⟩ : Ac), p1.Name, (⟨a39⟩ : Ao)⟩ : Af) :: p0.open_)), .int .i64 p0.nodes, .bool p0.done]) ok rfl rfl rfl hq0 rfl FT rfl rfl (fun ok => ?_)
         refine Hw ?_
         refine Vb ?_
         refine aa ?_
         refine HW ?_
         refine Vb ?_
         refine Ck (j := 2) (cs' := [.msl 8 u97 0 (List.length ((⟨(⟨(2 : Int), x75.1, x78.1, ([] : List Ac), ([] : List UInt8)⟩ : Ac), p1.Name, (⟨a39⟩ : Ao)⟩ : Af) :: p0.open_)), .int .i64 (IntKind.wrap .i64 (p0.nodes + (1 : Int))), .bool p0.done]) ok rfl rfl rfl hq0 rfl Bb rfl rfl (fun ok => ?_)
         refine AV ?_
         refine Eg ?_
         refine rr ?_
         exact ⟨_, _, (.refl _), hy ok, _, Aj hF, rfl, u97, (((⟨(⟨(2 : Int), x75.1, x78.1, ([] : List Ac), ([] : List UInt8)⟩ : Ac), p1.Name, (⟨a39⟩ : Ao)⟩ : Af), 0) :: x0), hu97, hx98, zs99, oy ok, rfl⟩
theorem FR (p0 : AD) (q0 : Nat) (b0_0 : Nat) (x0 : List (Af × Nat)) {G : AD → Prop} (h : Heap) (O : List (Nat × AObj)) (hq0 : q0 ≠ 0) (hb0_0 : b0_0 ≠ 0) (hx0 : List.map Prod.fst x0 = p0.open_) (zk0 : zkR x0) (ok : OK h ((q0, .cells [.msl 8 b0_0 0 (List.length p0.open_), .int .i64 p0.nodes, .bool p0.done]) :: (b0_0, .cells (fl cK (List.reverse x0))) :: (EJ x0 ++ O))) (hF : Ap (Ba p0) G) : CallsA Tryz.prog 52 [.ptr q0 0] (Hp h ((q0, .cells [.msl 8 b0_0 0 (List.length p0.open_), .int .i64 p0.nodes, .bool p0.done]) :: (b0_0, .cells (fl cK (List.reverse x0))) :: (EJ x0 ++ O))) fun d h' => ∃ r, G r ∧ d = .tup [] ∧ ∃ (b0_0' : Nat) (x0' : List (Af × Nat)), b0_0' ≠ 0 ∧ List.map Prod.fst x0' = r.open_ ∧ zkR x0' ∧ OK h ((q0, .cells [.msl 8 b0_0' 0 (List.length r.open_), .int .i64 r.nodes, .bool r.done]) :: (b0_0', .cells (fl cK (List.reverse x0'))) :: (EJ x0' ++ O)) ∧ h' = Hp h ((q0, .cells [.msl 8 b0_0' 0 (List.length r.open_), .int .i64 r.nodes, .bool r.done]) :: (b0_0', .cells (fl cK (List.reverse x0'))) :: (EJ x0' ++ O)) := by
 refine CallsA.ret ?_
 refine CB Tryz.func52 rfl cU Tryz.ntmps52 rfl ?_
 rw [Ba] at hF
 refine DS ?_
 refine CF (mdl [(2, 1)]) ?_
 refine HS ?_
 refine IL (Kv (e := p0.open_) (j := 0) ok rfl hq0 hF fun x1 he2 hF => ?_) (.k .nil)
 obtain ⟨t3, xs4, rfl, hx5⟩ := Gz hx0 he2
 have zt6 := (BN.1 zk0).1
 have zs7 := (BN.1 zk0).2
 have hp8 := IP HT hx5
 have hck : cK (x1.1, t3) = [.int .i64 x1.1.node.Kind, .str x1.1.node.Name.URI, .str x1.1.node.Name.Local, .sl 3 (List.map Aa x1.1.node.Attrs) 0, As 6 t3 x1.1.node.Kids, .str x1.1.node.Text, .str x1.1.raw, .sl 2 (List.map Ad x1.1.in_.binds) 0] := rfl
 rw [B8, Dl, List.cons_append, hck] at ok
 rw [B8, Dl, List.cons_append, hck]
 clear hck
 refine GH ?_
 refine YR ?_
 refine I4 (j := 1) (f0 := 0) ok rfl rfl rfl hb0_0 (by omega) (Bm (vs := [.int .i64 x1.1.node.Kind, .str x1.1.node.Name.URI, .str x1.1.node.Name.Local, .sl 3 (List.map Aa x1.1.node.Attrs) 0, As 6 t3 x1.1.node.Kids, .str x1.1.node.Text]) DE AK rfl rfl) ?_
 refine XH (c := Ai) (e := x1.1.node.Kids) (cs' := Ai x1.1.node) 2 8 4 ok zt6 rfl rfl B3 rfl (by rw [Ae]; rfl) (fun ok => ?_)
 refine C8 ok rfl Dh ?_
 intro i10 hi10 ok
 refine Nf Ai ok (fun ok => ?_)
 refine Ck (j := 1) (cs' := [.int .i64 x1.1.node.Kind, .str x1.1.node.Name.URI, .str x1.1.node.Name.Local, .sl 3 (List.map Aa x1.1.node.Attrs) 0, .sl 6 (List.map Ai x1.1.node.Kids) 0, .str x1.1.node.Text]) ok rfl (congrArg D.agg (Ae x1.1.node)) rfl hi10 rfl AK rfl rfl (fun ok => ?_)
 refine GQ ?_
 refine EP (mdl []) (by kernel_rfl) (by kernel_rfl) ?_
 refine HS ?_
 refine Lw ?_
 refine QX ?_
 refine Xj ?_
 refine Lw ?_
 refine QX ?_
 refine Xj ?_
 refine HL (e := p0.open_) rfl EL ?_
 refine Hc ?_
 refine cC (e := p0.open_) rfl EL Ng (ED rfl) hF (fun x12 he13 hF => ?_)
 have hx14 := hx5.trans (List.cons.inj (he2.symm.trans he13)).2
 have hqhx14 := IP HT hx14
 refine GH ?_
 refine QX ?_
 refine Ck (j := 2) (cs' := [.msl 8 b0_0 0 (List.length x12.2), .int .i64 p0.nodes, .bool p0.done]) ok rfl rfl rfl hq0 rfl FT rfl rfl (fun ok => ?_)
 refine N2 ?_
 refine WN (cs := fl cK (List.reverse xs4)) (ds := [.int .i64 x1.1.node.Kind, .str x1.1.node.Name.URI, .str x1.1.node.Name.Local, .sl 3 (List.map Aa x1.1.node.Attrs) 0, As 6 t3 x1.1.node.Kids, .str x1.1.node.Text, .str x1.1.raw, .sl 2 (List.map Ad x1.1.in_.binds) 0]) 3 ok rfl hb0_0 (fun ok => ?_)
 refine HS ?_
 refine IL (Kv (e := x12.2) (j := 2) ok rfl hq0 hF fun x15 he16 hF => ?_) (.k .nil)
 obtain ⟨t17, xs18, rfl, hx19⟩ := Gz hx14 he16
 have zt20 := (BN.1 zs7).1
 have zs21 := (BN.1 zs7).2
 have hp22 := IP HT hx19
 have hck : cK (x15.1, t17) = [.int .i64 x15.1.node.Kind, .str x15.1.node.Name.URI, .str x15.1.node.Name.Local, .sl 3 (List.map Aa x15.1.node.Attrs) 0, As 6 t17 x15.1.node.Kids, .str x15.1.node.Text, .str x15.1.raw, .sl 2 (List.map Ad x15.1.in_.binds) 0] := rfl
 rw [B8, Dl, List.cons_append, hck] at ok
 rw [B8, Dl, List.cons_append, hck]
 clear hck
 refine W3 ?_
 refine GQ ?_
 refine Sa (mdl [(33, 1)]) [0, 1, 2, 3, 4, 5, 6, 7, 8, 9, 11, 12, 13] [10, 14] [14, 10] [_, _, _, _, _, _, _, _, _, _, _, _, _] [_, _] [_, _] (by kernel_rfl) rfl rfl rfl rfl (by kernel_rfl) ?_
 refine Lw ?_
 refine Tc ?_
 refine I4 (j := 3) (f0 := 4) ok rfl rfl rfl hb0_0 (by omega) (B6 (v := As 6 t17 x15.1.node.Kids) Dq BR rfl) ?_
 refine Ds (j := 1) ok rfl rfl rfl hi10 (Bm (vs := Ai x1.1.node) DE AK rfl (Ae x1.1.node).symm) ?_
 refine Jp zt20 rfl CE ?_
 refine Fk (cs := [.int .i64 (0 : Int), .str ([] : List UInt8), .str ([] : List UInt8), .snil, .snil, .str ([] : List UInt8)]) (es := [[.int .i64 (0 : Int), .str ([] : List UInt8), .str ([] : List UInt8), .snil, .snil, .str ([] : List UInt8)]]) rfl KX rfl (by kernel_rfl) rfl ?_
 refine Xa (c := Ai) (e := x15.1.node.Kids) (zs := [.int .i64 (0 : Int), .str ([] : List UInt8), .str ([] : List UInt8), .snil, .snil, .str ([] : List UInt8)]) (z0 := (⟨(0 : Int), (⟨([] : List UInt8), ([] : List UInt8)⟩ : Am), ([] : List Ab), ([] : List Ac), ([] : List UInt8)⟩ : Ac)) (j := 5) ok zt20 rfl rfl rfl rfl B3 rfl KX RC hF ?_
 intro u23 hu23 ok hF
 refine ZP (e := x15.1.node.Kids) rfl rfl CE AK ?_
 refine GH ?_
 refine Tc ?_
 refine AV ?_
 refine ⟨?_, ?_⟩
 ·refine T3 (c := Ai) (e := x15.1.node.Kids) (b := x1.1.node) (zs := [.int .i64 (0 : Int), .str ([] : List UInt8), .str ([] : List UInt8), .snil, .snil, .str ([] : List UInt8)]) (j := 5) ok rfl rfl rfl hu23 B3 rfl rfl AK rfl (fun ok => ?_)
  obtain ⟨a25, ha25, hF⟩ := DQ hF
  rw [← ha25] at ok
  rw [← ha25]
  have hml : .msl 6 u23 0 (List.length x15.1.node.Kids + 1) = As 6 u23 a25 := by rw [EO hu23, ha25, List.length_append]; rfl
  try rw [hml] at ok
  try rw [hml]
  clear hml
  refine Yp (j := 3) (f0 := 4) (cs' := [.int .i64 x15.1.node.Kind, .str x15.1.node.Name.URI, .str x15.1.node.Name.Local, .sl 3 (List.map Aa x15.1.node.Attrs) 0, As 6 u23 a25, .str x15.1.node.Text, .str x15.1.raw, .sl 2 (List.map Ad x15.1.in_.binds) 0]) ok rfl rfl rfl hb0_0 (by omega) BR rfl rfl (fun ok => ?_)
  refine AV ?_
  refine P2 ?_
  refine Lw ?_
  refine Us ?_
  refine dK ?_
  refine CZ ?_
  refine BH 7 50 hF (fun J27 hb26 hF => ?_) (fun J27 hb26 hF => ?_) (fun v28 hF => ?_)
  ·refine Tf ?_
   exact tw
  ·refine Tq ?_
   refine QX ?_
   refine A2 ?_
   refine Xj ?_
   refine A2 ?_
   refine HL (e := x12.2) rfl EL ?_
   refine Yw ?_
   refine Hy ?_
   exact tw
  ·refine GH ?_
   refine Us ?_
   refine Ck (j := 2) (cs' := [.msl 8 b0_0 0 (List.length x12.2), .int .i64 p0.nodes, .bool v28]) ok rfl rfl rfl hq0 rfl KM rfl rfl (fun ok => ?_)
   refine AV ?_
   have hck : cK ((⟨(⟨x15.1.node.Kind, x15.1.node.Name, x15.1.node.Attrs, a25, x15.1.node.Text⟩ : Ac), x15.1.raw, x15.1.in_⟩ : Af), u23) = [.int .i64 x15.1.node.Kind, .str x15.1.node.Name.URI, .str x15.1.node.Name.Local, .sl 3 (List.map Aa x15.1.node.Attrs) 0, As 6 u23 a25, .str x15.1.node.Text, .str x15.1.raw, .sl 2 (List.map Ad x15.1.in_.binds) 0] := rfl
   rw [← hck, ← B8 (c := cK)] at ok
   rw [← hck, ← B8 (c := cK)]
   clear hck
   have hx29 : List.map Prod.fst (((⟨(⟨x15.1.node.Kind, x15.1.node.Name, x15.1.node.Attrs, a25, x15.1.node.Text⟩ : Ac), x15.1.raw, x15.1.in_⟩ : Af), u23) :: xs18) = ((⟨(⟨x15.1.node.Kind, x15.1.node.Name, x15.1.node.Attrs, a25, x15.1.node.Text⟩ : Ac), x15.1.raw, x15.1.in_⟩ : Af) :: x15.2) := by rw [List.map_cons, hx19]
   have zs30 : zkR (((⟨(⟨x15.1.node.Kind, x15.1.node.Name, x15.1.node.Attrs, a25, x15.1.node.Text⟩ : Ac), x15.1.raw, x15.1.in_⟩ : Af), u23) :: xs18) := BN.2 ⟨(fun h => absurd h hu23), zs21⟩
   have hle31 : List.length x12.2 = List.length ((⟨(⟨x15.1.node.Kind, x15.1.node.Name, x15.1.node.Attrs, a25, x15.1.node.Text⟩ : Ac), x15.1.raw, x15.1.in_⟩ : Af) :: x15.2) := by rw [he16]; rfl
   try rw [hle31] at ok
   try rw [hle31]
   refine xr ?_
   refine Is (fn := Tryz.f52) rfl .nil ?_
   exact ⟨_, _, (.refl _), hy ok, _, Aj hF, rfl, b0_0, (((⟨(⟨x15.1.node.Kind, x15.1.node.Name, x15.1.node.Attrs, a25, x15.1.node.Text⟩ : Ac), x15.1.raw, x15.1.in_⟩ : Af), u23) :: xs18), hb0_0, hx29, zs30, oy ok, rfl⟩
 ·refine T1 (j := 3) (f0 := 4) (cs' := [.int .i64 x15.1.node.Kind, .str x15.1.node.Name.URI, .str x15.1.node.Name.Local, .sl 3 (List.map Aa x15.1.node.Attrs) 0, .msl 6 u23 0 (List.length x15.1.node.Kids + 1), .str x15.1.node.Text, .str x15.1.raw, .sl 2 (List.map Ad x15.1.in_.binds) 0]) ok rfl rfl rfl hb0_0 (by omega) rfl BR rfl rfl (fun ok => ?_)
  refine T3 (c := Ai) (e := x15.1.node.Kids) (b := x1.1.node) (zs := [.int .i64 (0 : Int), .str ([] : List UInt8), .str ([] : List UInt8), .snil, .snil, .str ([] : List UInt8)]) (j := 5) ok rfl rfl rfl hu23 B3 rfl rfl AK rfl (fun ok => ?_)
  obtain ⟨a32, ha32, hF⟩ := DQ hF
  rw [← ha32] at ok
  rw [← ha32]
  have hml : .msl 6 u23 0 (List.length x15.1.node.Kids + 1) = As 6 u23 a32 := by rw [EO hu23, ha32, List.length_append]; rfl
  try rw [hml] at ok
  try rw [hml]
  clear hml
  refine AV ?_
  refine P2 ?_
  refine Lw ?_
  refine Us ?_
  refine dK ?_
  refine CZ ?_
  refine BH 7 50 hF (fun J34 hb33 hF => ?_) (fun J34 hb33 hF => ?_) (fun v35 hF => ?_)
  ·refine Tf ?_
   exact tw
  ·refine Tq ?_
   refine QX ?_
   refine A2 ?_
   refine Xj ?_
   refine A2 ?_
   refine HL (e := x12.2) rfl EL ?_
   refine Yw ?_
   refine Hy ?_
   exact tw
  ·refine GH ?_
   refine Us ?_
   refine Ck (j := 2) (cs' := [.msl 8 b0_0 0 (List.length x12.2), .int .i64 p0.nodes, .bool v35]) ok rfl rfl rfl hq0 rfl KM rfl rfl (fun ok => ?_)
   refine AV ?_
   have hck : cK ((⟨(⟨x15.1.node.Kind, x15.1.node.Name, x15.1.node.Attrs, a32, x15.1.node.Text⟩ : Ac), x15.1.raw, x15.1.in_⟩ : Af), u23) = [.int .i64 x15.1.node.Kind, .str x15.1.node.Name.URI, .str x15.1.node.Name.Local, .sl 3 (List.map Aa x15.1.node.Attrs) 0, As 6 u23 a32, .str x15.1.node.Text, .str x15.1.raw, .sl 2 (List.map Ad x15.1.in_.binds) 0] := rfl
   rw [← hck, ← B8 (c := cK)] at ok
   rw [← hck, ← B8 (c := cK)]
   clear hck
   have hx36 : List.map Prod.fst (((⟨(⟨x15.1.node.Kind, x15.1.node.Name, x15.1.node.Attrs, a32, x15.1.node.Text⟩ : Ac), x15.1.raw, x15.1.in_⟩ : Af), u23) :: xs18) = ((⟨(⟨x15.1.node.Kind, x15.1.node.Name, x15.1.node.Attrs, a32, x15.1.node.Text⟩ : Ac), x15.1.raw, x15.1.in_⟩ : Af) :: x15.2) := by rw [List.map_cons, hx19]
   have zs37 : zkR (((⟨(⟨x15.1.node.Kind, x15.1.node.Name, x15.1.node.Attrs, a32, x15.1.node.Text⟩ : Ac), x15.1.raw, x15.1.in_⟩ : Af), u23) :: xs18) := BN.2 ⟨(fun h => absurd h hu23), zs21⟩
   have hle38 : List.length x12.2 = List.length ((⟨(⟨x15.1.node.Kind, x15.1.node.Name, x15.1.node.Attrs, a32, x15.1.node.Text⟩ : Ac), x15.1.raw, x15.1.in_⟩ : Af) :: x15.2) := by rw [he16]; rfl
   try rw [hle38] at ok
   try rw [hle38]
   refine xr ?_
   refine Is (fn := Tryz.f52) rfl .nil ?_
   exact ⟨_, _, (.refl _), hy ok, _, Aj hF, rfl, b0_0, (((⟨(⟨x15.1.node.Kind, x15.1.node.Name, x15.1.node.Attrs, a32, x15.1.node.Text⟩ : Ac), x15.1.raw, x15.1.in_⟩ : Af), u23) :: xs18), hb0_0, hx36, zs37, oy ok, rfl⟩
theorem I7 (p0 : AD) (p1 : TK) (q0 : Nat) (b0_0 : Nat) (x0 : List (Af × Nat)) {G : Int × AD → Prop} (h : Heap) (O : List (Nat × AObj)) (hq0 : q0 ≠ 0) (hb0_0 : b0_0 ≠ 0) (hx0 : List.map Prod.fst x0 = p0.open_) (zk0 : zkR x0) (ok : OK h ((q0, .cells [.msl 8 b0_0 0 (List.length p0.open_), .int .i64 p0.nodes, .bool p0.done]) :: (b0_0, .cells (fl cK (List.reverse x0))) :: (EJ x0 ++ O))) (hF : Ap (Au p0 p1) G) : CallsA Tryz.prog 24 [.ptr q0 0, .agg (cTK p1)] (Hp h ((q0, .cells [.msl 8 b0_0 0 (List.length p0.open_), .int .i64 p0.nodes, .bool p0.done]) :: (b0_0, .cells (fl cK (List.reverse x0))) :: (EJ x0 ++ O))) fun d h' => ∃ r, G r ∧ d = .int .i64 r.1 ∧ ∃ (b0_0' : Nat) (x0' : List (Af × Nat)), b0_0' ≠ 0 ∧ List.map Prod.fst x0' = r.2.open_ ∧ zkR x0' ∧ OK h ((q0, .cells [.msl 8 b0_0' 0 (List.length r.2.open_), .int .i64 r.2.nodes, .bool r.2.done]) :: (b0_0', .cells (fl cK (List.reverse x0'))) :: (EJ x0' ++ O)) ∧ h' = Hp h ((q0, .cells [.msl 8 b0_0' 0 (List.length r.2.open_), .int .i64 r.2.nodes, .bool r.2.done]) :: (b0_0', .cells (fl cK (List.reverse x0'))) :: (EJ x0' ++ O)) := by
 refine CallsA.ret ?_
 refine CB Tryz.func24 rfl dD Tryz.ntmps24 rfl ?_
 rw [Au] at hF
 refine Bz ?_
 refine FC rfl rfl rfl rfl ?_
 refine EV ?_
 refine Gd ?_
 refine DS ?_
 refine Bz ?_
 refine C9 rfl Kj Bb rfl ?_
 refine Y5 ?_
 refine VS ?_
 refine Vq ?_
 refine Az rfl hF (fun hb1 hF => ?_) fun hb1 hF => ?_
 ·refine P2 ?_
  refine Vf ?_
  refine Hx ?_
  refine CS (v := .agg [.int .i64 (4 : Int), .str ([] : List UInt8), .str ([] : List UInt8), .snil, .snil, .str p1.Text]) (Ek Dh FY rfl) ?_
  refine Ed 13 (v := .agg (Ai (⟨(4 : Int), (⟨([] : List UInt8), ([] : List UInt8)⟩ : Am), ([] : List Ab), ([] : List Ac), p1.Text⟩ : Ac))) (Wd.toE (.aggC (.cons (.refl _) (.cons (.refl _) (.cons (.refl _) (.cons (.nil _) (.cons (.nil _) (.refl _))))))) (Ae _)) ?_
  obtain ⟨hpe, ok⟩ := A6 1 ok rfl
  rw [hpe]; clear hpe
  obtain ⟨hpe, ok⟩ := A6 1 ok rfl
  rw [hpe]; clear hpe
  refine cl (okT (fun _ hF => E5 _ (p0 := p0) (q0 := q0) (b0_0 := b0_0) (x0 := x0) h O hq0 hb0_0 hx0 zk0 ok hF) hF fun x2 _ _ _ hq hF => ?_)
  obtain ⟨rfl, u3, x4, hu3, hxu3, zku3, ok, rfl⟩ := hq
  refine Km ?_
  refine Ib ?_
  refine BH 6 73 hF (fun J6 hb5 hF => ?_) (fun J6 hb5 hF => ?_) (fun v7 hF => ?_)
  ·refine Qu ?_
   exact tw
  ·refine Mj ?_
   exact tw
  ·refine AV ?_
   refine Az rfl hF (fun hb8 hF => ?_) fun hb8 hF => ?_
   ·refine Eg ?_
    refine rr ?_
    exact ⟨_, _, (.refl _), hy ok, _, Aj hF, rfl, u3, x4, hu3, hxu3, zku3, oy ok, rfl⟩
   ·refine PA ?_
    refine rr ?_
    exact ⟨_, _, (.refl _), hy ok, _, Aj hF, rfl, u3, x4, hu3, hxu3, zku3, oy ok, rfl⟩
 ·refine Vq ?_
  refine Az rfl hF (fun hb9 hF => ?_) fun hb9 hF => ?_
  ·refine P2 ?_
   refine Zi ?_
   refine Hx ?_
   refine CS (v := .agg (Cb (⟨([] : List UInt8), p1.Name⟩ : Am))) (Ek F2 In rfl) ?_
   refine Vf ?_
   refine Hx ?_
   refine CS (v := .agg [.int .i64 (5 : Int), .str (⟨([] : List UInt8), p1.Name⟩ : Am).URI, .str (⟨([] : List UInt8), p1.Name⟩ : Am).Local, .snil, .snil, .str p1.Text]) (Ek Dh FY rfl) ?_
   refine Ed 23 (v := .agg (Ai (⟨(5 : Int), (⟨([] : List UInt8), p1.Name⟩ : Am), ([] : List Ab), ([] : List Ac), p1.Text⟩ : Ac))) (Wd.toE (.aggC (.cons (.refl _) (.cons (.refl _) (.cons (.refl _) (.cons (.nil _) (.cons (.nil _) (.refl _))))))) (Ae _)) ?_
   obtain ⟨hpe, ok⟩ := A6 1 ok rfl
   rw [hpe]; clear hpe
   obtain ⟨hpe, ok⟩ := A6 1 ok rfl
   rw [hpe]; clear hpe
   refine cl (okT (fun _ hF => E5 _ (p0 := p0) (q0 := q0) (b0_0 := b0_0) (x0 := x0) h O hq0 hb0_0 hx0 zk0 ok hF) hF fun x10 _ _ _ hq hF => ?_)
   obtain ⟨rfl, u11, x12, hu11, hxu11, zku11, ok, rfl⟩ := hq
   refine Km ?_
   refine Ib ?_
   refine BH 6 73 hF (fun J14 hb13 hF => ?_) (fun J14 hb13 hF => ?_) (fun v15 hF => ?_)
   ·refine Qu ?_
    exact tw
   ·refine Mj ?_
    exact tw
   ·refine AV ?_
    refine Az rfl hF (fun hb16 hF => ?_) fun hb16 hF => ?_
    ·refine Eg ?_
     refine rr ?_
     exact ⟨_, _, (.refl _), hy ok, _, Aj hF, rfl, u11, x12, hu11, hxu11, zku11, oy ok, rfl⟩
    ·refine PA ?_
     refine rr ?_
     exact ⟨_, _, (.refl _), hy ok, _, Aj hF, rfl, u11, x12, hu11, hxu11, zku11, oy ok, rfl⟩
  ·refine DS ?_
   refine Vq ?_
   refine Az rfl hF (fun hb17 hF => ?_) fun hb17 hF => ?_
   ·refine Co ?_
    refine Wm rfl hb17 ?_
    refine P2 ?_
    refine Cs rfl (Bm (vs := cTK p1) Hb Fr rfl rfl) ?_
    obtain ⟨hpe, ok⟩ := A6 1 ok rfl
    rw [hpe]; clear hpe
    obtain ⟨hpe, ok⟩ := A6 1 ok rfl
    rw [hpe]; clear hpe
    refine cl (okT (fun _ hF => Ge _ (p0 := p0) (q0 := q0) (b0_0 := b0_0) (x0 := x0) h O hq0 hb0_0 hx0 zk0 ok hF) hF fun x18 _ _ _ hq hF => ?_)
    obtain ⟨rfl, u19, x20, hu19, hxu19, zku19, ok, rfl⟩ := hq
    refine Km ?_
    refine Ib ?_
    refine BH 6 73 hF (fun J22 hb21 hF => ?_) (fun J22 hb21 hF => ?_) (fun v23 hF => ?_)
    ·refine Qu ?_
     exact tw
    ·refine Mj ?_
     exact tw
    ·refine AV ?_
     refine Az rfl hF (fun hb24 hF => ?_) fun hb24 hF => ?_
     ·refine Eg ?_
      refine rr ?_
      exact ⟨_, _, (.refl _), hy ok, _, Aj hF, rfl, u19, x20, hu19, hxu19, zku19, oy ok, rfl⟩
     ·refine PA ?_
      refine rr ?_
      exact ⟨_, _, (.refl _), hy ok, _, Aj hF, rfl, u19, x20, hu19, hxu19, zku19, oy ok, rfl⟩
   ·refine IK ?_
    refine YQ ?_
    refine Az rfl hF (fun hb25 hF => ?_) fun hb25 hF => ?_
    ·refine P2 ?_
     refine Cs rfl (Bm (vs := cTK p1) Hb Fr rfl rfl) ?_
     obtain ⟨hpe, ok⟩ := A6 1 ok rfl
     rw [hpe]; clear hpe
     obtain ⟨hpe, ok⟩ := A6 1 ok rfl
     rw [hpe]; clear hpe
     refine cl (okT (fun _ hF => Ge _ (p0 := p0) (q0 := q0) (b0_0 := b0_0) (x0 := x0) h O hq0 hb0_0 hx0 zk0 ok hF) hF fun x26 _ _ _ hq hF => ?_)
     obtain ⟨rfl, u27, x28, hu27, hxu27, zku27, ok, rfl⟩ := hq
     refine Km ?_
     refine Ib ?_
     refine BH 6 73 hF (fun J30 hb29 hF => ?_) (fun J30 hb29 hF => ?_) (fun v31 hF => ?_)
     ·refine Qu ?_
      exact tw
     ·refine Mj ?_
      exact tw
     ·refine AV ?_
      refine Az rfl hF (fun hb32 hF => ?_) fun hb32 hF => ?_
      ·refine Eg ?_
       refine rr ?_
       exact ⟨_, _, (.refl _), hy ok, _, Aj hF, rfl, u27, x28, hu27, hxu27, zku27, oy ok, rfl⟩
      ·refine PA ?_
       refine rr ?_
       exact ⟨_, _, (.refl _), hy ok, _, Aj hF, rfl, u27, x28, hu27, hxu27, zku27, oy ok, rfl⟩
    ·refine Vq ?_
     refine Az rfl hF (fun hb33 hF => ?_) fun hb33 hF => ?_
     ·refine P2 ?_
      refine Cs rfl (Bm (vs := cTK p1) Hb Fr rfl rfl) ?_
      obtain ⟨hpe, ok⟩ := A6 1 ok rfl
      rw [hpe]; clear hpe
      obtain ⟨hpe, ok⟩ := A6 1 ok rfl
      rw [hpe]; clear hpe
      refine cl (okT (fun _ hF => FX _ (p0 := p0) (q0 := q0) (b0_0 := b0_0) (x0 := x0) h O hq0 hb0_0 hx0 zk0 ok hF) hF fun x34 _ _ _ hq hF => ?_)
      obtain ⟨rfl, u35, x36, hu35, hxu35, zku35, ok, rfl⟩ := hq
      refine Km ?_
      refine Ib ?_
      refine BH 6 73 hF (fun J38 hb37 hF => ?_) (fun J38 hb37 hF => ?_) (fun v39 hF => ?_)
      ·refine Qu ?_
       exact tw
      ·refine Mj ?_
       exact tw
      ·refine AV ?_
       refine Az rfl hF (fun hb40 hF => ?_) fun hb40 hF => ?_
       ·refine Eg ?_
        refine rr ?_
        exact ⟨_, _, (.refl _), hy ok, _, Aj hF, rfl, u35, x36, hu35, hxu35, zku35, oy ok, rfl⟩
       ·refine PA ?_
        refine rr ?_
        exact ⟨_, _, (.refl _), hy ok, _, Aj hF, rfl, u35, x36, hu35, hxu35, zku35, oy ok, rfl⟩
     ·refine Vq ?_
      refine Az rfl hF (fun hb41 hF => ?_) fun hb41 hF => ?_
      ·refine FW ?_
       refine Cs rfl (Bm (vs := cTK p1) Hb Fr rfl rfl) ?_
       obtain ⟨hpe, ok⟩ := A6 1 ok rfl
       rw [hpe]; clear hpe
       obtain ⟨hpe, ok⟩ := A6 1 ok rfl
       rw [hpe]; clear hpe
       refine cl (okT (fun _ hF => FX _ (p0 := p0) (q0 := q0) (b0_0 := b0_0) (x0 := x0) h O hq0 hb0_0 hx0 zk0 ok hF) hF fun x42 _ _ _ hq hF => ?_)
       obtain ⟨rfl, u43, x44, hu43, hxu43, zku43, ok, rfl⟩ := hq
       refine Yb ?_
       refine Mn ?_
       refine Az rfl hF (fun hb45 hF => ?_) fun hb45 hF => ?_
       ·refine P2 ?_
        obtain ⟨hpe, ok⟩ := A6 1 ok rfl
        rw [hpe]; clear hpe
        obtain ⟨hpe, ok⟩ := A6 1 ok rfl
        rw [hpe]; clear hpe
        refine cl (okT (fun _ hF => FR (p0 := x42.2) (q0 := q0) (b0_0 := u43) (x0 := x44) h O hq0 hu43 hxu43 zku43 ok hF) hF fun x46 _ _ _ hq hF => ?_)
        obtain ⟨rfl, u47, x48, hu47, hxu47, zku47, ok, rfl⟩ := hq
        refine AV ?_
        refine Iq ?_
        refine Ib ?_
        refine Qu ?_
        refine Az rfl hF (fun hb49 hF => ?_) fun hb49 hF => ?_
        ·refine Eg ?_
         refine rr ?_
         exact ⟨_, _, (.refl _), hy ok, _, Aj hF, rfl, u47, x48, hu47, hxu47, zku47, oy ok, rfl⟩
        ·refine PA ?_
         refine rr ?_
         exact ⟨_, _, (.refl _), hy ok, _, Aj hF, rfl, u47, x48, hu47, hxu47, zku47, oy ok, rfl⟩
       ·refine Co ?_
        refine Iq ?_
        refine Ib ?_
        refine Mj ?_
        refine V7 rfl rfl ?_
        refine PA ?_
        refine rr ?_
        exact ⟨_, _, (.refl _), hy ok, _, Aj hF, rfl, u43, x44, hu43, hxu43, zku43, oy ok, rfl⟩
      ·refine Vq ?_
       refine Az rfl hF (fun hb50 hF => ?_) fun hb50 hF => ?_
       ·refine DS ?_
        refine DS ?_
        refine Xl (mdl [(60, 3)]) [0, 1, 2, 3, 4, 5, 6, 7, 12, 13, 8, 9, 10, 11, 14, 15] [_, _, _, _, _, _, _, _, _, _, _, _, _, _, _, _] (by kernel_rfl) rfl rfl (by kernel_rfl) ?_
        refine Lw ?_
        refine Uq ?_
        refine HL (e := p0.open_) rfl EL ?_
        refine Ib ?_
        refine bm (b := ((p0.open_.length : Int) == (1 : Int))) hF (fun hb51 hF => ?_) (fun hb52 hF => ?_)
        ·refine FA ?_
         refine Sk ?_
         refine Wm rfl rfl ?_
         refine Eg ?_
         refine rr ?_
         exact ⟨_, _, (.refl _), hy ok, _, Aj hF, rfl, b0_0, x0, hb0_0, hx0, zk0, oy ok, rfl⟩
        ·refine WK ?_
         refine Zi ?_
         refine A2 ?_
         refine Hx ?_
         refine A2 ?_
         refine IL (Kv (e := p0.open_) (j := 0) ok rfl hq0 hF fun x53 he54 hF => ?_) (.k .nil)
         refine AV ?_
         obtain ⟨t55, xs56, rfl, hx57⟩ := Gz hx0 he54
         have zt58 := (BN.1 zk0).1
         have zs59 := (BN.1 zk0).2
         have hp60 := IP HT hx57
         have hck : cK (x53.1, t55) = [.int .i64 x53.1.node.Kind, .str x53.1.node.Name.URI, .str x53.1.node.Name.Local, .sl 3 (List.map Aa x53.1.node.Attrs) 0, As 6 t55 x53.1.node.Kids, .str x53.1.node.Text, .str x53.1.raw, .sl 2 (List.map Ad x53.1.in_.binds) 0] := rfl
         rw [B8, Dl, List.cons_append, hck] at ok
         rw [B8, Dl, List.cons_append, hck]
         clear hck
         refine Hs ?_
         refine ZW ?_
         refine DA rfl Se AO ?_
         refine A2 ?_
         refine I4 (j := 1) (f0 := 6) ok rfl rfl rfl hb0_0 (by omega) (B6 (v := .str x53.1.raw) Dg AO rfl) ?_
         refine A2 ?_
         refine UK ?_
         refine Az rfl hF (fun hb61 hF => ?_) fun hb61 hF => ?_
         ·refine Eg ?_
          have hck : cK (x53.1, t55) = [.int .i64 x53.1.node.Kind, .str x53.1.node.Name.URI, .str x53.1.node.Name.Local, .sl 3 (List.map Aa x53.1.node.Attrs) 0, As 6 t55 x53.1.node.Kids, .str x53.1.node.Text, .str x53.1.raw, .sl 2 (List.map Ad x53.1.in_.binds) 0] := rfl
          rw [← hck, ← B8 (c := cK)] at ok
          rw [← hck, ← B8 (c := cK)]
          clear hck
          have hx62 : List.map Prod.fst ((x53.1, t55) :: xs56) = p0.open_ := by rw [List.map_cons, hx57, he54]
          have zs63 : zkR ((x53.1, t55) :: xs56) := BN.2 ⟨zt58, zs59⟩
          refine rr ?_
          exact ⟨_, _, (.refl _), hy ok, _, Aj hF, rfl, b0_0, ((x53.1, t55) :: xs56), hb0_0, hx62, zs63, oy ok, rfl⟩
         ·refine Co ?_
          refine P2 ?_
          have hck : cK (x53.1, t55) = [.int .i64 x53.1.node.Kind, .str x53.1.node.Name.URI, .str x53.1.node.Name.Local, .sl 3 (List.map Aa x53.1.node.Attrs) 0, As 6 t55 x53.1.node.Kids, .str x53.1.node.Text, .str x53.1.raw, .sl 2 (List.map Ad x53.1.in_.binds) 0] := rfl
          rw [← hck, ← B8 (c := cK)] at ok
          rw [← hck, ← B8 (c := cK)]
          clear hck
          have hx64 : List.map Prod.fst ((x53.1, t55) :: xs56) = p0.open_ := by rw [List.map_cons, hx57, he54]
          have zs65 : zkR ((x53.1, t55) :: xs56) := BN.2 ⟨zt58, zs59⟩
          obtain ⟨hpe, ok⟩ := A6 1 ok rfl
          rw [hpe]; clear hpe
          obtain ⟨hpe, ok⟩ := A6 1 ok rfl
          rw [hpe]; clear hpe
          refine cl (okT (fun _ hF => FR (p0 := p0) (q0 := q0) (b0_0 := b0_0) (x0 := ((x53.1, t55) :: xs56)) h O hq0 hb0_0 hx64 zs65 ok hF) hF fun x66 _ _ _ hq hF => ?_)
          obtain ⟨rfl, u67, x68, hu67, hxu67, zku67, ok, rfl⟩ := hq
          refine AV ?_
          refine Iq ?_
          refine Ib ?_
          refine BH 6 73 hF (fun J70 hb69 hF => ?_) (fun J70 hb69 hF => ?_) (fun v71 hF => ?_)
          ·refine Qu ?_
           exact tw
          ·refine Mj ?_
           exact tw
          ·refine AV ?_
           refine Az rfl hF (fun hb72 hF => ?_) fun hb72 hF => ?_
           ·refine Eg ?_
            refine rr ?_
            exact ⟨_, _, (.refl _), hy ok, _, Aj hF, rfl, u67, x68, hu67, hxu67, zku67, oy ok, rfl⟩
           ·refine PA ?_
            refine rr ?_
            exact ⟨_, _, (.refl _), hy ok, _, Aj hF, rfl, u67, x68, hu67, hxu67, zku67, oy ok, rfl⟩
       ·refine Co ?_
        refine Iq ?_
        refine Ib ?_
        refine BH 6 73 hF (fun J74 hb73 hF => ?_) (fun J74 hb73 hF => ?_) (fun v75 hF => ?_)
        ·refine Qu ?_
         exact tw
        ·refine Mj ?_
         exact tw
        ·refine AV ?_
         refine Az rfl hF (fun hb76 hF => ?_) fun hb76 hF => ?_
         ·refine Eg ?_
          refine rr ?_
          exact ⟨_, _, (.refl _), hy ok, _, Aj hF, rfl, b0_0, x0, hb0_0, hx0, zk0, oy ok, rfl⟩
         ·refine PA ?_
          refine rr ?_
          exact ⟨_, _, (.refl _), hy ok, _, Aj hF, rfl, b0_0, x0, hb0_0, hx0, zk0, oy ok, rfl⟩
theorem DO (p0 : List UInt8) {G : Ac × Int × Int → Prop} (h : Heap) (hF : Ap (A5 p0) G) : CallsA Tryz.prog 11 [.sl 1 (List.map AH p0) 0] h fun d h' => ∃ r, G r ∧ d = .tup [.agg (Ai r.1), .int .i64 r.2.1, .int .i64 r.2.2] ∧ h' = h := by
 refine CallsA.ret ?_
 refine B2 Tryz.func11 rfl cn Tryz.ntmps11 rfl (fun ok => ?_)
 rw [A5] at hF
 refine DS ?_
 refine CF (mdl [(2, 1)]) ?_
 refine C8 ok rfl Dh ?_
 intro i1 hi1 ok
 refine HX ?_
 refine Gm ?_
 refine cl (A4 (fun _ h hF => PW _ h hF) _ hF fun x2 _ hF => ?_)
 refine Lx ?_
 refine SF ?_
 refine RN ?_
 refine Mq ?_
 refine Az rfl hF (fun hb3 hF => ?_) fun hb3 hF => ?_
 ·refine Bz ?_
  refine CS (v := .agg [.int .i64 (0 : Int), .str ([] : List UInt8), .str ([] : List UInt8), .snil, .snil, .str ([] : List UInt8)]) (Ek Dh FY rfl) ?_
  refine Ed 20 (v := .agg [.int .i64 (0 : Int), .str ([] : List UInt8), .str ([] : List UInt8), .sl 3 (List.map Aa ([] : List Ab)) 0, .snil, .str ([] : List UInt8)]) (.aggC (.cons (.refl _) (.cons (.refl _) (.cons (.refl _) (.cons (.nil _) (.refl _)))))) ?_
  refine Eb ?_
  refine Eb ?_
  refine Ck (j := 0) (cs' := [.int .i64 (0 : Int), .str ([] : List UInt8), .str ([] : List UInt8), .sl 3 (List.map Aa ([] : List Ab)) 0, .snil, .str ([] : List UInt8)]) ok rfl rfl rfl hi1 rfl AK rfl rfl (fun ok => ?_)
  refine H3 ?_
  refine xr ?_
  refine Fs (fn := Tryz.f11) rfl (.cell rfl (Ga (j := 0) ok rfl hi1 (Bm (vs := [.int .i64 (0 : Int), .str ([] : List UInt8), .str ([] : List UInt8), .sl 3 (List.map Aa ([] : List Ab)) 0, .snil, .str ([] : List UInt8)]) DE AK rfl rfl)) (.tmp (v := .int .i64 x2.2.1) rfl (.tmp (v := .int .i64 x2.2.2) rfl .nil))) ?_
  exact ⟨_, _, (.tupC (.cons (Wd.toE (.aggC (.cons (.refl _) (.cons (.refl _) (.cons (.refl _) (.cons (.refl _) (.cons (.nil _) (.refl _))))))) (Ae _)) (.refl _))), ok.wh, _, Aj hF, rfl, rfl⟩
 ·refine GI ?_
  refine CF (mdl [(26, 1), (28, 1)]) ?_
  refine CS (v := .agg [.int .i64 (1 : Int), .str ([] : List UInt8), .str ([] : List UInt8), .snil, .snil, .str ([] : List UInt8)]) (Ek Dh FY rfl) ?_
  refine Ed 23 (v := .agg [.int .i64 (1 : Int), .str ([] : List UInt8), .str ([] : List UInt8), .sl 3 (List.map Aa ([] : List Ab)) 0, .snil, .str ([] : List UInt8)]) (.aggC (.cons (.refl _) (.cons (.refl _) (.cons (.refl _) (.cons (.nil _) (.refl _)))))) ?_
  refine cl (A4 (fun _ h hF => Og h hF) _ hF fun x4 _ hF => ?_)
  refine CS (v := .agg [.int .i64 (1 : Int), .str ([] : List UInt8), .str ([] : List UInt8), .sl 3 (List.map Aa ([] : List Ab)) 0, .snil, .str ([] : List UInt8), .str ([] : List UInt8), .sl 2 (List.map Ad x4.binds) 0]) (Ek QL QH rfl) ?_
  refine Yc (cs := [.int .i64 (1 : Int), .str ([] : List UInt8), .str ([] : List UInt8), .sl 3 (List.map Aa ([] : List Ab)) 0, .snil, .str ([] : List UInt8), .str ([] : List UInt8), .sl 2 (List.map Ad x4.binds) 0]) (c := cK) (e := [((⟨(⟨(1 : Int), (⟨([] : List UInt8), ([] : List UInt8)⟩ : Am), ([] : List Ab), ([] : List Ac), ([] : List UInt8)⟩ : Ac), ([] : List UInt8), x4⟩ : Af), 0)]) ok rfl NO rfl (by kernel_rfl) rfl ?_
  intro u5 hu5 ok
  obtain ⟨hpe, ok⟩ := Ze ok
  refine TH hpe ?_
  clear hpe
  have hx6 : List.map Prod.fst (((⟨(⟨(1 : Int), (⟨([] : List UInt8), ([] : List UInt8)⟩ : Am), ([] : List Ab), ([] : List Ac), ([] : List UInt8)⟩ : Ac), ([] : List UInt8), x4⟩ : Af), 0) :: []) = [(⟨(⟨(1 : Int), (⟨([] : List UInt8), ([] : List UInt8)⟩ : Am), ([] : List Ab), ([] : List Ac), ([] : List UInt8)⟩ : Ac), ([] : List UInt8), x4⟩ : Af)] := rfl
  have zs7 : zkR (((⟨(⟨(1 : Int), (⟨([] : List UInt8), ([] : List UInt8)⟩ : Am), ([] : List Ab), ([] : List Ac), ([] : List UInt8)⟩ : Ac), ([] : List UInt8), x4⟩ : Af), 0) :: []) := BN.2 ⟨fun _ => rfl, fun _ h => absurd h List.not_mem_nil⟩
  refine CS (v := .agg [.msl 8 u5 0 (List.length ([(⟨(⟨(1 : Int), (⟨([] : List UInt8), ([] : List UInt8)⟩ : Am), ([] : List Ab), ([] : List Ac), ([] : List UInt8)⟩ : Ac), ([] : List UInt8), x4⟩ : Af)])), .int .i64 (0 : Int), .bool false]) (Ek XI Wg rfl) ?_
  refine XU (cs := [.msl 8 u5 0 (List.length ([(⟨(⟨(1 : Int), (⟨([] : List UInt8), ([] : List UInt8)⟩ : Am), ([] : List Ab), ([] : List Ac), ([] : List UInt8)⟩ : Ac), ([] : List UInt8), x4⟩ : Af)])), .int .i64 (0 : Int), .bool false]) ok rfl rfl rfl rfl ?_
  intro i8 hi8 ok
  refine W3 ?_
  refine AV ?_
  refine Bf hF (fun (v : Int × (List UInt8) × (List UInt8) × (List Ab) × (List Ac) × (List UInt8) × (List Af) × Int × Bool) s' => match v with | (a30, a31, a32, a33, a34, a35, a37, a41, a42) => ∃ g36 : Nat, g36 ≠ 0 ∧ ∃ x38 : List (Af × Nat), List.map Prod.fst x38 = a37 ∧ zkR x38 ∧ OK h ((i8, .cells [.msl 8 g36 0 (List.length a37), .int .i64 a41, .bool a42]) :: (g36, .cells (fl cK (List.reverse x38))) :: (i1, .cells [.int .i64 a30, .str a31, .str a32, .sl 3 (List.map Aa a33) 0, .sl 6 (List.map Ai a34) 0, .str a35]) :: (EJ x38 ++ [])) ∧ WS s' ⟨Ak 73 [(0, .sl 1 (List.map AH p0) 0), (2, .ptr i1 0), (8, .ptr i8 0)], Hp h ((i8, .cells [.msl 8 g36 0 (List.length a37), .int .i64 a41, .bool a42]) :: (g36, .cells (fl cK (List.reverse x38))) :: (i1, .cells [.int .i64 a30, .str a31, .str a32, .sl 3 (List.map Aa a33) 0, .sl 6 (List.map Ai a34) 0, .str a35]) :: (EJ x38 ++ []))⟩) (fun J43 hF => ?_) ?_
  ·refine Gm ?_
   refine GF rfl Rb ?_
   refine Jb ?_
   refine Cp (σ := Int × (List UInt8) × (List UInt8) × (List Ab) × (List Ac) × (List UInt8) × (List Af) × Int × Bool × Int) hF (fun (v : Int × (List UInt8) × (List UInt8) × (List Ab) × (List Ac) × (List UInt8) × (List Af) × Int × Bool × Int) s' => match v with | (a44, a45, a46, a47, a48, a49, a51, a55, a56, a57) => ∃ g50 : Nat, g50 ≠ 0 ∧ ∃ x52 : List (Af × Nat), List.map Prod.fst x52 = a51 ∧ zkR x52 ∧ OK h ((i8, .cells [.msl 8 g50 0 (List.length a51), .int .i64 a55, .bool a56]) :: (g50, .cells (fl cK (List.reverse x52))) :: (i1, .cells [.int .i64 a44, .str a45, .str a46, .sl 3 (List.map Aa a47) 0, .sl 6 (List.map Ai a48) 0, .str a49]) :: (EJ x52 ++ [])) ∧ WS s' ⟨Ak 73 [(0, .sl 1 (List.map AH p0) 0), (2, .ptr i1 0), (8, .ptr i8 0), (29, .sl 6 (List.map cTK x2.1) 0), (30, .int .i64 (x2.1.length : Int)), (31, .int .i64 a57)], Hp h ((i8, .cells [.msl 8 g50 0 (List.length a51), .int .i64 a55, .bool a56]) :: (g50, .cells (fl cK (List.reverse x52))) :: (i1, .cells [.int .i64 a44, .str a45, .str a46, .sl 3 (List.map Aa a47) 0, .sl 6 (List.map Ai a48) 0, .str a49]) :: (EJ x52 ++ []))⟩) ?_ ?_
   ·have hwo : WO ((i8, .cells [.msl 8 u5 0 (List.length ([(⟨(⟨(1 : Int), (⟨([] : List UInt8), ([] : List UInt8)⟩ : Am), ([] : List Ab), ([] : List Ac), ([] : List UInt8)⟩ : Ac), ([] : List UInt8), x4⟩ : Af)])), .int .i64 (0 : Int), .bool false]) :: (u5, .cells (fl cK (List.reverse (((⟨(⟨(1 : Int), (⟨([] : List UInt8), ([] : List UInt8)⟩ : Am), ([] : List Ab), ([] : List Ac), ([] : List UInt8)⟩ : Ac), ([] : List UInt8), x4⟩ : Af), 0) :: [])))) :: (i1, .cells [.int .i64 (0 : Int), .str ([] : List UInt8), .str ([] : List UInt8), .snil, .snil, .str ([] : List UInt8)]) :: (EJ (((⟨(⟨(1 : Int), (⟨([] : List UInt8), ([] : List UInt8)⟩ : Am), ([] : List Ab), ([] : List Ac), ([] : List UInt8)⟩ : Ac), ([] : List UInt8), x4⟩ : Af), 0) :: []) ++ [])) ((i8, .cells [.msl 8 u5 0 (List.length ([(⟨(⟨(1 : Int), (⟨([] : List UInt8), ([] : List UInt8)⟩ : Am), ([] : List Ab), ([] : List Ac), ([] : List UInt8)⟩ : Ac), ([] : List UInt8), x4⟩ : Af)])), .int .i64 (0 : Int), .bool false]) :: (u5, .cells (fl cK (List.reverse (((⟨(⟨(1 : Int), (⟨([] : List UInt8), ([] : List UInt8)⟩ : Am), ([] : List Ab), ([] : List Ac), ([] : List UInt8)⟩ : Ac), ([] : List UInt8), x4⟩ : Af), 0) :: [])))) :: (i1, .cells [.int .i64 (0 : Int), .str ([] : List UInt8), .str ([] : List UInt8), .sl 3 (List.map Aa ([] : List Ab)) 0, .sl 6 (List.map Ai ([] : List Ac)) 0, .str ([] : List UInt8)]) :: (EJ (((⟨(⟨(1 : Int), (⟨([] : List UInt8), ([] : List UInt8)⟩ : Am), ([] : List Ab), ([] : List Ac), ([] : List UInt8)⟩ : Ac), ([] : List UInt8), x4⟩ : Af), 0) :: []) ++ [])) := (.keep (.keep (.weak (.cons (.refl _) (.cons (.refl _) (.cons (.refl _) (.cons (.nil _) (.cons (.nil _) (.refl _)))))) (.refl (EJ (((⟨(⟨(1 : Int), (⟨([] : List UInt8), ([] : List UInt8)⟩ : Am), ([] : List Ab), ([] : List Ac), ([] : List UInt8)⟩ : Ac), ([] : List UInt8), x4⟩ : Af), 0) :: []) ++ [])))))
    exact ⟨u5, hu5, (((⟨(⟨(1 : Int), (⟨([] : List UInt8), ([] : List UInt8)⟩ : Am), ([] : List Ab), ([] : List Ac), ([] : List UInt8)⟩ : Ac), ([] : List UInt8), x4⟩ : Af), 0) :: []), hx6, zs7, (hwo.spec ok).1, WS.mk' (.k (.k (.k (.k (.k (.k .nil)))))) ok hwo⟩
   ·rintro G58 hG59 rec60 ⟨a44, a45, a46, a47, a48, a49, a51, a55, a56, a57⟩ s' ih61 hF ⟨g50, hg50, x52, hx53, zs54, ok, hws⟩
    refine AQ hws ?_
    clear hws s'
    rw [Du] at hF
    refine Jg ?_
    refine Az rfl hF (fun hb62 hF => ?_) fun hb62 hF => ?_
    ·refine Vt ?_
     refine CF (mdl [(10, 1)]) ?_
     refine Fz rfl rfl Rb Fr hF (fun x63 _ hF => ?_)
     refine Cs rfl (Bm (vs := cTK x63) Hb Fr rfl rfl) ?_
     refine C8 ok rfl M4 ?_
     intro i64 hi64 ok
     refine Ck (j := 0) (cs' := [.int .i64 x63.Kind, .int .i64 x63.At, .str x63.Name, .sl 2 (List.map cP x63.Pairs) 0, .str x63.Text, .int .i64 x63.Refs]) ok rfl rfl rfl hi64 rfl Fr rfl rfl (fun ok => ?_)
     refine Hw ?_
     refine Ds (j := 0) ok rfl rfl rfl hi64 (Bm (vs := cTK x63) Hb Fr rfl rfl) ?_
     obtain ⟨hpe, ok⟩ := A6 2 ok rfl
     rw [hpe]; clear hpe
     obtain ⟨hpe, ok⟩ := A6 2 ok rfl
     rw [hpe]; clear hpe
     obtain ⟨hpe, ok⟩ := MJ ok (((List.perm_append_comm_assoc [(i64, .cells [.int .i64 x63.Kind, .int .i64 x63.At, .str x63.Name, .sl 2 (List.map cP x63.Pairs) 0, .str x63.Text, .int .i64 x63.Refs]), (i1, .cells [.int .i64 a44, .str a45, .str a46, .sl 3 (List.map Aa a47) 0, .sl 6 (List.map Ai a48) 0, .str a49])] (EJ x52) []).cons _).cons _)
     refine TH hpe ?_
     clear hpe
     refine cl (okT (fun _ hF => I7 _ (p0 := (⟨a51, a55, a56⟩ : AD)) (q0 := i8) (b0_0 := g50) (x0 := x52) h ([(i64, .cells [.int .i64 x63.Kind, .int .i64 x63.At, .str x63.Name, .sl 2 (List.map cP x63.Pairs) 0, .str x63.Text, .int .i64 x63.Refs]), (i1, .cells [.int .i64 a44, .str a45, .str a46, .sl 3 (List.map Aa a47) 0, .sl 6 (List.map Ai a48) 0, .str a49])] ++ []) hi8 hg50 hx53 zs54 ok hF) hF fun x65 _ _ _ hq hF => ?_)
     obtain ⟨rfl, u66, x67, hu66, hxu66, zku66, ok, rfl⟩ := hq
     obtain ⟨hpe, ok⟩ := MJ ok (((List.perm_append_comm_assoc (EJ x67) [(i64, .cells [.int .i64 x63.Kind, .int .i64 x63.At, .str x63.Name, .sl 2 (List.map cP x63.Pairs) 0, .str x63.Text, .int .i64 x63.Refs]), (i1, .cells [.int .i64 a44, .str a45, .str a46, .sl 3 (List.map Aa a47) 0, .sl 6 (List.map Ai a48) 0, .str a49])] []).cons _).cons _)
     refine TH hpe ?_
     clear hpe
     refine Rl ?_
     refine Az rfl hF (fun hb68 hF => ?_) fun hb68 hF => ?_
     ·refine DS ?_
      refine Sa (mdl []) [0, 1, 3] [2, 4, 5, 6] [4, 2, 5, 6] [_, _, _] [_, _, _, _] [_, _, _, _] (by kernel_rfl) rfl rfl rfl rfl (by kernel_rfl) ?_
      refine CS (v := .agg [.int .i64 (0 : Int), .str ([] : List UInt8), .str ([] : List UInt8), .snil, .snil, .str ([] : List UInt8)]) (Ek Dh FY rfl) ?_
      refine DA rfl SY Bb ?_
      refine bi ?_
      refine ⟨?_, ?_⟩
      ·refine aa ?_
       refine Ck (j := 3) (cs' := [.int .i64 (0 : Int), .str ([] : List UInt8), .str ([] : List UInt8), .snil, .snil, .str ([] : List UInt8)]) ok rfl rfl rfl hi1 rfl AK rfl rfl (fun ok => ?_)
       refine H3 ?_
       replace hF := hG59 _ (Aj hF)
       refine xr ?_
       refine Fs (fn := Tryz.f11) rfl (.cell rfl (Ga (j := 3) ok rfl hi1 (Bm (vs := [.int .i64 (0 : Int), .str ([] : List UInt8), .str ([] : List UInt8), .snil, .snil, .str ([] : List UInt8)]) DE AK rfl rfl)) (.tmp (v := .int .i64 x63.At) rfl (.tmp (v := .int .i64 x65.1) rfl .nil))) ?_
       exact ⟨_, _, (.tupC (.cons (Wd.toE (.aggC (.cons (.refl _) (.cons (.refl _) (.cons (.refl _) (.cons (.nil _) (.cons (.nil _) (.refl _))))))) (Ae _)) (.refl _))), ok.wh, _, Aj hF, rfl, rfl⟩
      ·refine Ck (j := 3) (cs' := [.int .i64 (0 : Int), .str ([] : List UInt8), .str ([] : List UInt8), .snil, .snil, .str ([] : List UInt8)]) ok rfl rfl rfl hi1 rfl AK rfl rfl (fun ok => ?_)
       refine aa ?_
       refine H3 ?_
       replace hF := hG59 _ (Aj hF)
       refine xr ?_
       refine Fs (fn := Tryz.f11) rfl (.cell rfl (Ga (j := 3) ok rfl hi1 (Bm (vs := [.int .i64 (0 : Int), .str ([] : List UInt8), .str ([] : List UInt8), .snil, .snil, .str ([] : List UInt8)]) DE AK rfl rfl)) (.tmp (v := .int .i64 x63.At) rfl (.tmp (v := .int .i64 x65.1) rfl .nil))) ?_
       exact ⟨_, _, (.tupC (.cons (Wd.toE (.aggC (.cons (.refl _) (.cons (.refl _) (.cons (.refl _) (.cons (.nil _) (.cons (.nil _) (.refl _))))))) (Ae _)) (.refl _))), ok.wh, _, Aj hF, rfl, rfl⟩
     ·refine Ms ?_
      refine ih61 (a44, a45, a46, a47, a48, a49, x65.2.open_, x65.2.nodes, x65.2.done, (IntKind.wrap .i64 (a57 + (1 : Int)))) _ hF ?_
      exact ⟨u66, hu66, x67, hxu66, zku66, oy ok, wy ok⟩
    ·refine DT ?_
     replace hF := hG59 _ (Aj hF)
     exact ⟨(a44, a45, a46, a47, a48, a49, a51, a55, a56), hF, g50, hg50, x52, hx53, zs54, oy ok, wy ok⟩
  ·rintro ⟨a30, a31, a32, a33, a34, a35, a37, a41, a42⟩ s' hF ⟨g36, hg36, x38, hx39, zs40, ok, hws⟩
   refine AQ hws ?_
   clear hws s'
   refine RQ ?_
   refine On ?_
   refine Uq ?_
   refine HL (e := a37) rfl EL ?_
   refine Qj ?_
   refine D7 ?_
   refine Az rfl hF (fun hb69 hF => ?_) fun hb69 hF => ?_
   ·refine Bz ?_
    refine CS (v := .agg [.int .i64 (0 : Int), .str ([] : List UInt8), .str ([] : List UInt8), .snil, .snil, .str ([] : List UInt8)]) (Ek Dh FY rfl) ?_
    refine Ed 52 (v := .agg [.int .i64 (0 : Int), .str ([] : List UInt8), .str ([] : List UInt8), .sl 3 (List.map Aa ([] : List Ab)) 0, .snil, .str ([] : List UInt8)]) (.aggC (.cons (.refl _) (.cons (.refl _) (.cons (.refl _) (.cons (.nil _) (.refl _)))))) ?_
    refine Kr ?_
    refine cl (A4 (fun _ h hF => Ht _ h hF) _ hF fun x70 _ hF => ?_)
    refine JV ?_
    refine Ck (j := 2) (cs' := [.int .i64 (0 : Int), .str ([] : List UInt8), .str ([] : List UInt8), .sl 3 (List.map Aa ([] : List Ab)) 0, .snil, .str ([] : List UInt8)]) ok rfl rfl rfl hi1 rfl AK rfl rfl (fun ok => ?_)
    refine H3 ?_
    refine xr ?_
    refine Fs (fn := Tryz.f11) rfl (.cell rfl (Ga (j := 2) ok rfl hi1 (Bm (vs := [.int .i64 (0 : Int), .str ([] : List UInt8), .str ([] : List UInt8), .sl 3 (List.map Aa ([] : List Ab)) 0, .snil, .str ([] : List UInt8)]) DE AK rfl rfl)) (.tmp (v := .int .i64 (x70.length : Int)) rfl (.tmp (v := .int .i64 (26 : Int)) rfl .nil))) ?_
    exact ⟨_, _, (.tupC (.cons (Wd.toE (.aggC (.cons (.refl _) (.cons (.refl _) (.cons (.refl _) (.cons (.refl _) (.cons (.nil _) (.refl _))))))) (Ae _)) (.refl _))), ok.wh, _, Aj hF, rfl, rfl⟩
   ·refine On ?_
    refine Us ?_
    refine dP ?_
    refine P1 ?_
    refine D7 ?_
    refine Az rfl hF (fun hb71 hF => ?_) fun hb71 hF => ?_
    ·refine Bz ?_
     refine CS (v := .agg [.int .i64 (0 : Int), .str ([] : List UInt8), .str ([] : List UInt8), .snil, .snil, .str ([] : List UInt8)]) (Ek Dh FY rfl) ?_
     refine Ed 62 (v := .agg [.int .i64 (0 : Int), .str ([] : List UInt8), .str ([] : List UInt8), .sl 3 (List.map Aa ([] : List Ab)) 0, .snil, .str ([] : List UInt8)]) (.aggC (.cons (.refl _) (.cons (.refl _) (.cons (.refl _) (.cons (.nil _) (.refl _)))))) ?_
     refine Kr ?_
     refine cl (A4 (fun _ h hF => Ht _ h hF) _ hF fun x72 _ hF => ?_)
     refine JV ?_
     refine Ck (j := 2) (cs' := [.int .i64 (0 : Int), .str ([] : List UInt8), .str ([] : List UInt8), .sl 3 (List.map Aa ([] : List Ab)) 0, .snil, .str ([] : List UInt8)]) ok rfl rfl rfl hi1 rfl AK rfl rfl (fun ok => ?_)
     refine H3 ?_
     refine xr ?_
     refine Fs (fn := Tryz.f11) rfl (.cell rfl (Ga (j := 2) ok rfl hi1 (Bm (vs := [.int .i64 (0 : Int), .str ([] : List UInt8), .str ([] : List UInt8), .sl 3 (List.map Aa ([] : List Ab)) 0, .snil, .str ([] : List UInt8)]) DE AK rfl rfl)) (.tmp (v := .int .i64 (x72.length : Int)) rfl (.tmp (v := .int .i64 (30 : Int)) rfl .nil))) ?_
     exact ⟨_, _, (.tupC (.cons (Wd.toE (.aggC (.cons (.refl _) (.cons (.refl _) (.cons (.refl _) (.cons (.refl _) (.cons (.nil _) (.refl _))))))) (Ae _)) (.refl _))), ok.wh, _, Aj hF, rfl, rfl⟩
    ·refine Jr ?_
     refine GH ?_
     refine Uq ?_
     refine ZH (e := a37) rfl rfl EL Ng hF (fun x73 he74 hF => ?_)
     obtain ⟨t75, xs76, rfl, hx77⟩ := Gz hx39 he74
     have zt78 := (BN.1 zs40).1
     have zs79 := (BN.1 zs40).2
     have hp80 := IP HT hx77
     have hck : cK (x73.1, t75) = [.int .i64 x73.1.node.Kind, .str x73.1.node.Name.URI, .str x73.1.node.Name.Local, .sl 3 (List.map Aa x73.1.node.Attrs) 0, As 6 t75 x73.1.node.Kids, .str x73.1.node.Text, .str x73.1.raw, .sl 2 (List.map Ad x73.1.in_.binds) 0] := rfl
     rw [B8, Dl, List.cons_append, hck] at ok
     rw [B8, Dl, List.cons_append, hck]
     clear hck
     refine YR ?_
     refine I4 (j := 1) (f0 := 0) ok rfl rfl rfl hg36 (by omega) (Bm (vs := [.int .i64 x73.1.node.Kind, .str x73.1.node.Name.URI, .str x73.1.node.Name.Local, .sl 3 (List.map Aa x73.1.node.Attrs) 0, As 6 t75 x73.1.node.Kids, .str x73.1.node.Text]) DE AK rfl rfl) ?_
     refine XH (c := Ai) (e := x73.1.node.Kids) (cs' := Ai x73.1.node) 3 72 4 ok zt78 rfl rfl B3 rfl (by rw [Ae]; rfl) (fun ok => ?_)
     refine Ck (j := 2) (cs' := [.int .i64 x73.1.node.Kind, .str x73.1.node.Name.URI, .str x73.1.node.Name.Local, .sl 3 (List.map Aa x73.1.node.Attrs) 0, .sl 6 (List.map Ai x73.1.node.Kids) 0, .str x73.1.node.Text]) ok rfl (congrArg D.agg (Ae x73.1.node)) rfl hi1 rfl AK rfl rfl (fun ok => ?_)
     refine H3 ?_
     refine xr ?_
     refine Fs (fn := Tryz.f11) rfl (.cell rfl (Ga (j := 2) ok rfl hi1 (Bm (vs := [.int .i64 x73.1.node.Kind, .str x73.1.node.Name.URI, .str x73.1.node.Name.Local, .sl 3 (List.map Aa x73.1.node.Attrs) 0, .sl 6 (List.map Ai x73.1.node.Kids) 0, .str x73.1.node.Text]) DE AK rfl rfl)) (.tmp (v := .int .i64 (0 : Int)) rfl (.tmp (v := .int .i64 (0 : Int)) rfl .nil))) ?_
     exact ⟨_, _, (.tupC (.cons (Wd.toE (.aggC (.refl _)) (Ae _)) (.refl _))), ok.wh, _, Aj hF, rfl, rfl⟩
theorem IA {G : Bool → Prop} (h : Heap) (hF : Ap (Em) G) : CallsA Tryz.prog 9 [] h fun d h' => ∃ r, G r ∧ d = .bool r ∧ h' = h := by
 refine CallsA.ret ?_
 refine B2 Tryz.func9 rfl eC Tryz.ntmps9 rfl (fun ok => ?_)
 rw [Em] at hF
 refine U4 ?_
 refine CF (mdl [(8, 5), (9, 5), (1, 1)]) ?_
 refine Pv (cs := [.int .u8 60, .int .u8 97, .int .u8 32, .int .u8 120, .int .u8 109, .int .u8 108, .int .u8 110, .int .u8 115, .int .u8 61, .int .u8 39, .int .u8 117, .int .u8 39, .int .u8 32, .int .u8 98, .int .u8 61, .int .u8 39, .int .u8 49, .int .u8 39, .int .u8 62, .int .u8 120, .int .u8 60, .int .u8 33, .int .u8 91, .int .u8 67, .int .u8 68, .int .u8 65, .int .u8 84, .int .u8 65, .int .u8 91, .int .u8 60, .int .u8 93, .int .u8 93, .int .u8 62, .int .u8 38, .int .u8 97, .int .u8 109, .int .u8 112, .int .u8 59, .int .u8 60, .int .u8 47, .int .u8 97, .int .u8 62]) ok rfl FU rfl (by kernel_rfl) ?_
 intro i1 hi1 ok
 refine T2 (v := .sl 1 (List.map AH ([60, 97, 32, 120, 109, 108, 110, 115, 61, 39, 117, 39, 32, 98, 61, 39, 49, 39, 62, 120, 60, 33, 91, 67, 68, 65, 84, 65, 91, 60, 93, 93, 62, 38, 97, 109, 112, 59, 60, 47, 97, 62] : List UInt8)) 0) (by kernel_rfl) 0 ok rfl rfl hi1 rfl BQ JF rfl rfl (fun ok => ?_)
 refine cl (A4 (fun _ h hF => DO _ h hF) _ hF fun x3 _ hF => ?_)
 refine Lx ?_
 refine C8 ok rfl Dh ?_
 intro i4 hi4 ok
 refine Ck (j := 0) (cs' := [.int .i64 x3.1.Kind, .str x3.1.Name.URI, .str x3.1.Name.Local, .sl 3 (List.map Aa x3.1.Attrs) 0, .sl 6 (List.map Ai x3.1.Kids) 0, .str x3.1.Text]) ok rfl (congrArg D.agg (Ae x3.1)) rfl hi4 rfl AK rfl rfl (fun ok => ?_)
 refine UB ?_
 refine CF (mdl [(15, 5), (16, 5), (4, 1)]) ?_
 refine Pv (cs := [.int .u8 60, .int .u8 97, .int .u8 62, .int .u8 60, .int .u8 47, .int .u8 98, .int .u8 62]) ok rfl FU rfl (by kernel_rfl) ?_
 intro i5 hi5 ok
 refine T2 (v := .sl 1 (List.map AH ([60, 97, 62, 60, 47, 98, 62] : List UInt8)) 0) (by kernel_rfl) 0 ok rfl rfl hi5 rfl BQ JF rfl rfl (fun ok => ?_)
 refine cl (A4 (fun _ h hF => DO _ h hF) _ hF fun x7 _ hF => ?_)
 refine Lx ?_
 refine C8 ok rfl Dh ?_
 intro i8 hi8 ok
 refine Ck (j := 0) (cs' := [.int .i64 x7.1.Kind, .str x7.1.Name.URI, .str x7.1.Name.Local, .sl 3 (List.map Aa x7.1.Attrs) 0, .sl 6 (List.map Ai x7.1.Kids) 0, .str x7.1.Text]) ok rfl (congrArg D.agg (Ae x7.1)) rfl hi8 rfl AK rfl rfl (fun ok => ?_)
 refine HX ?_
 refine Eh ?_
 refine Ib ?_
 refine Cu (b := (x3.2.2 == (0 : Int))) 3 26 (.bool ((x3.2.2 == (0 : Int)) && (x7.2.2 == (26 : Int)))) (fun hb9 => ?_) (fun hb9 => ?_) ?_
 ·refine UQ ?_
  refine Hh ?_
  exact th
 ·refine H0 ?_
  exact th
 refine CZ ?_
 refine Cu (b := ((x3.2.2 == (0 : Int)) && (x7.2.2 == (26 : Int)))) 3 30 (.bool (((x3.2.2 == (0 : Int)) && (x7.2.2 == (26 : Int))) && (x7.2.1 == (3 : Int)))) (fun hb10 => ?_) (fun hb10 => ?_) ?_
 ·refine UQ ?_
  refine Hh ?_
  exact th
 ·refine H0 ?_
  exact th
 refine CZ ?_
 refine Cu (b := (((x3.2.2 == (0 : Int)) && (x7.2.2 == (26 : Int))) && (x7.2.1 == (3 : Int)))) 5 36 (.bool ((((x3.2.2 == (0 : Int)) && (x7.2.2 == (26 : Int))) && (x7.2.1 == (3 : Int))) && ((x3.1.Kids.length : Int) == (1 : Int)))) (fun hb11 => ?_) (fun hb11 => ?_) ?_
 ·refine SD ?_
  refine N8 ?_
  refine Xw ?_
  exact th
 ·refine Wc ?_
  exact th
 refine CZ ?_
 refine BH 8 45 hF (fun J13 hb12 hF => ?_) (fun J13 hb12 hF => ?_) (fun v14 hF => ?_)
 ·refine SD ?_
  refine Fz rfl rfl CE AK hF (fun x15 _ hF => ?_)
  refine A2 ?_
  refine C9 rfl Kq Cx (by rw [Ae]; rfl) ?_
  refine A2 ?_
  refine Cs rfl (Bm (vs := Cb x15.Name) EK Cx (by rw [Ae]; rfl) (by rw [Ae]; rfl)) ?_
  refine A2 ?_
  refine CS (v := .agg (Cb (⟨([117] : List UInt8), ([97] : List UInt8)⟩ : Am))) (Ek F2 In rfl) ?_
  refine A2 ?_
  refine Ef rfl rfl (ZN (b := ((x15.Name.URI == (⟨([117] : List UInt8), ([97] : List UInt8)⟩ : Am).URI) && ((x15.Name.Local == (⟨([117] : List UInt8), ([97] : List UInt8)⟩ : Am).Local) && true))) Ic Hd (by simp only [Cb, GD, G3, La, Hd, Ic, Dg, AO, Di, Dg, AO, Di, Ik, H4, G0, Ia, Hl, Hn, GC, List.drop_zero, List.drop_succ_cons, List.length_cons, List.length_nil, List.take_succ_cons, List.take_zero, Option.isSome_some, if_true, Option.bind_some, Option.map_some, Nat.reduceAdd, Nat.reduceLeDiff])) ?_
  refine Hh ?_
  exact tw
 ·refine FA ?_
  refine LE ?_
  exact tw
 ·refine CZ ?_
  refine BH 8 54 hF (fun J17 hb16 hF => ?_) (fun J17 hb16 hF => ?_) (fun v18 hF => ?_)
  ·refine SD ?_
   refine Fz rfl rfl CE AK hF (fun x19 _ hF => ?_)
   refine A2 ?_
   refine C9 rfl EG BR (by rw [Ae]; rfl) ?_
   refine A2 ?_
   refine Cs rfl (B6 Dq BR (congrArg (List.drop 4) (Ae x19))) ?_
   refine A2 ?_
   refine N8 ?_
   refine Xw ?_
   exact tw
  ·refine FA ?_
   refine LE ?_
   exact tw
  ·refine CZ ?_
   refine BH 10 65 hF (fun J21 hb20 hF => ?_) (fun J21 hb20 hF => ?_) (fun v22 hF => ?_)
   ·refine SD ?_
    refine Fz rfl rfl CE AK hF (fun x23 _ hF => ?_)
    refine A2 ?_
    refine C9 rfl EG BR (by rw [Ae]; rfl) ?_
    refine A2 ?_
    refine Cs rfl (B6 Dq BR (congrArg (List.drop 4) (Ae x23))) ?_
    refine A2 ?_
    refine Fz rfl rfl CE AK hF (fun x24 _ hF => ?_)
    refine A2 ?_
    refine C9 rfl Es AO (by rw [Ae]; rfl) ?_
    refine A2 ?_
    refine Cs rfl (B6 Dg AO (congrArg (List.drop 5) (Ae x24))) ?_
    refine A2 ?_
    refine UZ ?_
    exact tw
   ·refine FA ?_
    refine Mj ?_
    exact tw
   ·refine GM ?_
    exact rt
theorem Oy : ∀ (N : Nat) (v : Ac) (G : Int → Prop) (h : Heap), Ap (iter DW N v) G → CallsA Tryz.prog 19 [.agg (Ai v)] h fun d h' => ∃ r, G r ∧ d = .int .i64 r ∧ h' = h := by
 intro N
 induction N with
 | zero => intro v G h hF; exact MR hF
 | succ N ih0 =>
 intro p0 G h hF
 show CallsA Tryz.prog 19 [.agg (Ai p0)] h fun d h' => ∃ r, G r ∧ d = .int .i64 r ∧ h' = h
 replace hF : Ap (DW (iter DW N) p0) G := hF
 refine CallsA.ret ?_
 refine B2 Tryz.func19 rfl cE Tryz.ntmps19 rfl (fun ok => ?_)
 rw [DW] at hF
 refine Bz ?_
 refine FC (v := .agg (Ai p0)) (cs := Ai p0) rfl rfl rfl rfl ?_
 refine EV ?_
 refine Gd ?_
 refine Bf hF (fun (a7 : Int) s' => OK h [] ∧ WS s' ⟨Ak 19 [(3, .int .i64 a7)], Hp h []⟩) (fun J8 hF => ?_) ?_
 ·refine Bz ?_
  refine C9 rfl EG BR (by rw [Ae]; rfl) ?_
  refine Cs rfl (B6 Dq BR (congrArg (List.drop 4) (Ae p0))) ?_
  refine N8 ?_
  refine Jb ?_
  refine Cp (σ := Int × Int) hF (fun (v : Int × Int) s' => match v with | (a9, a10) => OK h [] ∧ WS s' ⟨Ak 19 [(3, .int .i64 a9), (7, .sl 6 (List.map Ai p0.Kids) 0), (8, .int .i64 (p0.Kids.length : Int)), (9, .int .i64 a10)], Hp h []⟩) ?_ ?_
  ·exact ⟨oy ok, wy ok⟩
  ·rintro G11 hG12 rec13 ⟨a9, a10⟩ s' ih14 hF ⟨ok, hws⟩
   refine AQ hws ?_
   clear hws s'
   rw [E9] at hF
   refine Jg ?_
   refine Az rfl hF (fun hb15 hF => ?_) fun hb15 hF => ?_
   ·refine Vt ?_
    refine CF (mdl [(5, 1)]) ?_
    refine Fz rfl rfl CE AK hF (fun x16 _ hF => ?_)
    refine Cs rfl (Bm (vs := Ai x16) DE AK (by rw [Ae]; rfl) (by rw [Ae]; rfl)) ?_
    refine C8 ok rfl Dh ?_
    intro i17 hi17 ok
    refine Ck (j := 0) (cs' := [.int .i64 x16.Kind, .str x16.Name.URI, .str x16.Name.Local, .sl 3 (List.map Aa x16.Attrs) 0, .sl 6 (List.map Ai x16.Kids) 0, .str x16.Text]) ok rfl (congrArg D.agg (Ae x16)) rfl hi17 rfl AK rfl rfl (fun ok => ?_)
    refine AV ?_
    refine P8 ?_
    refine Ds (j := 0) ok rfl rfl rfl hi17 (Bm (vs := Ai x16) DE AK rfl (Ae x16).symm) ?_
    refine cl (A4 (enc := fun r => .int .i64 r) (fun G h hF => ih0 x16 G h hF) _ hF fun x18 _ hF => ?_)
    refine HW ?_
    refine EV ?_
    refine SO ?_
    refine ih14 ((IntKind.wrap .i64 (a9 + x18)), (IntKind.wrap .i64 (a10 + (1 : Int)))) _ hF ?_
    exact ⟨oy ok, wy ok⟩
   ·refine DT ?_
    replace hF := hG12 _ (Aj hF)
    exact ⟨a9, hF, oy ok, wy ok⟩
 ·rintro a7 s' hF ⟨ok, hws⟩
  refine AQ hws ?_
  clear hws s'
  refine HP ?_
  exact rt
theorem Oj (p0 : Ac) {G : Int → Prop} (h : Heap) (hF : Ap (HD p0) G) : CallsA Tryz.prog 19 [.agg (Ai p0)] h fun d h' => ∃ r, G r ∧ d = .int .i64 r ∧ h' = h := Oy AA p0 G h hF
theorem Hg (p0 : List Ab) (p1 : List Ab) {G : Bool → Prop} (h : Heap) (hF : Ap (Cc p0 p1) G) : CallsA Tryz.prog 31 [.sl 3 (List.map Aa p0) 0, .sl 3 (List.map Aa p1) 0] h fun d h' => ∃ r, G r ∧ d = .bool r ∧ h' = h := by
 refine CallsA.ret ?_
 refine B2 Tryz.func31 rfl c9 Tryz.ntmps31 rfl (fun ok => ?_)
 rw [Cc] at hF
 refine U4 ?_
 refine Za ?_
 refine Kr ?_
 refine GF rfl BL ?_
 refine Mq ?_
 refine Az rfl hF (fun hb1 hF => ?_) fun hb1 hF => ?_
 ·refine HK ?_
  exact rt
 ·refine Co ?_
  refine Bf hF (fun (_ : Unit) s' => OK h [] ∧ WS s' ⟨Ak 26 [], Hp h []⟩) (fun J7 hF => ?_) ?_
  ·refine Za ?_
   refine Jb ?_
   refine Cp (σ := Int) hF (fun (a8 : Int) s' => OK h [] ∧ WS s' ⟨Ak 26 [(0, .sl 3 (List.map Aa p0) 0), (1, .sl 3 (List.map Aa p1) 0), (12, .int .i64 (p0.length : Int)), (13, .int .i64 a8)], Hp h []⟩) ?_ ?_
   ·exact ⟨oy ok, wy ok⟩
   ·rintro G9 hG10 rec11 a8 s' ih12 hF ⟨ok, hws⟩
    refine AQ hws ?_
    clear hws s'
    rw [Cy] at hF
    refine Jg ?_
    refine Az rfl hF (fun hb13 hF => ?_) fun hb13 hF => ?_
    ·refine VB ?_
     refine DS ?_
     refine EP (mdl [(19, 3), (23, 3)]) (by kernel_rfl) (by kernel_rfl) ?_
     refine Ux ?_
     refine Fz rfl rfl BL AB hF (fun x14 _ hF => ?_)
     refine Cs rfl (Bm (vs := Aa x14) CG AB rfl rfl) ?_
     refine Ux ?_
     refine Fz rfl rfl BL AB hF (fun x15 _ hF => ?_)
     refine Cs rfl (Bm (vs := Aa x15) CG AB rfl rfl) ?_
     refine Ef rfl rfl (Xe (b := (((x14.Name.URI == x15.Name.URI) && ((x14.Name.Local == x15.Name.Local) && true)) && ((x14.Value == x15.Value) && true))) Ph O1 (by simp only [Aa, GD, G3, La, O1, Ph, EK, Cx, Hd, Dg, AO, Di, Dg, AO, Di, Dg, AO, Di, Ik, H4, G0, Ia, Hl, Hn, GC, List.drop_zero, List.drop_succ_cons, List.length_cons, List.length_nil, List.take_succ_cons, List.take_zero, Option.isSome_some, if_true, Option.bind_some, Option.map_some, Nat.reduceAdd, Nat.reduceLeDiff])) ?_
     refine AV ?_
     refine Az rfl hF (fun hb16 hF => ?_) fun hb16 hF => ?_
     ·refine HK ?_
      replace hF := hG10 _ (Aj hF)
      exact rt
     ·refine Ms ?_
      refine ih12 (IntKind.wrap .i64 (a8 + (1 : Int))) _ hF ?_
      exact ⟨oy ok, wy ok⟩
    ·refine DT ?_
     replace hF := hG10 _ (Aj hF)
     exact ⟨(), hF, oy ok, wy ok⟩
  ·rintro ⟨⟩ s' hF ⟨ok, hws⟩
   refine AQ hws ?_
   clear hws s'
   refine HK ?_
   exact rt
theorem GS {β : Type} {f : Bool → Option β} {G : β → Prop} {R : D → Heap → Prop} {p0 : List Ab} {p1 : List Ab} (h : Heap) (hF : Ap ((Cc p0 p1).bind f) G) (hk : ∀ r, Cc p0 p1 = some r → Ap (f r) G → R (.bool r) h) : CallsA Tryz.prog 31 [.sl 3 (List.map Aa p0) 0, .sl 3 (List.map Aa p1) 0] h R := by
 obtain ⟨r0, hr, hF⟩ := BT hF
 refine (Hg (G := fun r => r = r0) p0 p1 h ⟨r0, hr, rfl⟩).mono ?_
 rintro _ _ ⟨r, rfl, rfl, rfl⟩
 exact hk _ hr hF
theorem Jc : ∀ (N : Nat) (v : Ac × Ac) (G : Bool → Prop) (h : Heap), Ap (iter BF N v) G → CallsA Tryz.prog 13 [.agg (Ai v.1), .agg (Ai v.2)] h fun d h' => ∃ r, G r ∧ d = .bool r ∧ h' = h := by
 intro N
 induction N with
 | zero => intro v G h hF; exact MR hF
 | succ N ih0 =>
 rintro ⟨p0, p1⟩ G h hF
 show CallsA Tryz.prog 13 [.agg (Ai p0), .agg (Ai p1)] h fun d h' => ∃ r, G r ∧ d = .bool r ∧ h' = h
 replace hF : Ap (BF (iter BF N) (p0, p1)) G := hF
 refine CallsA.ret ?_
 refine B2 Tryz.func13 rfl dw Tryz.ntmps13 rfl (fun ok => ?_)
 rw [BF] at hF
 refine Bz ?_
 refine FC (v := .agg (Ai p0)) (cs := Ai p0) rfl rfl rfl rfl ?_
 refine FC (v := .agg (Ai p1)) (cs := Ai p1) rfl rfl rfl rfl ?_
 refine D7 ?_
 refine DS ?_
 refine Bz ?_
 refine C9 rfl IT Bb (by rw [Ae]; rfl) ?_
 refine Cs rfl (B6 HC Bb (congrArg (List.drop 0) (Ae p0))) ?_
 refine C9 rfl IT Bb (by rw [Ae]; rfl) ?_
 refine Cs rfl (B6 HC Bb (congrArg (List.drop 0) (Ae p1))) ?_
 refine SQ ?_
 refine Cu (b := (p0.Kind != p1.Kind)) 6 17 (.bool ((p0.Kind != p1.Kind) || (!((p0.Name.URI == p1.Name.URI) && ((p0.Name.Local == p1.Name.Local) && true))))) (fun hb1 => ?_) (fun hb1 => ?_) ?_
 ·refine VL ?_
  refine Jq ?_
  exact th
 ·refine Hs ?_
  refine C9 rfl Kq Cx (by rw [Ae]; rfl) ?_
  refine A2 ?_
  refine Cs rfl (Bm (vs := Cb p0.Name) EK Cx (by rw [Ae]; rfl) (by rw [Ae]; rfl)) ?_
  refine A2 ?_
  refine C9 rfl Kq Cx (by rw [Ae]; rfl) ?_
  refine A2 ?_
  refine Cs rfl (Bm (vs := Cb p1.Name) EK Cx (by rw [Ae]; rfl) (by rw [Ae]; rfl)) ?_
  refine A2 ?_
  refine Ef rfl rfl (Xe (b := ((p0.Name.URI == p1.Name.URI) && ((p0.Name.Local == p1.Name.Local) && true))) Ic Hd (by simp only [Cb, GD, G3, La, Hd, Ic, Dg, AO, Di, Dg, AO, Di, Ik, H4, G0, Ia, Hl, Hn, GC, List.drop_zero, List.drop_succ_cons, List.length_cons, List.length_nil, List.take_succ_cons, List.take_zero, Option.isSome_some, if_true, Option.bind_some, Option.map_some, Nat.reduceAdd, Nat.reduceLeDiff])) ?_
  refine Hy ?_
  exact th
 refine CZ ?_
 refine Cu (b := ((p0.Kind != p1.Kind) || (!((p0.Name.URI == p1.Name.URI) && ((p0.Name.Local == p1.Name.Local) && true))))) 6 24 (.bool (((p0.Kind != p1.Kind) || (!((p0.Name.URI == p1.Name.URI) && ((p0.Name.Local == p1.Name.Local) && true)))) || (!(p0.Text == p1.Text)))) (fun hb2 => ?_) (fun hb2 => ?_) ?_
 ·refine VL ?_
  refine Jq ?_
  exact th
 ·refine Hs ?_
  refine C9 rfl Es AO (by rw [Ae]; rfl) ?_
  refine A2 ?_
  refine Cs rfl (B6 Dg AO (congrArg (List.drop 5) (Ae p0))) ?_
  refine A2 ?_
  refine C9 rfl Es AO (by rw [Ae]; rfl) ?_
  refine A2 ?_
  refine Cs rfl (B6 Dg AO (congrArg (List.drop 5) (Ae p1))) ?_
  refine A2 ?_
  refine UK ?_
  exact th
 refine CZ ?_
 refine BH 7 32 hF (fun J4 hb3 hF => ?_) (fun J4 hb3 hF => ?_) (fun v5 hF => ?_)
 ·refine Tf ?_
  exact tw
 ·refine Hs ?_
  refine C9 rfl ND KI (by rw [Ae]; rfl) ?_
  refine A2 ?_
  refine Cs rfl (B6 QT KI (congrArg (List.drop 3) (Ae p0))) ?_
  refine A2 ?_
  refine C9 rfl ND KI (by rw [Ae]; rfl) ?_
  refine A2 ?_
  refine Cs rfl (B6 QT KI (congrArg (List.drop 3) (Ae p1))) ?_
  refine A2 ?_
  refine cl (GS _ hF fun x6 _ hF => ?_)
  refine NZ ?_
  refine Hy ?_
  exact tw
 ·refine CZ ?_
  refine Cu (b := v5) 8 41 (.bool (v5 || ((p0.Kids.length : Int) != (p1.Kids.length : Int)))) (fun hb7 => ?_) (fun hb7 => ?_) ?_
  ·refine FA ?_
   refine Oe ?_
   exact th
  ·refine Hs ?_
   refine C9 rfl EG BR (by rw [Ae]; rfl) ?_
   refine A2 ?_
   refine Cs rfl (B6 Dq BR (congrArg (List.drop 4) (Ae p0))) ?_
   refine A2 ?_
   refine N8 ?_
   refine A2 ?_
   refine C9 rfl EG BR (by rw [Ae]; rfl) ?_
   refine A2 ?_
   refine Cs rfl (B6 Dq BR (congrArg (List.drop 4) (Ae p1))) ?_
   refine A2 ?_
   refine N8 ?_
   refine U5 ?_
   exact th
  refine AV ?_
  refine Az rfl hF (fun hb8 hF => ?_) fun hb8 hF => ?_
  ·refine HK ?_
   exact rt
  ·refine Co ?_
   refine Bf hF (fun (_ : Unit) s' => OK h [] ∧ WS s' ⟨Ak 61 [], Hp h []⟩) (fun J15 hF => ?_) ?_
   ·refine Bz ?_
    refine C9 rfl EG BR (by rw [Ae]; rfl) ?_
    refine Cs rfl (B6 Dq BR (congrArg (List.drop 4) (Ae p0))) ?_
    refine N8 ?_
    refine Jb ?_
    refine Cp (σ := Int) hF (fun (a16 : Int) s' => OK h [] ∧ WS s' ⟨Ak 61 [(2, .iptr (Ai p0)), (3, .iptr (Ai p1)), (44, .int .i64 (p0.Kids.length : Int)), (45, .int .i64 a16)], Hp h []⟩) ?_ ?_
    ·exact ⟨oy ok, wy ok⟩
    ·rintro G17 hG18 rec19 a16 s' ih20 hF ⟨ok, hws⟩
     refine AQ hws ?_
     clear hws s'
     rw [Dc] at hF
     refine Jg ?_
     refine Az rfl hF (fun hb21 hF => ?_) fun hb21 hF => ?_
     ·refine VB ?_
      refine DS ?_
      refine EP (mdl [(49, 3), (52, 3), (54, 3), (57, 3)]) (by kernel_rfl) (by kernel_rfl) ?_
      refine C9 rfl EG BR (by rw [Ae]; rfl) ?_
      refine Cs rfl (B6 Dq BR (congrArg (List.drop 4) (Ae p0))) ?_
      refine Eb ?_
      refine Fz rfl rfl CE AK hF (fun x22 _ hF => ?_)
      refine Cs rfl (Bm (vs := Ai x22) DE AK (by rw [Ae]; rfl) (by rw [Ae]; rfl)) ?_
      refine C9 rfl EG BR (by rw [Ae]; rfl) ?_
      refine Cs rfl (B6 Dq BR (congrArg (List.drop 4) (Ae p1))) ?_
      refine Eb ?_
      refine Fz rfl rfl CE AK hF (fun x23 _ hF => ?_)
      refine Cs rfl (Bm (vs := Ai x23) DE AK (by rw [Ae]; rfl) (by rw [Ae]; rfl)) ?_
      refine cl (A4 (enc := fun r => .bool r) (fun G h hF => ih0 (x22, x23) G h hF) _ hF fun x24 _ hF => ?_)
      refine Mt ?_
      refine Az rfl hF (fun hb25 hF => ?_) fun hb25 hF => ?_
      ·refine HK ?_
       replace hF := hG18 _ (Aj hF)
       exact rt
      ·refine Ms ?_
       refine ih20 (IntKind.wrap .i64 (a16 + (1 : Int))) _ hF ?_
       exact ⟨oy ok, wy ok⟩
     ·refine DT ?_
      replace hF := hG18 _ (Aj hF)
      exact ⟨(), hF, oy ok, wy ok⟩
   ·rintro ⟨⟩ s' hF ⟨ok, hws⟩
    refine AQ hws ?_
    clear hws s'
    refine HK ?_
    exact rt
theorem Je (p0 : Ac) (p1 : Ac) {G : Bool → Prop} (h : Heap) (hF : Ap (CP p0 p1) G) : CallsA Tryz.prog 13 [.agg (Ai p0), .agg (Ai p1)] h fun d h' => ∃ r, G r ∧ d = .bool r ∧ h' = h := Jc AA (p0, p1) G h hF
theorem IQ {β : Type} {f : Bool → Option β} {G : β → Prop} {R : D → Heap → Prop} {p0 : Ac} {p1 : Ac} (h : Heap) (hF : Ap ((CP p0 p1).bind f) G) (hk : ∀ r, CP p0 p1 = some r → Ap (f r) G → R (.bool r) h) : CallsA Tryz.prog 13 [.agg (Ai p0), .agg (Ai p1)] h R := by
 obtain ⟨r0, hr, hF⟩ := BT hF
 refine (Je (G := fun r => r = r0) p0 p1 h ⟨r0, hr, rfl⟩).mono ?_
 rintro _ _ ⟨r, rfl, rfl, rfl⟩
 exact hk _ hr hF
theorem GN (p0 : List UInt8) (p1 : List UInt8) {G : Bool → Prop} (h : Heap) (hF : Ap (Dj p0 p1) G) : CallsA Tryz.prog 6 [.sl 1 (List.map AH p0) 0, .str p1] h fun d h' => ∃ r, G r ∧ d = .bool r := by
 refine CallsA.ret ?_
 refine B2 Tryz.func6 rfl d8 Tryz.ntmps6 rfl (fun ok => ?_)
 rw [Dj] at hF
 refine U4 ?_
 refine Bz ?_
 refine cl (A4 (fun _ h hF => IA h hF) _ hF fun x1 _ hF => ?_)
 refine Mt ?_
 refine Az rfl hF (fun hb2 hF => ?_) fun hb2 hF => ?_
 ·refine HK ?_
  exact rt
 ·refine GI ?_
  refine CF (mdl [(5, 1)]) ?_
  refine Kr ?_
  refine cl (A4 (fun _ h hF => DO _ h hF) _ hF fun x3 _ hF => ?_)
  refine Lx ?_
  refine C8 ok rfl Dh ?_
  intro i4 hi4 ok
  refine Ck (j := 0) (cs' := [.int .i64 x3.1.Kind, .str x3.1.Name.URI, .str x3.1.Name.Local, .sl 3 (List.map Aa x3.1.Attrs) 0, .sl 6 (List.map Ai x3.1.Kids) 0, .str x3.1.Text]) ok rfl (congrArg D.agg (Ae x3.1)) rfl hi4 rfl AK rfl rfl (fun ok => ?_)
  refine RN ?_
  refine SQ ?_
  refine Cu (b := (x3.2.2 != (0 : Int))) 4 36 (.bool ((x3.2.2 != (0 : Int)) || (decide ((60000 : Int) < (p0.length : Int))))) (fun hb5 => ?_) (fun hb5 => ?_) ?_
  ·refine Oe ?_
   exact th
  ·refine PI ?_
   refine JV ?_
   refine QF ?_
   refine Hy ?_
   exact th
  refine CZ ?_
  refine Cu (b := ((x3.2.2 != (0 : Int)) || (decide ((60000 : Int) < (p0.length : Int))))) 4 41 (.bool (((x3.2.2 != (0 : Int)) || (decide ((60000 : Int) < (p0.length : Int)))) || (decide ((100 : Int) < (p1.length : Int))))) (fun hb6 => ?_) (fun hb6 => ?_) ?_
  ·refine Oe ?_
   exact th
  ·refine Jt ?_
   refine PE ?_
   refine QF ?_
   refine Hy ?_
   exact th
  refine CZ ?_
  refine BH 10 52 hF (fun J8 hb7 hF => ?_) (fun J8 hb7 hF => ?_) (fun v9 hF => ?_)
  ·refine FA ?_
   refine Mx ?_
   refine UM ?_
   refine Jq ?_
   exact tw
  ·refine PI ?_
   refine JV ?_
   refine QF ?_
   refine Ry ?_
   refine BH 5 51 hF (fun J11 hb10 hF => ?_) (fun J11 hb10 hF => ?_) (fun v12 hF => ?_)
   ·refine PI ?_
    refine Fz rfl rfl BQ C0 hF (fun x13 _ hF => ?_)
    refine YI ?_
    refine A2 ?_
    refine Vx ?_
    refine VH ?_
    exact tw
   ·refine FA ?_
    refine SX ?_
    exact tw
   ·refine LP ?_
    exact tw
  ·refine AV ?_
   refine Az rfl hF (fun hb14 hF => ?_) fun hb14 hF => ?_
   ·refine HK ?_
    exact rt
   ·refine GI ?_
    refine CF (mdl [(8, 1)]) ?_
    refine HQ ?_
    refine JB rfl rfl hF (fun hF => ?_)
    refine JB rfl rfl hF (fun hF => ?_)
    refine Rh ?_
    refine cl (A4 (fun _ h hF => DO _ h hF) _ hF fun x15 _ hF => ?_)
    refine Lx ?_
    refine C8 ok rfl Dh ?_
    intro i16 hi16 ok
    refine Ck (j := 0) (cs' := [.int .i64 x15.1.Kind, .str x15.1.Name.URI, .str x15.1.Name.Local, .sl 3 (List.map Aa x15.1.Attrs) 0, .sl 6 (List.map Ai x15.1.Kids) 0, .str x15.1.Text]) ok rfl (congrArg D.agg (Ae x15.1)) rfl hi16 rfl AK rfl rfl (fun ok => ?_)
    refine RN ?_
    refine SQ ?_
    refine Cu (b := (x15.2.2 != (0 : Int))) 5 69 (.bool ((x15.2.2 != (0 : Int)) || ((x15.1.Kids.length : Int) != (2 : Int)))) (fun hb17 => ?_) (fun hb17 => ?_) ?_
    ·refine Sk ?_
     exact th
    ·refine Y9 ?_
     refine Zp ?_
     refine A2 ?_
     refine N8 ?_
     refine U5 ?_
     exact th
    refine CZ ?_
    refine BH 7 77 hF (fun J19 hb18 hF => ?_) (fun J19 hb18 hF => ?_) (fun v20 hF => ?_)
    ·refine Tf ?_
     exact tw
    ·refine Y9 ?_
     refine Zp ?_
     refine A2 ?_
     refine Fz rfl rfl CE AK hF (fun x21 _ hF => ?_)
     refine A2 ?_
     refine C9 rfl IT Bb (by rw [Ae]; rfl) ?_
     refine A2 ?_
     refine Cs rfl (B6 HC Bb (congrArg (List.drop 0) (Ae x21))) ?_
     refine U5 ?_
     exact tw
    ·refine CZ ?_
     refine BH 8 86 hF (fun J23 hb22 hF => ?_) (fun J23 hb22 hF => ?_) (fun v24 hF => ?_)
     ·refine FA ?_
      refine Oe ?_
      exact tw
     ·refine Y9 ?_
      refine Zp ?_
      refine A2 ?_
      refine Fz rfl rfl CE AK hF (fun x25 _ hF => ?_)
      refine A2 ?_
      refine C9 rfl Es AO (by rw [Ae]; rfl) ?_
      refine A2 ?_
      refine Cs rfl (B6 Dg AO (congrArg (List.drop 5) (Ae x25))) ?_
      refine A2 ?_
      refine SS ?_
      refine UK ?_
      exact tw
     ·refine CZ ?_
      refine BH 10 97 hF (fun J27 hb26 hF => ?_) (fun J27 hb26 hF => ?_) (fun v28 hF => ?_)
      ·refine FA ?_
       refine Mx ?_
       refine UM ?_
       refine Jq ?_
       exact tw
      ·refine PI ?_
       refine JV ?_
       refine QF ?_
       refine Ry ?_
       refine BH 5 96 hF (fun J30 hb29 hF => ?_) (fun J30 hb29 hF => ?_) (fun v31 hF => ?_)
       ·refine PI ?_
        refine Gy rfl BQ C0 I5 (ED rfl) hF (fun x32 _ hF => ?_)
        refine A2 ?_
        refine Rz ?_
        refine A2 ?_
        refine Lr ?_
        refine VH ?_
        exact tw
       ·refine FA ?_
        refine SX ?_
        exact tw
       ·refine LP ?_
        exact tw
      ·refine AV ?_
       refine Az rfl hF (fun hb33 hF => ?_) fun hb33 hF => ?_
       ·refine HK ?_
        exact rt
       ·refine Co ?_
        refine E1 ?_
        refine JB rfl rfl hF (fun hF => ?_)
        refine JB rfl rfl hF (fun hF => ?_)
        refine UE ?_
        refine JB rfl rfl hF (fun hF => ?_)
        refine Ir ?_
        refine GQ ?_
        refine CF (mdl [(12, 1)]) ?_
        refine HQ ?_
        refine JB rfl rfl hF (fun hF => ?_)
        refine HQ ?_
        refine JB rfl rfl hF (fun hF => ?_)
        refine JB rfl rfl hF (fun hF => ?_)
        refine Rh ?_
        refine cl (A4 (fun _ h hF => DO _ h hF) _ hF fun x34 _ hF => ?_)
        refine Lx ?_
        refine C8 ok rfl Dh ?_
        intro i35 hi35 ok
        refine Ck (j := 0) (cs' := [.int .i64 x34.1.Kind, .str x34.1.Name.URI, .str x34.1.Name.Local, .sl 3 (List.map Aa x34.1.Attrs) 0, .sl 6 (List.map Ai x34.1.Kids) 0, .str x34.1.Text]) ok rfl (congrArg D.agg (Ae x34.1)) rfl hi35 rfl AK rfl rfl (fun ok => ?_)
        refine UB ?_
        refine CF (mdl [(15, 1)]) ?_
        refine UE ?_
        refine JB rfl rfl hF (fun hF => ?_)
        refine Rh ?_
        refine cl (A4 (fun _ h hF => DO _ h hF) _ hF fun x36 _ hF => ?_)
        refine Lx ?_
        refine C8 ok rfl Dh ?_
        intro i37 hi37 ok
        refine Ck (j := 0) (cs' := [.int .i64 x36.1.Kind, .str x36.1.Name.URI, .str x36.1.Name.Local, .sl 3 (List.map Aa x36.1.Attrs) 0, .sl 6 (List.map Ai x36.1.Kids) 0, .str x36.1.Text]) ok rfl (congrArg D.agg (Ae x36.1)) rfl hi37 rfl AK rfl rfl (fun ok => ?_)
        refine UB ?_
        refine CF (mdl [(18, 1)]) ?_
        refine UE ?_
        refine JB rfl rfl hF (fun hF => ?_)
        refine Rh ?_
        refine cl (A4 (fun _ h hF => DO _ h hF) _ hF fun x38 _ hF => ?_)
        refine Lx ?_
        refine C8 ok rfl Dh ?_
        intro i39 hi39 ok
        refine Ck (j := 0) (cs' := [.int .i64 x38.1.Kind, .str x38.1.Name.URI, .str x38.1.Name.Local, .sl 3 (List.map Aa x38.1.Attrs) 0, .sl 6 (List.map Ai x38.1.Kids) 0, .str x38.1.Text]) ok rfl (congrArg D.agg (Ae x38.1)) rfl hi39 rfl AK rfl rfl (fun ok => ?_)
        refine UB ?_
        refine Bz ?_
        refine Ds (j := 4) ok rfl rfl rfl hi4 (Bm (vs := Ai x3.1) DE AK rfl (Ae x3.1).symm) ?_
        refine cl (A4 (fun _ h hF => Oj _ h hF) _ hF fun x40 _ hF => ?_)
        refine HW ?_
        refine Sj ?_
        refine Az rfl hF (fun hb41 hF => ?_) fun hb41 hF => ?_
        ·refine HK ?_
         exact rt
        ·refine Co ?_
         refine Iq ?_
         refine SQ ?_
         refine Cu (b := (x34.2.2 != (0 : Int))) 9 148 (.bool ((x34.2.2 != (0 : Int)) || ((x34.1.Kids.length : Int) != (IntKind.wrap .i64 ((x3.1.Kids.length : Int) + (2 : Int)))))) (fun hb42 => ?_) (fun hb42 => ?_) ?_
         ·refine FA ?_
          refine Sk ?_
          exact th
         ·refine SD ?_
          refine N8 ?_
          refine A2 ?_
          refine Y4 ?_
          refine cB ?_
          refine A2 ?_
          refine N8 ?_
          refine A2 ?_
          refine HW ?_
          refine U5 ?_
          exact th
         refine CZ ?_
         refine Cu (b := ((x34.2.2 != (0 : Int)) || ((x34.1.Kids.length : Int) != (IntKind.wrap .i64 ((x3.1.Kids.length : Int) + (2 : Int)))))) 3 152 (.bool (((x34.2.2 != (0 : Int)) || ((x34.1.Kids.length : Int) != (IntKind.wrap .i64 ((x3.1.Kids.length : Int) + (2 : Int))))) || (x36.2.2 != (30 : Int)))) (fun hb43 => ?_) (fun hb43 => ?_) ?_
         ·refine NI ?_
          exact th
         ·refine Ja ?_
          refine bP ?_
          exact th
         refine CZ ?_
         refine Cu (b := (((x34.2.2 != (0 : Int)) || ((x34.1.Kids.length : Int) != (IntKind.wrap .i64 ((x3.1.Kids.length : Int) + (2 : Int))))) || (x36.2.2 != (30 : Int)))) 3 156 (.bool ((((x34.2.2 != (0 : Int)) || ((x34.1.Kids.length : Int) != (IntKind.wrap .i64 ((x3.1.Kids.length : Int) + (2 : Int))))) || (x36.2.2 != (30 : Int))) || (x38.2.2 != (30 : Int)))) (fun hb44 => ?_) (fun hb44 => ?_) ?_
         ·refine NI ?_
          exact th
         ·refine Ja ?_
          refine bP ?_
          exact th
         refine CZ ?_
         refine BH 8 165 hF (fun J46 hb45 hF => ?_) (fun J46 hb45 hF => ?_) (fun v47 hF => ?_)
         ·refine FA ?_
          refine Oe ?_
          exact tw
         ·refine SD ?_
          refine Fz rfl rfl CE AK hF (fun x48 _ hF => ?_)
          refine A2 ?_
          refine C9 rfl Es AO (by rw [Ae]; rfl) ?_
          refine A2 ?_
          refine Cs rfl (B6 Dg AO (congrArg (List.drop 5) (Ae x48))) ?_
          refine A2 ?_
          refine SS ?_
          refine UK ?_
          exact tw
         ·refine CZ ?_
          refine BH 12 178 hF (fun J50 hb49 hF => ?_) (fun J50 hb49 hF => ?_) (fun v51 hF => ?_)
          ·refine FA ?_
           refine FA ?_
           refine Oe ?_
           exact tw
          ·refine SD ?_
           refine Y4 ?_
           refine cJ ?_
           refine N8 ?_
           refine A2 ?_
           refine Hc ?_
           refine A2 ?_
           refine Fz rfl rfl CE AK hF (fun x52 _ hF => ?_)
           refine A2 ?_
           refine C9 rfl Es AO (by rw [Ae]; rfl) ?_
           refine A2 ?_
           refine Cs rfl (B6 Dg AO (congrArg (List.drop 5) (Ae x52))) ?_
           refine A2 ?_
           refine SS ?_
           refine UK ?_
           exact tw
          ·refine AV ?_
           refine Az rfl hF (fun hb53 hF => ?_) fun hb53 hF => ?_
           ·refine HK ?_
            exact rt
           ·refine Co ?_
            refine Bf hF (fun (_ : Unit) s' => OK h [] ∧ WS s' ⟨Ak 199 [], Hp h []⟩) (fun J60 hF => ?_) ?_
            ·refine Bz ?_
             refine Wf ?_
             refine cB ?_
             refine N8 ?_
             refine Jb ?_
             refine Cp (σ := Int) hF (fun (a61 : Int) s' => OK h [(i35, .cells [.int .i64 x34.1.Kind, .str x34.1.Name.URI, .str x34.1.Name.Local, .sl 3 (List.map Aa x34.1.Attrs) 0, .sl 6 (List.map Ai x34.1.Kids) 0, .str x34.1.Text]), (i4, .cells [.int .i64 x3.1.Kind, .str x3.1.Name.URI, .str x3.1.Name.Local, .sl 3 (List.map Aa x3.1.Attrs) 0, .sl 6 (List.map Ai x3.1.Kids) 0, .str x3.1.Text])] ∧ WS s' ⟨Ak 199 [(5, .ptr i4 0), (12, .ptr i35 0), (181, .int .i64 (x3.1.Kids.length : Int)), (182, .int .i64 a61)], Hp h [(i35, .cells [.int .i64 x34.1.Kind, .str x34.1.Name.URI, .str x34.1.Name.Local, .sl 3 (List.map Aa x34.1.Attrs) 0, .sl 6 (List.map Ai x34.1.Kids) 0, .str x34.1.Text]), (i4, .cells [.int .i64 x3.1.Kind, .str x3.1.Name.URI, .str x3.1.Name.Local, .sl 3 (List.map Aa x3.1.Attrs) 0, .sl 6 (List.map Ai x3.1.Kids) 0, .str x3.1.Text])]⟩) ?_ ?_
             ·exact ⟨oy ok, wy ok⟩
             ·rintro G62 hG63 rec64 a61 s' ih65 hF ⟨ok, hws⟩
              refine AQ hws ?_
              clear hws s'
              rw [BB] at hF
              refine Jg ?_
              refine Az rfl hF (fun hb66 hF => ?_) fun hb66 hF => ?_
              ·refine VB ?_
               refine DS ?_
               refine EP (mdl [(189, 3), (195, 3)]) (by kernel_rfl) (by kernel_rfl) ?_
               refine Wf ?_
               refine Ds (j := 1) ok rfl rfl rfl (by assumption) (B6 (v := .sl _ _ _) Dq BR rfl) ?_
               refine Eb ?_
               refine Fz rfl rfl CE AK hF (fun x67 _ hF => ?_)
               refine Cs rfl (Bm (vs := Ai x67) DE AK (by rw [Ae]; rfl) (by rw [Ae]; rfl)) ?_
               refine Wf ?_
               refine Zp ?_
               refine If ?_
               refine Fz rfl rfl CE AK hF (fun x68 _ hF => ?_)
               refine Cs rfl (Bm (vs := Ai x68) DE AK (by rw [Ae]; rfl) (by rw [Ae]; rfl)) ?_
               refine cl (IQ _ hF fun x69 _ hF => ?_)
               refine Mt ?_
               refine Az rfl hF (fun hb70 hF => ?_) fun hb70 hF => ?_
               ·refine HK ?_
                replace hF := hG63 _ (Aj hF)
                exact rt
               ·refine Ms ?_
                refine ih65 (IntKind.wrap .i64 (a61 + (1 : Int))) _ hF ?_
                exact ⟨oy ok, wy ok⟩
              ·refine DT ?_
               replace hF := hG63 _ (Aj hF)
               exact ⟨(), hF, oy ok, wy ok⟩
            ·rintro ⟨⟩ s' hF ⟨ok, hws⟩
             refine AQ hws ?_
             clear hws s'
             refine HK ?_
             exact rt
end Go.Proofs.YtilhbalhkljanaaGreatDoor
