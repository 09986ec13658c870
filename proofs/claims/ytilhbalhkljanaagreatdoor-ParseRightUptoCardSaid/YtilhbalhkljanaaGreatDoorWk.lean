/- The walks. No condition. -/
import Derived.Test.YtilhbalhkljanaaGreatDoorWs
import Derived.Test.YtilhbalhkljanaaGreatDoorWk1
set_option linter.unusedVariables false
set_option linter.unusedSimpArgs false
set_option maxRecDepth 20000
set_option maxHeartbeats 8000000
namespace Go.Proofs.YtilhbalhkljanaaGreatDoor
theorem Gc : ∀ (N : Nat) {p0 : List Aa} {p1 : Int} {p2 : Int} {p3 : Int} {p4 : Aa → Aa → Option Int} {f4 : FuncId} {fi4 : List D} {ca4 : List D} {b0 : Nat} {G : (List Aa) → Prop} (h : Heap) (O : List (Nat × AObj)) (hf4 : ∀ (x0 : Aa) (x1 : Aa) (G : Int → Prop) (h : Heap), Am (p4 x0 x1) G → CallsA Tryz.prog f4 (fi4 ++ [.agg (Ac x0), .agg (Ac x1)] ++ ca4) h fun d h' => ∃ r, G r ∧ d = .int .i64 r ∧ h' = h) (zb0 : b0 = 0 → p0 = []) (ok : OK h (mo b0 Ac p0 :: O)) (hF : Am (iter AG N (p0, p1, p2, p3, p4)) G), CallsA Tryz.prog 188 [Aq 3 b0 p0, .int .i64 p1, .int .i64 p2, .int .i64 p3, .fn (.func f4) fi4 ca4] (Hp h (mo b0 Ac p0 :: O)) fun d h' => ∃ r, G r ∧ d = .tup [] ∧ (b0 = 0 → r = []) ∧ OK h (mo b0 Ac r :: O) ∧ h' = Hp h (mo b0 Ac r :: O) := by
 intro N
 induction N with
 | zero => intro p0 p1 p2 p3 p4 f4 fi4 ca4 b0 G h O hf4 zb0 ok hF; exact MG hF
 | succ N ih0 =>
 have self_ok : ∀ {β : Type} {f0 : (List Aa) → Option β} {G : β → Prop} {R : D → Heap → Prop} {p0 : List Aa} {p1 : Int} {p2 : Int} {p3 : Int} {p4 : Aa → Aa → Option Int} {f4 : FuncId} {fi4 : List D} {ca4 : List D} {b0 : Nat} (h : Heap) (O : List (Nat × AObj)) (hf4 : ∀ (x0 : Aa) (x1 : Aa) (G : Int → Prop) (h : Heap), Am (p4 x0 x1) G → CallsA Tryz.prog f4 (fi4 ++ [.agg (Ac x0), .agg (Ac x1)] ++ ca4) h fun d h' => ∃ r, G r ∧ d = .int .i64 r ∧ h' = h) (zb0 : b0 = 0 → p0 = []) (ok : OK h (mo b0 Ac p0 :: O)) (hF : Am ((iter AG N (p0, p1, p2, p3, p4)).bind f0) G) (hk : ∀ r, iter AG N (p0, p1, p2, p3, p4) = some r → (b0 = 0 → r = []) → OK h (mo b0 Ac r :: O) → Am (f0 r) G → R (.tup []) (Hp h (mo b0 Ac r :: O))), CallsA Tryz.prog 188 [Aq 3 b0 p0, .int .i64 p1, .int .i64 p2, .int .i64 p3, .fn (.func f4) fi4 ca4] (Hp h (mo b0 Ac p0 :: O)) R := by
  intro β f0 G R p0 p1 p2 p3 p4 f4 fi4 ca4 b0 h O hf4 zb0 ok hF hk
  obtain ⟨r0, hr, hF⟩ := BD hF
  refine (ih0 (G := fun r => r = r0) h O hf4 zb0 ok ⟨r0, hr, rfl⟩).mono ?_
  rintro _ _ ⟨r, rfl, rfl, y0, ok', rfl⟩
  exact hk _ hr y0 ok' hF
 clear ih0
 intro p0 p1 p2 p3 p4 f4 fi4 ca4 b0 G h O hf4 zb0 ok hF
 replace hF : Am (AG (iter AG N) (p0, p1, p2, p3, p4)) G := hF
 refine CallsA.ret ?_
 refine CJ Tryz.func188 rfl dR Tryz.ntmps188 rfl ?_
 rw [AG] at hF
 refine A5 hF (fun (_ : Unit) s' => OK h (mo b0 Ac p0 :: O) ∧ WS s' ⟨Al 220 [(0, Aq 3 b0 p0), (1, .int .i64 p1), (2, .int .i64 p2), (3, .int .i64 p3), (4, .fn (.func f4) fi4 ca4)], Hp h (mo b0 Ac p0 :: O)⟩) (fun J39 hF => ?_) ?_
 ·refine Ib ?_
  refine Ix ?_
  refine LY ?_
  refine Au rfl hF (fun hb40 hF => ?_) fun hb40 hF => ?_
  ·refine NQ ?_
   refine NQ ?_
   refine A5 hF (fun (a48 : Int) s' => OK h (mo b0 Ac p0 :: O) ∧ WS s' ⟨Al 220 [(0, Aq 3 b0 p0), (1, .int .i64 p1), (10, .int .i64 a48)], Hp h (mo b0 Ac p0 :: O)⟩) (fun J49 hF => ?_) ?_
   ·refine FB ?_
    refine Cg (σ := Int × Int) hF (fun (v : Int × Int) s' => match v with | (a50, a51) => OK h (mo b0 Ac p0 :: O) ∧ WS s' ⟨Al 220 [(0, Aq 3 b0 p0), (1, .int .i64 p1), (4, .fn (.func f4) fi4 ca4), (10, .int .i64 a50), (11, .int .i64 a51)], Hp h (mo b0 Ac p0 :: O)⟩) ?_ ?_
    ·exact ⟨oy ok, wy ok⟩
    ·rintro G52 hG53 rec54 ⟨a50, a51⟩ s' ih55 hF ⟨ok, hws⟩
     refine AO hws ?_
     clear hws s'
     rw [AU] at hF
     refine Tp ?_
     refine Au rfl hF (fun hb56 hF => ?_) fun hb56 hF => ?_
     ·refine Cl ?_
      refine O5 ?_
      refine Jn ?_
      refine aN ?_
      refine D4 rfl rfl (Vq rfl) ?_
      refine aa ?_
      refine Mt ?_
      refine EW (mdl []) (by kernel_rfl) (by kernel_rfl) ?_
      refine Le ?_
      refine GV ?_
      refine DV zb0 rfl rfl BK Ax hF (fun x57 hx57 hF => ?_)
      refine Fw (q := 3) (j := 0) (f0 := 0) ok rfl zb0 rfl rfl (fun _ => rfl) hx57 rfl rfl (A4 (vs := Ac x57) CO Ax rfl rfl) ?_
      refine GV ?_
      refine DV zb0 rfl rfl BK Ax hF (fun x58 hx58 hF => ?_)
      refine Fw (q := 3) (j := 0) (f0 := 0) ok rfl zb0 rfl rfl (fun _ => rfl) hx58 rfl rfl (A4 (vs := Ac x58) CO Ax rfl rfl) ?_
      refine It rfl (AT (enc := fun r => .int .i64 r) (fun G h hF => hf4 x57 x58 G h hF) _ hF fun x59 _ hF => ?_) (.app (.app (.refl _) (.refl _)) (.refl _))
      refine K9 ?_
      refine Au rfl hF (fun hb60 hF => ?_) fun hb60 hF => ?_
      ·refine O4 ?_
       refine ih55 ((IntKind.wrap .i64 ((IntKind.wrap .i64 (DU .u64 (IntKind.wrap .u64 (IntKind.wrap .i64 (a50 + a51))) (1 : Int))) + (1 : Int))), a51) _ hF ?_
       exact ⟨oy ok, wy ok⟩
      ·refine TH ?_
       refine ih55 (a50, (IntKind.wrap .i64 (DU .u64 (IntKind.wrap .u64 (IntKind.wrap .i64 (a50 + a51))) (1 : Int)))) _ hF ?_
       exact ⟨oy ok, wy ok⟩
     ·refine DS ?_
      replace hF := hG53 _ (Ak hF)
      exact ⟨a50, hF, oy ok, wy ok⟩
   ·rintro a48 s' hF ⟨ok, hws⟩
    refine AO hws ?_
    clear hws s'
    refine A5 hF (fun (a71 : (List Aa)) s' => (b0 = 0 → a71 = []) ∧ OK h (mo b0 Ac a71 :: O) ∧ WS s' ⟨Al 220 [], Hp h (mo b0 Ac a71 :: O)⟩) (fun J73 hF => ?_) ?_
    ·refine NQ ?_
     refine FB ?_
     refine Cg (σ := (List Aa) × Int) hF (fun (v : (List Aa) × Int) s' => match v with | (a74, a76) => (b0 = 0 → a74 = []) ∧ OK h (mo b0 Ac a74 :: O) ∧ WS s' ⟨Al 220 [(0, Aq 3 b0 a74), (10, .int .i64 a48), (13, .int .i64 a76)], Hp h (mo b0 Ac a74 :: O)⟩) ?_ ?_
     ·exact ⟨zb0, oy ok, wy ok⟩
     ·rintro G77 hG78 rec79 ⟨a74, a76⟩ s' ih80 hF ⟨kz75, ok, hws⟩
      refine AO hws ?_
      clear hws s'
      rw [A9] at hF
      refine Po ?_
      refine Ix ?_
      refine K9 ?_
      refine Au rfl hF (fun hb81 hF => ?_) fun hb81 hF => ?_
      ·refine Sn ?_
       refine EW (mdl []) (by kernel_rfl) (by kernel_rfl) ?_
       refine GV ?_
       refine GV ?_
       refine I6 ?_
       refine GV ?_
       refine I6 ?_
       refine DV kz75 rfl rfl BK Ax hF (fun x82 hx82 hF => ?_)
       refine Fw (q := 3) (j := 0) (f0 := 0) ok rfl kz75 rfl rfl (fun _ => rfl) hx82 rfl rfl (A4 (vs := Ac x82) CO Ax rfl rfl) ?_
       refine GV ?_
       refine DV kz75 rfl rfl BK Ax hF (fun x83 hx83 hF => ?_)
       refine Fw (q := 3) (j := 0) (f0 := 0) ok rfl kz75 rfl rfl (fun _ => rfl) hx83 rfl rfl (A4 (vs := Ac x83) CO Ax rfl rfl) ?_
       refine DV kz75 rfl rfl BK Ax hF (fun x84 hx84 hF => ?_)
       refine KP (q := 3) (j := 0) (f0 := 0) (b := x82) ok kz75 rfl rfl rfl (fun _ => rfl) hx84 rfl rfl Ax rfl rfl (fun za85 ok => ?_)
       obtain ⟨a85, ha85, hF⟩ := D9 hF
       rw [← ha85] at ok za85
       rw [← ha85]
       have hms : Aq 3 b0 a74 = Aq 3 b0 a85 := CW (by rw [ha85, List.length_set])
       try rw [hms] at ok
       try rw [hms]
       clear hms
       refine DV za85 rfl rfl BK Ax hF (fun x86 hx86 hF => ?_)
       refine KP (q := 3) (j := 0) (f0 := 0) (b := x83) ok za85 rfl rfl rfl (fun _ => rfl) hx86 rfl rfl Ax rfl rfl (fun za87 ok => ?_)
       obtain ⟨a87, ha87, hF⟩ := D9 hF
       rw [← ha87] at ok za87
       rw [← ha87]
       have hms : Aq 3 b0 a85 = Aq 3 b0 a87 := CW (by rw [ha87, List.length_set])
       try rw [hms] at ok
       try rw [hms]
       clear hms
       refine AY ?_
       refine O4 ?_
       refine ih80 (a87, (IntKind.wrap .i64 (a76 + (1 : Int)))) _ hF ?_
       exact ⟨za87, oy ok, wy ok⟩
      ·refine DS ?_
       replace hF := hG78 _ (Ak hF)
       exact ⟨a74, hF, kz75, oy ok, wy ok⟩
    ·rintro a71 s' hF ⟨kz72, ok, hws⟩
     refine AO hws ?_
     clear hws s'
     refine Mn ?_
     refine rr ?_
     exact ⟨_, _, (.refl _), hy ok, _, Ak hF, rfl, kz72, oy ok, rfl⟩
  ·refine Cl ?_
   exact ⟨(), hF, oy ok, wy ok⟩
 ·rintro ⟨⟩ s' hF ⟨ok, hws⟩
  refine AO hws ?_
  clear hws s'
  refine A5 hF (fun (_ : Unit) s' => OK h (mo b0 Ac p0 :: O) ∧ WS s' ⟨Al 220 [(0, Aq 3 b0 p0), (1, .int .i64 p1), (2, .int .i64 p2), (3, .int .i64 p3), (4, .fn (.func f4) fi4 ca4)], Hp h (mo b0 Ac p0 :: O)⟩) (fun J126 hF => ?_) ?_
  ·refine Ib ?_
   refine Ix ?_
   refine LY ?_
   refine Au rfl hF (fun hb127 hF => ?_) fun hb127 hF => ?_
   ·refine NQ ?_
    refine NQ ?_
    refine A5 hF (fun (a135 : Int) s' => OK h (mo b0 Ac p0 :: O) ∧ WS s' ⟨Al 220 [(0, Aq 3 b0 p0), (2, .int .i64 p2), (14, .int .i64 a135)], Hp h (mo b0 Ac p0 :: O)⟩) (fun J136 hF => ?_) ?_
    ·refine FB ?_
     refine Cg (σ := Int × Int) hF (fun (v : Int × Int) s' => match v with | (a137, a138) => OK h (mo b0 Ac p0 :: O) ∧ WS s' ⟨Al 220 [(0, Aq 3 b0 p0), (2, .int .i64 p2), (4, .fn (.func f4) fi4 ca4), (14, .int .i64 a137), (15, .int .i64 a138)], Hp h (mo b0 Ac p0 :: O)⟩) ?_ ?_
     ·exact ⟨oy ok, wy ok⟩
     ·rintro G139 hG140 rec141 ⟨a137, a138⟩ s' ih142 hF ⟨ok, hws⟩
      refine AO hws ?_
      clear hws s'
      rw [AV] at hF
      refine Tp ?_
      refine Au rfl hF (fun hb143 hF => ?_) fun hb143 hF => ?_
      ·refine Cl ?_
       refine O5 ?_
       refine Jn ?_
       refine aN ?_
       refine D4 rfl rfl (Vq rfl) ?_
       refine aa ?_
       refine Mt ?_
       refine EW (mdl []) (by kernel_rfl) (by kernel_rfl) ?_
       refine Le ?_
       refine GV ?_
       refine DV zb0 rfl rfl BK Ax hF (fun x144 hx144 hF => ?_)
       refine Fw (q := 3) (j := 0) (f0 := 0) ok rfl zb0 rfl rfl (fun _ => rfl) hx144 rfl rfl (A4 (vs := Ac x144) CO Ax rfl rfl) ?_
       refine GV ?_
       refine DV zb0 rfl rfl BK Ax hF (fun x145 hx145 hF => ?_)
       refine Fw (q := 3) (j := 0) (f0 := 0) ok rfl zb0 rfl rfl (fun _ => rfl) hx145 rfl rfl (A4 (vs := Ac x145) CO Ax rfl rfl) ?_
       refine It rfl (AT (enc := fun r => .int .i64 r) (fun G h hF => hf4 x144 x145 G h hF) _ hF fun x146 _ hF => ?_) (.app (.app (.refl _) (.refl _)) (.refl _))
       refine Ww ?_
       refine OC ?_
       refine Au rfl hF (fun hb147 hF => ?_) fun hb147 hF => ?_
       ·refine O4 ?_
        refine ih142 ((IntKind.wrap .i64 ((IntKind.wrap .i64 (DU .u64 (IntKind.wrap .u64 (IntKind.wrap .i64 (a137 + a138))) (1 : Int))) + (1 : Int))), a138) _ hF ?_
        exact ⟨oy ok, wy ok⟩
       ·refine TH ?_
        refine ih142 (a137, (IntKind.wrap .i64 (DU .u64 (IntKind.wrap .u64 (IntKind.wrap .i64 (a137 + a138))) (1 : Int)))) _ hF ?_
        exact ⟨oy ok, wy ok⟩
      ·refine DS ?_
       replace hF := hG140 _ (Ak hF)
       exact ⟨a137, hF, oy ok, wy ok⟩
    ·rintro a135 s' hF ⟨ok, hws⟩
     refine AO hws ?_
     clear hws s'
     refine A5 hF (fun (a158 : (List Aa)) s' => (b0 = 0 → a158 = []) ∧ OK h (mo b0 Ac a158 :: O) ∧ WS s' ⟨Al 220 [], Hp h (mo b0 Ac a158 :: O)⟩) (fun J160 hF => ?_) ?_
     ·refine NQ ?_
      refine FB ?_
      refine Cg (σ := (List Aa) × Int) hF (fun (v : (List Aa) × Int) s' => match v with | (a161, a163) => (b0 = 0 → a161 = []) ∧ OK h (mo b0 Ac a161 :: O) ∧ WS s' ⟨Al 220 [(0, Aq 3 b0 a161), (14, .int .i64 a135), (17, .int .i64 a163)], Hp h (mo b0 Ac a161 :: O)⟩) ?_ ?_
      ·exact ⟨zb0, oy ok, wy ok⟩
      ·rintro G164 hG165 rec166 ⟨a161, a163⟩ s' ih167 hF ⟨kz162, ok, hws⟩
       refine AO hws ?_
       clear hws s'
       rw [Bc] at hF
       refine Po ?_
       refine Tm ?_
       refine Au rfl hF (fun hb168 hF => ?_) fun hb168 hF => ?_
       ·refine Sn ?_
        refine EW (mdl []) (by kernel_rfl) (by kernel_rfl) ?_
        refine GV ?_
        refine GV ?_
        refine Ix ?_
        refine GV ?_
        refine Ix ?_
        refine DV kz162 rfl rfl BK Ax hF (fun x169 hx169 hF => ?_)
        refine Fw (q := 3) (j := 0) (f0 := 0) ok rfl kz162 rfl rfl (fun _ => rfl) hx169 rfl rfl (A4 (vs := Ac x169) CO Ax rfl rfl) ?_
        refine GV ?_
        refine DV kz162 rfl rfl BK Ax hF (fun x170 hx170 hF => ?_)
        refine Fw (q := 3) (j := 0) (f0 := 0) ok rfl kz162 rfl rfl (fun _ => rfl) hx170 rfl rfl (A4 (vs := Ac x170) CO Ax rfl rfl) ?_
        refine DV kz162 rfl rfl BK Ax hF (fun x171 hx171 hF => ?_)
        refine KP (q := 3) (j := 0) (f0 := 0) (b := x169) ok kz162 rfl rfl rfl (fun _ => rfl) hx171 rfl rfl Ax rfl rfl (fun za172 ok => ?_)
        obtain ⟨a172, ha172, hF⟩ := D9 hF
        rw [← ha172] at ok za172
        rw [← ha172]
        have hms : Aq 3 b0 a161 = Aq 3 b0 a172 := CW (by rw [ha172, List.length_set])
        try rw [hms] at ok
        try rw [hms]
        clear hms
        refine DV za172 rfl rfl BK Ax hF (fun x173 hx173 hF => ?_)
        refine KP (q := 3) (j := 0) (f0 := 0) (b := x170) ok za172 rfl rfl rfl (fun _ => rfl) hx173 rfl rfl Ax rfl rfl (fun za174 ok => ?_)
        obtain ⟨a174, ha174, hF⟩ := D9 hF
        rw [← ha174] at ok za174
        rw [← ha174]
        have hms : Aq 3 b0 a172 = Aq 3 b0 a174 := CW (by rw [ha174, List.length_set])
        try rw [hms] at ok
        try rw [hms]
        clear hms
        refine AY ?_
        refine RH ?_
        refine QB ?_
        refine ih167 (a174, (IntKind.wrap .i64 (a163 - (1 : Int)))) _ hF ?_
        exact ⟨za174, oy ok, wy ok⟩
       ·refine DS ?_
        replace hF := hG165 _ (Ak hF)
        exact ⟨a161, hF, kz162, oy ok, wy ok⟩
     ·rintro a158 s' hF ⟨kz159, ok, hws⟩
      refine AO hws ?_
      clear hws s'
      refine Mn ?_
      refine rr ?_
      exact ⟨_, _, (.refl _), hy ok, _, Ak hF, rfl, kz159, oy ok, rfl⟩
   ·refine Cl ?_
    exact ⟨(), hF, oy ok, wy ok⟩
  ·rintro ⟨⟩ s' hF ⟨ok, hws⟩
   refine AO hws ?_
   clear hws s'
   refine FA ?_
   refine Jn ?_
   refine aN ?_
   refine D4 rfl rfl (Vq rfl) ?_
   refine aa ?_
   refine Yv ?_
   refine Zr ?_
   refine Bg ?_
   refine IY ?_
   refine A5 hF (fun (v : Int × Int) s' => match v with | (a176, a177) => OK h (mo b0 Ac p0 :: O) ∧ WS s' ⟨Al 220 [(0, Aq 3 b0 p0), (1, .int .i64 p1), (2, .int .i64 p2), (3, .int .i64 p3), (4, .fn (.func f4) fi4 ca4), (18, .int .i64 (IntKind.wrap .i64 (DU .u64 (IntKind.wrap .u64 (IntKind.wrap .i64 (p1 + p3))) (1 : Int)))), (19, .int .i64 (IntKind.wrap .i64 ((IntKind.wrap .i64 (DU .u64 (IntKind.wrap .u64 (IntKind.wrap .i64 (p1 + p3))) (1 : Int))) + p2))), (20, .int .i64 a176), (21, .int .i64 a177)], Hp h (mo b0 Ac p0 :: O)⟩) (fun J178 hF => ?_) ?_
   ·refine Ib ?_
    refine Tm ?_
    refine Au rfl hF (fun hb179 hF => ?_) fun hb179 hF => ?_
    ·refine Ib ?_
     refine QB ?_
     refine TH ?_
     exact ⟨((IntKind.wrap .i64 ((IntKind.wrap .i64 ((IntKind.wrap .i64 (DU .u64 (IntKind.wrap .u64 (IntKind.wrap .i64 (p1 + p3))) (1 : Int))) + p2)) - p3)), (IntKind.wrap .i64 (DU .u64 (IntKind.wrap .u64 (IntKind.wrap .i64 (p1 + p3))) (1 : Int)))), hF, oy ok, wy ok⟩
    ·refine NQ ?_
     refine TH ?_
     exact ⟨(p1, p2), hF, oy ok, wy ok⟩
   ·rintro ⟨a176, a177⟩ s' hF ⟨ok, hws⟩
    refine AO hws ?_
    clear hws s'
    refine FA ?_
    refine QB ?_
    refine A5 hF (fun (a187 : Int) s' => OK h (mo b0 Ac p0 :: O) ∧ WS s' ⟨Al 220 [(0, Aq 3 b0 p0), (1, .int .i64 p1), (2, .int .i64 p2), (3, .int .i64 p3), (4, .fn (.func f4) fi4 ca4), (18, .int .i64 (IntKind.wrap .i64 (DU .u64 (IntKind.wrap .u64 (IntKind.wrap .i64 (p1 + p3))) (1 : Int)))), (19, .int .i64 (IntKind.wrap .i64 ((IntKind.wrap .i64 (DU .u64 (IntKind.wrap .u64 (IntKind.wrap .i64 (p1 + p3))) (1 : Int))) + p2))), (20, .int .i64 a187)], Hp h (mo b0 Ac p0 :: O)⟩) (fun J188 hF => ?_) ?_
    ·refine FB ?_
     refine Cg (σ := Int × Int) hF (fun (v : Int × Int) s' => match v with | (a189, a190) => OK h (mo b0 Ac p0 :: O) ∧ WS s' ⟨Al 220 [(0, Aq 3 b0 p0), (1, .int .i64 p1), (2, .int .i64 p2), (3, .int .i64 p3), (4, .fn (.func f4) fi4 ca4), (18, .int .i64 (IntKind.wrap .i64 (DU .u64 (IntKind.wrap .u64 (IntKind.wrap .i64 (p1 + p3))) (1 : Int)))), (19, .int .i64 (IntKind.wrap .i64 ((IntKind.wrap .i64 (DU .u64 (IntKind.wrap .u64 (IntKind.wrap .i64 (p1 + p3))) (1 : Int))) + p2))), (20, .int .i64 a189), (21, .int .i64 a190), (22, .int .i64 (IntKind.wrap .i64 ((IntKind.wrap .i64 ((IntKind.wrap .i64 (DU .u64 (IntKind.wrap .u64 (IntKind.wrap .i64 (p1 + p3))) (1 : Int))) + p2)) - (1 : Int))))], Hp h (mo b0 Ac p0 :: O)⟩) ?_ ?_
     ·exact ⟨oy ok, wy ok⟩
     ·rintro G191 hG192 rec193 ⟨a189, a190⟩ s' ih194 hF ⟨ok, hws⟩
      refine AO hws ?_
      clear hws s'
      rw [Bd] at hF
      refine Tp ?_
      refine Au rfl hF (fun hb195 hF => ?_) fun hb195 hF => ?_
      ·refine Cl ?_
       refine O5 ?_
       refine Jn ?_
       refine aN ?_
       refine D4 rfl rfl (Vq rfl) ?_
       refine aa ?_
       refine Mt ?_
       refine EW (mdl []) (by kernel_rfl) (by kernel_rfl) ?_
       refine Le ?_
       refine O0 ?_
       refine Ix ?_
       refine DV zb0 rfl rfl BK Ax hF (fun x196 hx196 hF => ?_)
       refine Fw (q := 3) (j := 0) (f0 := 0) ok rfl zb0 rfl rfl (fun _ => rfl) hx196 rfl rfl (A4 (vs := Ac x196) CO Ax rfl rfl) ?_
       refine GV ?_
       refine DV zb0 rfl rfl BK Ax hF (fun x197 hx197 hF => ?_)
       refine Fw (q := 3) (j := 0) (f0 := 0) ok rfl zb0 rfl rfl (fun _ => rfl) hx197 rfl rfl (A4 (vs := Ac x197) CO Ax rfl rfl) ?_
       refine It rfl (AT (enc := fun r => .int .i64 r) (fun G h hF => hf4 x196 x197 G h hF) _ hF fun x198 _ hF => ?_) (.app (.app (.refl _) (.refl _)) (.refl _))
       refine Ww ?_
       refine OC ?_
       refine Au rfl hF (fun hb199 hF => ?_) fun hb199 hF => ?_
       ·refine O4 ?_
        refine ih194 ((IntKind.wrap .i64 ((IntKind.wrap .i64 (DU .u64 (IntKind.wrap .u64 (IntKind.wrap .i64 (a189 + a190))) (1 : Int))) + (1 : Int))), a190) _ hF ?_
        exact ⟨oy ok, wy ok⟩
       ·refine TH ?_
        refine ih194 (a189, (IntKind.wrap .i64 (DU .u64 (IntKind.wrap .u64 (IntKind.wrap .i64 (a189 + a190))) (1 : Int)))) _ hF ?_
        exact ⟨oy ok, wy ok⟩
      ·refine DS ?_
       replace hF := hG192 _ (Ak hF)
       exact ⟨a189, hF, oy ok, wy ok⟩
    ·rintro a187 s' hF ⟨ok, hws⟩
     refine AO hws ?_
     clear hws s'
     refine Ib ?_
     refine QB ?_
     refine A5 hF (fun (a206 : (List Aa)) s' => (b0 = 0 → a206 = []) ∧ OK h (mo b0 Ac a206 :: O) ∧ WS s' ⟨Al 220 [(0, Aq 3 b0 a206), (1, .int .i64 p1), (3, .int .i64 p3), (4, .fn (.func f4) fi4 ca4), (18, .int .i64 (IntKind.wrap .i64 (DU .u64 (IntKind.wrap .u64 (IntKind.wrap .i64 (p1 + p3))) (1 : Int)))), (20, .int .i64 a187), (24, .int .i64 (IntKind.wrap .i64 ((IntKind.wrap .i64 ((IntKind.wrap .i64 (DU .u64 (IntKind.wrap .u64 (IntKind.wrap .i64 (p1 + p3))) (1 : Int))) + p2)) - a187)))], Hp h (mo b0 Ac a206 :: O)⟩) (fun J208 hF => ?_) ?_
     ·refine Ib ?_
      refine TI ?_
      refine Cp (b := (decide (a187 < p2))) 4 185 (.bool ((decide (a187 < p2)) && (decide (p2 < (IntKind.wrap .i64 ((IntKind.wrap .i64 ((IntKind.wrap .i64 (DU .u64 (IntKind.wrap .u64 (IntKind.wrap .i64 (p1 + p3))) (1 : Int))) + p2)) - a187)))))) (fun hb209 => ?_) (fun hb209 => ?_) ?_
      ·refine V7 ?_
       refine V8 ?_
       exact th
      ·refine KK ?_
       exact th
      refine AY ?_
      refine Au rfl hF (fun hb210 hF => ?_) fun hb210 hF => ?_
      ·refine Hu ?_
       refine O0 ?_
       refine SR ?_
       refine cl (okT (fun _ hF => Gx _ _ _ _ (p0 := p0) (f4 := f4) (fi4 := fi4) (ca4 := ca4) (b0 := b0) h (O) hf4 zb0 ok hF) hF fun x211 _ _ _ hq hF => ?_)
       obtain ⟨rfl, zr212, ok, rfl⟩ := hq
       obtain ⟨a213, ha213, hF⟩ := D9 hF
       obtain ⟨_, hl214, hF⟩ := BD hF
       rw [← ha213] at ok zr212
       rw [← ha213]
       have hms : Aq 3 b0 p0 = Aq 3 b0 a213 := CW (E6 hl214)
       try rw [hms] at ok
       try rw [hms]
       clear hms
       refine AY ?_
       exact ⟨a213, hF, zr212, oy ok, wy ok⟩
      ·refine Cl ?_
       exact ⟨p0, hF, zb0, oy ok, wy ok⟩
     ·rintro a206 s' hF ⟨kz207, ok, hws⟩
      refine AO hws ?_
      clear hws s'
      refine A5 hF (fun (a221 : (List Aa)) s' => (b0 = 0 → a221 = []) ∧ OK h (mo b0 Ac a221 :: O) ∧ WS s' ⟨Al 220 [(0, Aq 3 b0 a221), (3, .int .i64 p3), (4, .fn (.func f4) fi4 ca4), (18, .int .i64 (IntKind.wrap .i64 (DU .u64 (IntKind.wrap .u64 (IntKind.wrap .i64 (p1 + p3))) (1 : Int)))), (24, .int .i64 (IntKind.wrap .i64 ((IntKind.wrap .i64 ((IntKind.wrap .i64 (DU .u64 (IntKind.wrap .u64 (IntKind.wrap .i64 (p1 + p3))) (1 : Int))) + p2)) - a187)))], Hp h (mo b0 Ac a221 :: O)⟩) (fun J223 hF => ?_) ?_
      ·refine Ib ?_
       refine TI ?_
       refine Cp (b := (decide (p1 < a187))) 4 199 (.bool ((decide (p1 < a187)) && (decide (a187 < (IntKind.wrap .i64 (DU .u64 (IntKind.wrap .u64 (IntKind.wrap .i64 (p1 + p3))) (1 : Int))))))) (fun hb224 => ?_) (fun hb224 => ?_) ?_
       ·refine V7 ?_
        refine V8 ?_
        exact th
       ·refine KK ?_
        exact th
       refine AY ?_
       refine Au rfl hF (fun hb225 hF => ?_) fun hb225 hF => ?_
       ·refine Hu ?_
        refine O0 ?_
        refine SR ?_
        refine cl (self_ok (p0 := a206) (f4 := f4) (fi4 := fi4) (ca4 := ca4) (b0 := b0) h (O) hf4 kz207 ok hF fun x226 _ zr227 ok hF => ?_)
        obtain ⟨a228, ha228, hF⟩ := D9 hF
        obtain ⟨_, hl229, hF⟩ := BD hF
        rw [← ha228] at ok zr227
        rw [← ha228]
        have hms : Aq 3 b0 a206 = Aq 3 b0 a228 := CW (E6 hl229)
        try rw [hms] at ok
        try rw [hms]
        clear hms
        refine AY ?_
        exact ⟨a228, hF, zr227, oy ok, wy ok⟩
       ·refine Cl ?_
        exact ⟨a206, hF, kz207, oy ok, wy ok⟩
      ·rintro a221 s' hF ⟨kz222, ok, hws⟩
       refine AO hws ?_
       clear hws s'
       refine Ib ?_
       refine TI ?_
       refine Cp (b := (decide ((IntKind.wrap .i64 (DU .u64 (IntKind.wrap .u64 (IntKind.wrap .i64 (p1 + p3))) (1 : Int))) < (IntKind.wrap .i64 ((IntKind.wrap .i64 ((IntKind.wrap .i64 (DU .u64 (IntKind.wrap .u64 (IntKind.wrap .i64 (p1 + p3))) (1 : Int))) + p2)) - a187))))) 4 213 (.bool ((decide ((IntKind.wrap .i64 (DU .u64 (IntKind.wrap .u64 (IntKind.wrap .i64 (p1 + p3))) (1 : Int))) < (IntKind.wrap .i64 ((IntKind.wrap .i64 ((IntKind.wrap .i64 (DU .u64 (IntKind.wrap .u64 (IntKind.wrap .i64 (p1 + p3))) (1 : Int))) + p2)) - a187)))) && (decide ((IntKind.wrap .i64 ((IntKind.wrap .i64 ((IntKind.wrap .i64 (DU .u64 (IntKind.wrap .u64 (IntKind.wrap .i64 (p1 + p3))) (1 : Int))) + p2)) - a187)) < p3)))) (fun hb230 => ?_) (fun hb230 => ?_) ?_
       ·refine V7 ?_
        refine V8 ?_
        exact th
       ·refine KK ?_
        exact th
       refine AY ?_
       refine Au rfl hF (fun hb231 hF => ?_) fun hb231 hF => ?_
       ·refine Hu ?_
        refine O0 ?_
        refine SR ?_
        refine cl (self_ok (p0 := a221) (f4 := f4) (fi4 := fi4) (ca4 := ca4) (b0 := b0) h (O) hf4 kz222 ok hF fun x232 _ zr233 ok hF => ?_)
        obtain ⟨a234, ha234, hF⟩ := D9 hF
        obtain ⟨_, hl235, hF⟩ := BD hF
        rw [← ha234] at ok zr233
        rw [← ha234]
        have hms : Aq 3 b0 a221 = Aq 3 b0 a234 := CW (E6 hl235)
        try rw [hms] at ok
        try rw [hms]
        clear hms
        refine AY ?_
        refine xr ?_
        refine Jf (fn := Tryz.f188) rfl .nil ?_
        exact ⟨_, _, (.refl _), hy ok, _, Ak hF, rfl, zr233, oy ok, rfl⟩
       ·refine Cl ?_
        refine xr ?_
        refine Jf (fn := Tryz.f188) rfl .nil ?_
        exact ⟨_, _, (.refl _), hy ok, _, Ak hF, rfl, kz222, oy ok, rfl⟩
theorem Ei (p0 : List Aa) (p1 : Int) (p2 : Int) (p3 : Int) (p4 : Aa → Aa → Option Int) (f4 : FuncId) (fi4 : List D) (ca4 : List D) (b0 : Nat) {G : (List Aa) → Prop} (h : Heap) (O : List (Nat × AObj)) (hf4 : ∀ (x0 : Aa) (x1 : Aa) (G : Int → Prop) (h : Heap), Am (p4 x0 x1) G → CallsA Tryz.prog f4 (fi4 ++ [.agg (Ac x0), .agg (Ac x1)] ++ ca4) h fun d h' => ∃ r, G r ∧ d = .int .i64 r ∧ h' = h) (zb0 : b0 = 0 → p0 = []) (ok : OK h (mo b0 Ac p0 :: O)) (hF : Am (B5 p0 p1 p2 p3 p4) G) : CallsA Tryz.prog 188 [Aq 3 b0 p0, .int .i64 p1, .int .i64 p2, .int .i64 p3, .fn (.func f4) fi4 ca4] (Hp h (mo b0 Ac p0 :: O)) fun d h' => ∃ r, G r ∧ d = .tup [] ∧ (b0 = 0 → r = []) ∧ OK h (mo b0 Ac r :: O) ∧ h' = Hp h (mo b0 Ac r :: O) := Gc Ay h O hf4 zb0 ok hF
theorem Gv (p0 : List Aa) (p1 : Int) (p2 : Aa → Aa → Option Int) (f2 : FuncId) (fi2 : List D) (ca2 : List D) (b0 : Nat) {G : (List Aa) → Prop} (h : Heap) (O : List (Nat × AObj)) (hf2 : ∀ (x0 : Aa) (x1 : Aa) (G : Int → Prop) (h : Heap), Am (p2 x0 x1) G → CallsA Tryz.prog f2 (fi2 ++ [.agg (Ac x0), .agg (Ac x1)] ++ ca2) h fun d h' => ∃ r, G r ∧ d = .int .i64 r ∧ h' = h) (zb0 : b0 = 0 → p0 = []) (ok : OK h (mo b0 Ac p0 :: O)) (hF : Am (Cs p0 p1 p2) G) : CallsA Tryz.prog 172 [Aq 3 b0 p0, .int .i64 p1, .fn (.func f2) fi2 ca2] (Hp h (mo b0 Ac p0 :: O)) fun d h' => ∃ r, G r ∧ d = .tup [] ∧ (b0 = 0 → r = []) ∧ OK h (mo b0 Ac r :: O) ∧ h' = Hp h (mo b0 Ac r :: O) := by
 refine CallsA.ret ?_
 refine CJ Tryz.func172 rfl ej Tryz.ntmps172 rfl ?_
 rw [Cs] at hF
 refine HI ?_
 refine FA ?_
 refine IY ?_
 refine A5 hF (fun (v : (List Aa) × Int) s' => match v with | (a10, a12) => (b0 = 0 → a10 = []) ∧ OK h (mo b0 Ac a10 :: O) ∧ WS s' ⟨Al 63 [(0, Aq 3 b0 a10), (1, .int .i64 p1), (2, .fn (.func f2) fi2 ca2), (6, .int .i64 (20 : Int)), (7, .int .i64 a12)], Hp h (mo b0 Ac a10 :: O)⟩) (fun J13 hF => ?_) ?_
 ·refine FB ?_
  refine Cg (σ := (List Aa) × Int × Int) hF (fun (v : (List Aa) × Int × Int) s' => match v with | (a14, a16, a17) => (b0 = 0 → a14 = []) ∧ OK h (mo b0 Ac a14 :: O) ∧ WS s' ⟨Al 63 [(0, Aq 3 b0 a14), (1, .int .i64 p1), (2, .fn (.func f2) fi2 ca2), (6, .int .i64 (20 : Int)), (7, .int .i64 a16), (8, .int .i64 a17)], Hp h (mo b0 Ac a14 :: O)⟩) ?_ ?_
  ·exact ⟨zb0, oy ok, wy ok⟩
  ·rintro G18 hG19 rec20 ⟨a14, a16, a17⟩ s' ih21 hF ⟨kz15, ok, hws⟩
   refine AO hws ?_
   clear hws s'
   rw [BA] at hF
   refine Po ?_
   refine V1 ?_
   refine AY ?_
   refine Au rfl hF (fun hb22 hF => ?_) fun hb22 hF => ?_
   ·refine Cl ?_
    refine NU ?_
    refine O0 ?_
    refine Le ?_
    refine cl (okT (fun _ hF => DE _ _ _ (p0 := a14) (f3 := f2) (fi3 := fi2) (ca3 := ca2) (b0 := b0) h (O) hf2 kz15 ok hF) hF fun x23 _ _ _ hq hF => ?_)
    obtain ⟨rfl, zr24, ok, rfl⟩ := hq
    obtain ⟨a25, ha25, hF⟩ := D9 hF
    obtain ⟨_, hl26, hF⟩ := BD hF
    rw [← ha25] at ok zr24
    rw [← ha25]
    have hms : Aq 3 b0 a14 = Aq 3 b0 a25 := CW (E6 hl26)
    try rw [hms] at ok
    try rw [hms]
    clear hms
    refine AY ?_
    refine NQ ?_
    refine RH ?_
    refine Zr ?_
    refine ih21 (a25, a17, (IntKind.wrap .i64 (a17 + (20 : Int)))) _ hF ?_
    exact ⟨zr24, oy ok, wy ok⟩
   ·refine DS ?_
    replace hF := hG19 _ (Ak hF)
    exact ⟨(a14, a16), hF, kz15, oy ok, wy ok⟩
 ·rintro ⟨a10, a12⟩ s' hF ⟨kz11, ok, hws⟩
  refine AO hws ?_
  clear hws s'
  refine Bg ?_
  refine O0 ?_
  refine Le ?_
  refine cl (okT (fun _ hF => DE _ _ _ (p0 := a10) (f3 := f2) (fi3 := fi2) (ca3 := ca2) (b0 := b0) h (O) hf2 kz11 ok hF) hF fun x27 _ _ _ hq hF => ?_)
  obtain ⟨rfl, zr28, ok, rfl⟩ := hq
  obtain ⟨a29, ha29, hF⟩ := D9 hF
  obtain ⟨_, hl30, hF⟩ := BD hF
  rw [← ha29] at ok zr28
  rw [← ha29]
  have hms : Aq 3 b0 a10 = Aq 3 b0 a29 := CW (E6 hl30)
  try rw [hms] at ok
  try rw [hms]
  clear hms
  refine AY ?_
  refine FB ?_
  refine Cg (σ := (List Aa) × Int) hF (fun (v : (List Aa) × Int) s' => match v with | (a31, a33) => (b0 = 0 → a31 = []) ∧ OK h (mo b0 Ac a31 :: O) ∧ WS s' ⟨Al 63 [(0, Aq 3 b0 a31), (1, .int .i64 p1), (2, .fn (.func f2) fi2 ca2), (6, .int .i64 a33)], Hp h (mo b0 Ac a31 :: O)⟩) ?_ ?_
  ·exact ⟨zr28, oy ok, wy ok⟩
  ·rintro G34 hG35 rec36 ⟨a31, a33⟩ s' ih37 hF ⟨kz32, ok, hws⟩
   refine AO hws ?_
   clear hws s'
   rw [BC] at hF
   refine Tp ?_
   refine Au rfl hF (fun hb38 hF => ?_) fun hb38 hF => ?_
   ·refine Cl ?_
    refine O5 ?_
    refine D4 rfl rfl (NM ..) ?_
    refine IY ?_
    refine A5 hF (fun (v : (List Aa) × Int) s' => match v with | (a48, a50) => (b0 = 0 → a48 = []) ∧ OK h (mo b0 Ac a48 :: O) ∧ WS s' ⟨Al 63 [(0, Aq 3 b0 a48), (1, .int .i64 p1), (2, .fn (.func f2) fi2 ca2), (6, .int .i64 a33), (7, .int .i64 a50)], Hp h (mo b0 Ac a48 :: O)⟩) (fun J51 hF => ?_) ?_
    ·refine FB ?_
     refine Cg (σ := (List Aa) × Int × Int) hF (fun (v : (List Aa) × Int × Int) s' => match v with | (a52, a54, a55) => (b0 = 0 → a52 = []) ∧ OK h (mo b0 Ac a52 :: O) ∧ WS s' ⟨Al 63 [(0, Aq 3 b0 a52), (1, .int .i64 p1), (2, .fn (.func f2) fi2 ca2), (6, .int .i64 a33), (7, .int .i64 a54), (8, .int .i64 a55)], Hp h (mo b0 Ac a52 :: O)⟩) ?_ ?_
     ·exact ⟨kz32, oy ok, wy ok⟩
     ·rintro G56 hG57 rec58 ⟨a52, a54, a55⟩ s' ih59 hF ⟨kz53, ok, hws⟩
      refine AO hws ?_
      clear hws s'
      rw [BU] at hF
      refine Po ?_
      refine V1 ?_
      refine AY ?_
      refine Au rfl hF (fun hb60 hF => ?_) fun hb60 hF => ?_
      ·refine Cl ?_
       refine NU ?_
       refine O0 ?_
       refine Jn ?_
       refine SR ?_
       refine cl (okT (fun _ hF => Ei _ _ _ _ (p0 := a52) (f4 := f2) (fi4 := fi2) (ca4 := ca2) (b0 := b0) h (O) hf2 kz53 ok hF) hF fun x61 _ _ _ hq hF => ?_)
       obtain ⟨rfl, zr62, ok, rfl⟩ := hq
       obtain ⟨a63, ha63, hF⟩ := D9 hF
       obtain ⟨_, hl64, hF⟩ := BD hF
       rw [← ha63] at ok zr62
       rw [← ha63]
       have hms : Aq 3 b0 a52 = Aq 3 b0 a63 := CW (E6 hl64)
       try rw [hms] at ok
       try rw [hms]
       clear hms
       refine AY ?_
       refine NQ ?_
       refine Wr ?_
       refine D4 rfl rfl (NM ..) ?_
       refine I6 ?_
       refine Fx ?_
       refine ih59 (a63, a55, (IntKind.wrap .i64 (a55 + (IntKind.wrap .i64 ((2 : Int) * a33))))) _ hF ?_
       exact ⟨zr62, oy ok, wy ok⟩
      ·refine DS ?_
       replace hF := hG57 _ (Ak hF)
       exact ⟨(a52, a54), hF, kz53, oy ok, wy ok⟩
    ·rintro ⟨a48, a50⟩ s' hF ⟨kz49, ok, hws⟩
     refine AO hws ?_
     clear hws s'
     refine A5 hF (fun (a70 : (List Aa)) s' => (b0 = 0 → a70 = []) ∧ OK h (mo b0 Ac a70 :: O) ∧ WS s' ⟨Al 63 [(0, Aq 3 b0 a70), (1, .int .i64 p1), (2, .fn (.func f2) fi2 ca2), (6, .int .i64 a33)], Hp h (mo b0 Ac a70 :: O)⟩) (fun J72 hF => ?_) ?_
     ·refine FA ?_
      refine Zr ?_
      refine Ib ?_
      refine K9 ?_
      refine Au rfl hF (fun hb73 hF => ?_) fun hb73 hF => ?_
      ·refine Hu ?_
       refine O0 ?_
       refine SR ?_
       refine cl (okT (fun _ hF => Ei _ _ _ _ (p0 := a48) (f4 := f2) (fi4 := fi2) (ca4 := ca2) (b0 := b0) h (O) hf2 kz49 ok hF) hF fun x74 _ _ _ hq hF => ?_)
       obtain ⟨rfl, zr75, ok, rfl⟩ := hq
       obtain ⟨a76, ha76, hF⟩ := D9 hF
       obtain ⟨_, hl77, hF⟩ := BD hF
       rw [← ha76] at ok zr75
       rw [← ha76]
       have hms : Aq 3 b0 a48 = Aq 3 b0 a76 := CW (E6 hl77)
       try rw [hms] at ok
       try rw [hms]
       clear hms
       refine AY ?_
       exact ⟨a76, hF, zr75, oy ok, wy ok⟩
      ·refine Cl ?_
       exact ⟨a48, hF, kz49, oy ok, wy ok⟩
     ·rintro a70 s' hF ⟨kz71, ok, hws⟩
      refine AO hws ?_
      clear hws s'
      refine RH ?_
      refine D4 rfl rfl (NM ..) ?_
      refine Fx ?_
      refine ih37 (a70, (IntKind.wrap .i64 (a33 * (2 : Int)))) _ hF ?_
      exact ⟨kz71, oy ok, wy ok⟩
   ·refine DS ?_
    replace hF := hG35 _ (Ak hF)
    refine xr ?_
    refine Jf (fn := Tryz.f172) rfl .nil ?_
    exact ⟨_, _, (.refl _), hy ok, _, Ak hF, rfl, kz32, oy ok, rfl⟩
theorem ES (p0 : List Aa) (p1 : Aa → Aa → Option Int) (f1 : FuncId) (fi1 : List D) (ca1 : List D) (b0 : Nat) {G : (List Aa) → Prop} (h : Heap) (O : List (Nat × AObj)) (hf1 : ∀ (x0 : Aa) (x1 : Aa) (G : Int → Prop) (h : Heap), Am (p1 x0 x1) G → CallsA Tryz.prog f1 (fi1 ++ [.agg (Ac x0), .agg (Ac x1)] ++ ca1) h fun d h' => ∃ r, G r ∧ d = .int .i64 r ∧ h' = h) (zb0 : b0 = 0 → p0 = []) (ok : OK h (mo b0 Ac p0 :: O)) (hF : Am (A8 p0 p1) G) : CallsA Tryz.prog 138 [Aq 3 b0 p0, .fn (.func f1) fi1 ca1] (Hp h (mo b0 Ac p0 :: O)) fun d h' => ∃ r, G r ∧ d = .tup [] ∧ (b0 = 0 → r = []) ∧ OK h (mo b0 Ac r :: O) ∧ h' = Hp h (mo b0 Ac r :: O) := by
 refine CallsA.ret ?_
 refine CJ Tryz.func138 rfl dQ Tryz.ntmps138 rfl ?_
 rw [A8] at hF
 refine Hu ?_
 refine LG ?_
 refine LG ?_
 refine Kg zb0 rfl BK ?_
 refine Le ?_
 refine cl (okT (fun _ hF => Gv _ _ (p0 := p0) (f2 := f1) (fi2 := fi1) (ca2 := ca1) (b0 := b0) h (O) hf1 zb0 ok hF) hF fun x1 _ _ _ hq hF => ?_)
 obtain ⟨rfl, zr2, ok, rfl⟩ := hq
 obtain ⟨a3, ha3, hF⟩ := D9 hF
 obtain ⟨_, hl4, hF⟩ := BD hF
 rw [← ha3] at ok zr2
 rw [← ha3]
 have hms : Aq 3 b0 p0 = Aq 3 b0 a3 := CW (E6 hl4)
 try rw [hms] at ok
 try rw [hms]
 clear hms
 refine AY ?_
 refine xr ?_
 refine Jf (fn := Tryz.f138) rfl .nil ?_
 exact ⟨_, _, (.refl _), hy ok, _, Ak hF, rfl, zr2, oy ok, rfl⟩
theorem Ho (p0 : List UInt8) {G : Bool → Prop} (h : Heap) (hF : Am (Er p0) G) : CallsA Tryz.prog 154 [.str p0] h fun d h' => ∃ r, G r ∧ d = .bool r ∧ h' = h := by
 refine CallsA.ret ?_
 refine Be Tryz.func154 rfl dk Tryz.ntmps154 rfl (fun ok => ?_)
 rw [Er] at hF
 refine Ic ?_
 refine Q1 ?_
 refine RA ?_
 refine Ep ?_
 exact rt
theorem Ed (p0 : List UInt8) (p1 : List UInt8) {G : Int → Prop} (h : Heap) (hF : Am (Cu p0 p1) G) : CallsA Tryz.prog 108 [.str p0, .str p1] h fun d h' => ∃ r, G r ∧ d = .int .i64 r ∧ h' = h := by
 refine CallsA.ret ?_
 refine Be Tryz.func108 rfl cI Tryz.ntmps108 rfl (fun ok => ?_)
 rw [Cu] at hF
 refine HI ?_
 refine Fz ?_
 refine cl (AT (fun _ h hF => Ho _ h hF) _ hF fun x1 _ hF => ?_)
 refine CS ?_
 refine Fz ?_
 refine cl (AT (fun _ h hF => Ho _ h hF) _ hF fun x2 _ hF => ?_)
 refine CS ?_
 refine Nc ?_
 refine Uw ?_
 refine Au rfl hF (fun hb3 hF => ?_) fun hb3 hF => ?_
 ·refine Nc ?_
  refine Uw ?_
  refine Au rfl hF (fun hb4 hF => ?_) fun hb4 hF => ?_
  ·refine DI ?_
   exact rt
  ·refine SN ?_
   exact rt
 ·refine HE ?_
  refine Bg ?_
  refine Uw ?_
  refine Au rfl hF (fun hb5 hF => ?_) fun hb5 hF => ?_
  ·refine DI ?_
   exact rt
  ·refine HE ?_
   refine Q1 ?_
   refine D4 rfl rfl cU ?_
   refine AY ?_
   refine Au rfl hF (fun hb6 hF => ?_) fun hb6 hF => ?_
   ·refine DI ?_
    exact rt
   ·refine HE ?_
    refine Q1 ?_
    refine D4 rfl rfl cy ?_
    refine AY ?_
    refine Au rfl hF (fun hb7 hF => ?_) fun hb7 hF => ?_
    ·refine DI ?_
     exact rt
    ·refine SN ?_
     exact rt
theorem JV (p0 : List Int) {G : Int → Prop} (h : Heap) (hF : Am (FZ p0) G) : CallsA Tryz.prog 107 [.sl 1 (List.map Pz p0) 0] h fun d h' => ∃ r, G r ∧ d = .int .i64 r ∧ h' = h := by
 refine CallsA.ret ?_
 refine Be Tryz.func107 rfl cm Tryz.ntmps107 rfl (fun ok => ?_)
 rw [FZ] at hF
 refine HI ?_
 refine HI ?_
 refine A5 hF (fun (_ : Unit) s' => OK h [] ∧ WS s' ⟨Al 18 [(3, .int .i64 (0 : Int))], Hp h []⟩) (fun J5 hF => ?_) ?_
 ·refine ET ?_
  refine HU rfl PF ?_
  refine Ia ?_
  refine Cg (σ := Int) hF (fun (a6 : Int) s' => OK h [] ∧ WS s' ⟨Al 18 [(3, .int .i64 (0 : Int)), (6, .sl 1 (List.map Pz p0) 0), (7, .int .i64 (p0.length : Int)), (8, .int .i64 a6)], Hp h []⟩) ?_ ?_
  ·exact ⟨oy ok, wy ok⟩
  ·rintro G7 hG8 rec9 a6 s' ih10 hF ⟨ok, hws⟩
   refine AO hws ?_
   clear hws s'
   rw [E8] at hF
   refine Ih ?_
   refine Au rfl hF (fun hb11 hF => ?_) fun hb11 hF => ?_
   ·refine Sn ?_
    refine Bg ?_
    refine Gh rfl rfl PF AN hF (fun x12 _ hF => ?_)
    refine Zn ?_
    refine Fx ?_
    refine Ib ?_
    refine MB ?_
    refine Au rfl hF (fun hb13 hF => ?_) fun hb13 hF => ?_
    ·refine If ?_
     replace hF := hG8 _ (Ak hF)
     exact rt
    ·refine KZ ?_
     refine ih10 (IntKind.wrap .i64 (a6 + (1 : Int))) _ hF ?_
     exact ⟨oy ok, wy ok⟩
   ·refine DS ?_
    replace hF := hG8 _ (Ak hF)
    exact ⟨(), hF, oy ok, wy ok⟩
 ·rintro ⟨⟩ s' hF ⟨ok, hws⟩
  refine AO hws ?_
  clear hws s'
  refine If ?_
  exact rt
theorem IX (p0 : Aa) (p1 : Aa) {G : Int → Prop} (h : Heap) (hF : Am (C6 p0 p1) G) : CallsA Tryz.prog 139 [.agg (Ac p0), .agg (Ac p1)] h fun d h' => ∃ r, G r ∧ d = .int .i64 r ∧ h' = h := by
 refine CallsA.ret ?_
 refine Be Tryz.func139 rfl cw Tryz.ntmps139 rfl (fun ok => ?_)
 rw [C6] at hF
 refine Bg ?_
 refine Dc rfl rfl rfl rfl ?_
 refine Dc rfl rfl rfl rfl ?_
 refine Mt ?_
 refine UI (mdl [(7, 3), (10, 3), (14, 3), (17, 3)]) [0, 1, 2, 3, 4, 5, 7, 8, 9, 10, 11, 12, 6, 13, 14, 15, 16] [_, _, _, _, _, _, _, _, _, _, _, _, _, _, _, _, _] (by kernel_rfl) rfl rfl (by kernel_rfl) ?_
 refine SV ?_
 refine UC ?_
 refine F7 ?_
 refine SV ?_
 refine UC ?_
 refine F7 ?_
 refine SV ?_
 refine ZS ?_
 refine F7 ?_
 refine SV ?_
 refine ZS ?_
 refine F7 ?_
 refine cl (AT (fun _ h hF => Ed _ _ h hF) _ hF fun x1 _ hF => ?_)
 refine cl (AT (fun _ h hF => Ed _ _ h hF) _ hF fun x2 _ hF => ?_)
 refine Fq (cs := [.int .i64 x1, .int .i64 x2]) (es := (List.map Pz [x1, x2])) rfl PC rfl (by kernel_rfl) (by kernel_rfl) ?_
 refine cl (AT (fun _ h hF => JV _ h hF) _ hF fun x3 _ hF => ?_)
 refine Fp ?_
 exact rt
theorem JJ (p0 : Ao) (p1 : List TP) {G : (List Aa) × Int → Prop} (h : Heap) (hF : Am (CD p0 p1) G) : CallsA Tryz.prog 89 [.agg (A0 p0), .sl 2 (List.map cP p1) 0] h fun d h' => ∃ r, G r ∧ d = .tup [.sl 3 (List.map Ac r.1) 0, .int .i64 r.2] ∧ h' = h := by
 refine CallsA.ret ?_
 refine Be Tryz.func89 rfl gi Tryz.ntmps89 rfl (fun ok => ?_)
 rw [CD] at hF
 refine Bg ?_
 refine Dc rfl rfl rfl rfl ?_
 refine S_a (v := .snil) rfl ?_
 refine Eg 4 (v := .sl 3 (List.map Ac ([] : List Aa)) 0) (.nil _) ?_
 refine Fx ?_
 refine Bg ?_
 refine S_a (v := .snil) rfl ?_
 refine NI Ac ok (fun ok => ?_)
 refine AY ?_
 refine A5 hF (fun (a37 : (List Aa)) s' => ∃ g36 : Nat, (g36 = 0 → a37 = []) ∧ OK h [mo g36 Ac a37] ∧ WS s' ⟨Al 82 [(6, Aq 3 g36 a37)], Hp h [mo g36 Ac a37]⟩) (fun J38 hF => ?_) ?_
 ·refine ET ?_
  refine HU rfl IR ?_
  refine Ia ?_
  refine Cg (σ := (List Aa) × Int) hF (fun (v : (List Aa) × Int) s' => match v with | (a40, a41) => ∃ g39 : Nat, (g39 = 0 → a40 = []) ∧ OK h [mo g39 Ac a40] ∧ WS s' ⟨Al 82 [(2, .iptr (A0 p0)), (6, Aq 3 g39 a40), (17, .sl 2 (List.map cP p1) 0), (18, .int .i64 (p1.length : Int)), (19, .int .i64 a41)], Hp h [mo g39 Ac a40]⟩) ?_ ?_
  ·exact ⟨0, (fun _ => rfl), oy ok, wy ok⟩
  ·rintro G42 hG43 rec44 ⟨a40, a41⟩ s' ih45 hF ⟨g39, zg39, ok, hws⟩
   refine AO hws ?_
   clear hws s'
   rw [Cb] at hF
   refine Ih ?_
   refine Au rfl hF (fun hb46 hF => ?_) fun hb46 hF => ?_
   ·refine Cl ?_
    refine A5 hF (fun (a62 : (List Aa)) s' => ∃ g61 : Nat, (g61 = 0 → a62 = []) ∧ OK h [mo g61 Ac a62] ∧ WS s' ⟨Al 82 [(2, .iptr (A0 p0)), (6, Aq 3 g61 a62), (17, .sl 2 (List.map cP p1) 0), (18, .int .i64 (p1.length : Int)), (19, .int .i64 a41)], Hp h [mo g61 Ac a62]⟩) (fun J63 hF => ?_) ?_
    ·refine FB ?_
     refine Ec ?_
     refine CR (mdl [(8, 1)]) ?_
     refine Gh rfl rfl IR EC hF (fun x64 _ hF => ?_)
     refine AX rfl (A4 (vs := cP x64) HM EC rfl rfl) ?_
     refine DB ok rfl IN ?_
     intro i65 hi65 ok
     refine Cv (j := 0) (cs' := [.str x64.Name, .str x64.Value]) ok rfl rfl rfl hi65 rfl EC rfl rfl (fun ok => ?_)
     refine Ht ?_
     refine Bg ?_
     refine DT (j := 0) ok rfl rfl rfl hi65 (A4 (vs := cP x64) HM EC rfl rfl) ?_
     refine cl (AT (fun _ h hF => H3 _ h hF) _ hF fun x66 _ hF => ?_)
     refine Sg ?_
     refine KM ?_
     refine Uw ?_
     refine Au rfl hF (fun hb67 hF => ?_) fun hb67 hF => ?_
     ·refine DS ?_
      exact ⟨a40, hF, g39, zg39, oy ok, wy ok⟩
     ·refine HE ?_
      refine CR (mdl [(11, 1)]) ?_
      refine AX rfl (A4 (vs := A0 p0) Fb CX rfl rfl) ?_
      refine ZO ?_
      refine Sr ?_
      refine cl (AT (fun _ h hF => Gn _ _ h hF) _ hF fun x68 _ hF => ?_)
      refine I7 ?_
      refine DB ok rfl E9 ?_
      intro i69 hi69 ok
      refine Cv (j := 0) (cs' := [.str x68.1.URI, .str x68.1.Local]) ok rfl rfl rfl hi69 rfl Bz rfl rfl (fun ok => ?_)
      refine WU ?_
      refine Au rfl hF (fun hb70 hF => ?_) fun hb70 hF => ?_
      ·refine FA ?_
       refine S_a (v := .snil) rfl ?_
       refine Eg 4 (v := .sl 3 (List.map Ac ([] : List Aa)) 0) (.nil _) ?_
       refine Fp ?_
       replace hF := hG43 _ (Ak hF)
       exact rt
      ·refine Cl ?_
       refine A5 hF (fun (a73 : (List UInt8)) s' => OK h [(i69, .cells [.str a73, .str x68.1.Local]), (i65, .cells [.str x64.Name, .str x64.Value]), mo g39 Ac a40] ∧ WS s' ⟨Al 82 [(2, .iptr (A0 p0)), (6, Aq 3 g39 a40), (8, .ptr i65 0), (11, .ptr i69 0), (17, .sl 2 (List.map cP p1) 0), (18, .int .i64 (p1.length : Int)), (19, .int .i64 a41)], Hp h [(i69, .cells [.str a73, .str x68.1.Local]), (i65, .cells [.str x64.Name, .str x64.Value]), mo g39 Ac a40]⟩) (fun J74 hF => ?_) ?_
       ·refine Bg ?_
        refine ZO ?_
        refine dS ?_
        refine cl (AT (fun _ h hF => GM _ h hF) _ hF fun x75 _ hF => ?_)
        refine Xj ?_
        refine IM ?_
        refine CS ?_
        refine Sl ?_
        refine AY ?_
        refine Au rfl hF (fun hb76 hF => ?_) fun hb76 hF => ?_
        ·refine Hu ?_
         refine DF rfl K8 As ?_
         refine Cv (j := 0) (cs' := [.str ([] : List UInt8), .str x68.1.Local]) ok rfl rfl rfl hi69 rfl As rfl rfl (fun ok => ?_)
         refine AY ?_
         exact ⟨([] : List UInt8), hF, oy ok, wy ok⟩
        ·refine Cl ?_
         exact ⟨x68.1.URI, hF, oy ok, wy ok⟩
       ·rintro a73 s' hF ⟨ok, hws⟩
        refine AO hws ?_
        clear hws s'
        refine CR (mdl [(55, 1)]) ?_
        refine LG ?_
        refine DT (j := 0) ok rfl rfl rfl hi69 (A4 (vs := AP (⟨a73, x68.1.Local⟩ : Ah)) Du Bz rfl rfl) ?_
        refine YR ?_
        refine dS ?_
        refine CN (v := .agg (Ac (⟨(⟨a73, x68.1.Local⟩ : Ah), x64.Value⟩ : Aa))) (Ej Py Xz rfl) ?_
        refine Fq (cs := [.str (⟨(⟨a73, x68.1.Local⟩ : Ah), x64.Value⟩ : Aa).Name.URI, .str (⟨(⟨a73, x68.1.Local⟩ : Ah), x64.Value⟩ : Aa).Name.Local, .str (⟨(⟨a73, x68.1.Local⟩ : Ah), x64.Value⟩ : Aa).Value]) (es := (List.map Ac [(⟨(⟨a73, x68.1.Local⟩ : Ah), x64.Value⟩ : Aa)])) rfl Sm rfl (by kernel_rfl) (by kernel_rfl) ?_
        refine I4 (j := 2) (M := [(⟨(⟨a73, x68.1.Local⟩ : Ah), x64.Value⟩ : Aa)]) ok zg39 rfl rfl JS (fun _ => rfl) rfl Sm Zx hF ?_
        intro u77 zu77 ok hF
        obtain ⟨a78, ha78, hF⟩ := D9 hF
        rw [← ha78] at ok zu77
        rw [← ha78]
        refine Sa ?_
        exact ⟨a78, hF, u77, zu77, oy ok, wy ok⟩
    ·rintro a62 s' hF ⟨g61, zg61, ok, hws⟩
     refine AO hws ?_
     clear hws s'
     refine R5 ?_
     refine ih45 (a62, (IntKind.wrap .i64 (a41 + (1 : Int)))) _ hF ?_
     exact ⟨g61, zg61, oy ok, wy ok⟩
   ·refine DS ?_
    replace hF := hG43 _ (Ak hF)
    exact ⟨a40, hF, g39, zg39, oy ok, wy ok⟩
 ·rintro a37 s' hF ⟨g36, zg36, ok, hws⟩
  refine AO hws ?_
  clear hws s'
  refine SG ?_
  refine cl (okT (fun _ hF => ES _ (p0 := a37) (f1 := 139) (fi1 := []) (ca1 := []) (b0 := g36) h [] (fun z0 z1 G h hF => IX z0 z1 h hF) zg36 ok hF) hF fun x79 _ _ _ hq hF => ?_)
  obtain ⟨rfl, zr80, ok, rfl⟩ := hq
  obtain ⟨a81, ha81, hF⟩ := D9 hF
  obtain ⟨_, hl82, hF⟩ := BD hF
  rw [← ha81] at ok zr80
  rw [← ha81]
  have hms : Aq 3 g36 a37 = Aq 3 g36 a81 := CW (E6 hl82)
  try rw [hms] at ok
  try rw [hms]
  clear hms
  refine AY ?_
  refine A5 hF (fun (_ : Unit) s' => OK h [mo g36 Ac a81] ∧ WS s' ⟨Al 82 [(6, Aq 3 g36 a81)], Hp h [mo g36 Ac a81]⟩) (fun J95 hF => ?_) ?_
  ·refine SG ?_
   refine Kg zr80 rfl BK ?_
   refine Ia ?_
   refine Cg (σ := Int) hF (fun (a96 : Int) s' => OK h [mo g36 Ac a81] ∧ WS s' ⟨Al 82 [(6, Aq 3 g36 a81), (60, .int .i64 (a81.length : Int)), (61, .int .i64 a96)], Hp h [mo g36 Ac a81]⟩) ?_ ?_
   ·exact ⟨oy ok, wy ok⟩
   ·rintro G97 hG98 rec99 a96 s' ih100 hF ⟨ok, hws⟩
    refine AO hws ?_
    clear hws s'
    rw [BH] at hF
    refine Ih ?_
    refine Au rfl hF (fun hb101 hF => ?_) fun hb101 hF => ?_
    ·refine SQ ?_
     refine A5 hF (fun (a106 : Bool) s' => OK h [mo g36 Ac a81] ∧ WS s' ⟨Al 82 [(6, Aq 3 g36 a81), (60, .int .i64 (a81.length : Int)), (61, .int .i64 a96), (79, .bool a106)], Hp h [mo g36 Ac a81]⟩) (fun J107 hF => ?_) ?_
     ·refine EW (mdl []) (by kernel_rfl) (by kernel_rfl) ?_
      refine Es ?_
      refine UA ?_
      refine Wi (b := (decide ((0 : Int) < a96))) hF (fun hb108 hF => ?_) (fun hb109 hF => ?_)
      ·refine D3 ?_
       refine LG ?_
       refine Ps ?_
       refine DV zr80 rfl rfl BK Ax hF (fun x110 hx110 hF => ?_)
       refine AF ?_
       refine DF rfl JZ Bz ?_
       refine AF ?_
       refine Fw (q := 3) (j := 0) (f0 := 0) ok rfl zr80 rfl rfl (fun _ => rfl) hx110 rfl rfl (A4 (vs := AP x110.Name) Du Bz rfl rfl) ?_
       refine AF ?_
       refine LG ?_
       refine Ps ?_
       refine Wl ?_
       refine DV zr80 rfl rfl BK Ax hF (fun x111 hx111 hF => ?_)
       refine AF ?_
       refine DF rfl JZ Bz ?_
       refine AF ?_
       refine Fw (q := 3) (j := 0) (f0 := 0) ok rfl zr80 rfl rfl (fun _ => rfl) hx111 rfl rfl (A4 (vs := AP x111.Name) Du Bz rfl rfl) ?_
       refine AF ?_
       refine D4 rfl rfl (Yi (b := ((x110.Name.URI == x111.Name.URI) && ((x110.Name.Local == x111.Name.Local) && true))) Fd ER (by simp only [AP, EX, FE, Ir, ER, Fd, BN, As, CB, BN, As, CB, Gl, Gj, FG, Gq, FP, FT, EV, List.drop_zero, List.drop_succ_cons, List.length_cons, List.length_nil, List.take_succ_cons, List.take_zero, Option.isSome_some, if_true, Option.bind_some, Option.map_some, Nat.reduceAdd, Nat.reduceLeDiff])) ?_
       refine Hv ?_
       exact ⟨((x110.Name.URI == x111.Name.URI) && ((x110.Name.Local == x111.Name.Local) && true)), hF, oy ok, wy ok⟩
      ·refine GU ?_
       refine GU ?_
       refine TE ?_
       exact ⟨false, hF, oy ok, wy ok⟩
     ·rintro a106 s' hF ⟨ok, hws⟩
      refine AO hws ?_
      clear hws s'
      refine Au rfl hF (fun hb112 hF => ?_) fun hb112 hF => ?_
      ·refine Bg ?_
       refine S_a (v := .snil) rfl ?_
       refine Eg 4 (v := .sl 3 (List.map Ac ([] : List Aa)) 0) (.nil _) ?_
       refine Fp ?_
       replace hF := hG98 _ (Ak hF)
       exact rt
      ·refine KZ ?_
       refine ih100 (IntKind.wrap .i64 (a96 + (1 : Int))) _ hF ?_
       exact ⟨oy ok, wy ok⟩
    ·refine DS ?_
     replace hF := hG98 _ (Ak hF)
     exact ⟨(), hF, oy ok, wy ok⟩
  ·rintro ⟨⟩ s' hF ⟨ok, hws⟩
   refine AO hws ?_
   clear hws s'
   refine SG ?_
   refine X3 ?_
   refine QS 0 4 ok zr80 rfl rfl (fun _ => rfl) (fun ok => ?_)
   refine Fp ?_
   exact rt
theorem Gz (p0 : AA) (p1 : TK) (q0 : Nat) (b0_0 : Nat) (x0 : List (Ag × Nat)) {G : Int × AA → Prop} (h : Heap) (O : List (Nat × AObj)) (hq0 : q0 ≠ 0) (hb0_0 : b0_0 ≠ 0) (hx0 : List.map Prod.fst x0 = p0.open_) (zk0 : zkR x0) (ok : OK h ((q0, .cells [.msl 8 b0_0 0 (List.length p0.open_), .int .i64 p0.nodes, .bool p0.done]) :: (b0_0, .cells (fl cK (List.reverse x0))) :: (E5 x0 ++ O))) (hF : Am (AH p0 p1) G) : CallsA Tryz.prog 51 [.ptr q0 0, .agg (cTK p1)] (Hp h ((q0, .cells [.msl 8 b0_0 0 (List.length p0.open_), .int .i64 p0.nodes, .bool p0.done]) :: (b0_0, .cells (fl cK (List.reverse x0))) :: (E5 x0 ++ O))) fun d h' => ∃ r, G r ∧ d = .int .i64 r.1 ∧ ∃ (b0_0' : Nat) (x0' : List (Ag × Nat)), b0_0' ≠ 0 ∧ List.map Prod.fst x0' = r.2.open_ ∧ zkR x0' ∧ OK h ((q0, .cells [.msl 8 b0_0' 0 (List.length r.2.open_), .int .i64 r.2.nodes, .bool r.2.done]) :: (b0_0', .cells (fl cK (List.reverse x0'))) :: (E5 x0' ++ O)) ∧ h' = Hp h ((q0, .cells [.msl 8 b0_0' 0 (List.length r.2.open_), .int .i64 r.2.nodes, .bool r.2.done]) :: (b0_0', .cells (fl cK (List.reverse x0'))) :: (E5 x0' ++ O)) := by
 refine CallsA.ret ?_
 refine CJ Tryz.func51 rfl fA Tryz.ntmps51 rfl ?_
 rw [AH] at hF
 refine Bg ?_
 refine Dc rfl rfl rfl rfl ?_
 refine Mt ?_
 refine FB ?_
 refine Ph ?_
 refine Xl ?_
 refine ID (e := p0.open_) rfl E7 ?_
 refine II ?_
 refine Bu 5 23 hF (fun J2 hb1 hF => ?_) (fun J2 hb1 hF => ?_) (fun v3 hF => ?_)
 ·refine UM ?_
  refine V0 ?_
  refine AF ?_
  refine eY ?_
  refine Hv ?_
  exact tw
 ·refine TE ?_
  exact tw
 ·refine CS ?_
  refine Au rfl hF (fun hb4 hF => ?_) fun hb4 hF => ?_
  ·refine DI ?_
   refine rr ?_
   exact ⟨_, _, (.refl _), hy ok, _, Ak hF, rfl, b0_0, x0, hb0_0, hx0, zk0, oy ok, rfl⟩
  ·refine Ph ?_
   refine Xl ?_
   refine ID (e := p0.open_) rfl E7 ?_
   refine Ix ?_
   refine Sk ?_
   refine CS ?_
   refine Au rfl hF (fun hb5 hF => ?_) fun hb5 hF => ?_
   ·refine DI ?_
    refine rr ?_
    exact ⟨_, _, (.refl _), hy ok, _, Ak hF, rfl, b0_0, x0, hb0_0, hx0, zk0, oy ok, rfl⟩
   ·refine Cl ?_
    refine A5 hF (fun (v : (List Ai) × Int) s' => match v with | (a39, a40) => ∃ g38 : Nat, g38 ≠ 0 ∧ OK h ((g38, .cells [.sl 2 (List.map Af a39) 0]) :: (q0, .cells [.msl 8 b0_0 0 (List.length p0.open_), .int .i64 p0.nodes, .bool p0.done]) :: (b0_0, .cells (fl cK (List.reverse x0))) :: (E5 x0 ++ O)) ∧ WS s' ⟨Al 105 [(0, .ptr q0 0), (3, .iptr (cTK p1)), (5, .ptr g38 0), (6, .int .i64 a40)], Hp h ((g38, .cells [.sl 2 (List.map Af a39) 0]) :: (q0, .cells [.msl 8 b0_0 0 (List.length p0.open_), .int .i64 p0.nodes, .bool p0.done]) :: (b0_0, .cells (fl cK (List.reverse x0))) :: (E5 x0 ++ O))⟩) (fun J41 hF => ?_) ?_
    ·refine Zb N0 (mdl [(5, 1), (39, 3)]) (Oq _) (by kernel_rfl) ?_
     refine N3 [0, 5, 6] [_, _, _] 11 #[true, false, false, false, false, true, true, false, false, false, false, false, false, false] rfl rfl (by kernel_rfl) (by kernel_rfl) ?_
     refine Iw ?_
     refine Br rfl Lk GB rfl ?_
     refine AX rfl (Bf LX GB rfl) ?_
     refine AY ?_
     refine YN 1 11 _ _ #[true, true, false, false, false, true, true, false, false, false, false, false, false, false] #[true, false, false, false, false, true, true, false, false, false, false, true, false, false] (by kernel_rfl) rfl rfl (by kernel_rfl) (by kernel_rfl) ?_ ?_
     ·refine I3 (K1 (e := p0.open_) (j := 0) ok rfl hq0 hF fun x42 he43 hF => ?_) (.k .nil)
      obtain ⟨t44, xs45, rfl, hx46⟩ := Hn hx0 he43
      have zt47 := (BT.1 zk0).1
      have zs48 := (BT.1 zk0).2
      have hp49 := Ji IB hx46
      have hck : cK (x42.1, t44) = [.int .i64 x42.1.node.Kind, .str x42.1.node.Name.URI, .str x42.1.node.Name.Local, .sl 3 (List.map Ac x42.1.node.Attrs) 0, Aq 6 t44 x42.1.node.Kids, .str x42.1.node.Text, .str x42.1.raw, .sl 2 (List.map Af x42.1.in_.binds) 0] := rfl
      rw [Cf, Dz, List.cons_append, hck] at ok
      rw [Cf, Dz, List.cons_append, hck]
      clear hck
      refine AY ?_
      refine N3 [2, 3] [_, _] 8 #[true, true, true, true, false, true, true, false, false, false, false, false, false, false] rfl rfl (by kernel_rfl) (by kernel_rfl) ?_
      refine Hy ?_
      refine DF rfl ON CX ?_
      refine AY ?_
      refine YN 4 11 _ _ #[true, true, true, true, true, true, true, false, false, false, false, false, false, false] #[true, true, true, true, false, true, true, false, false, false, false, true, false, false] (by kernel_rfl) rfl rfl (by kernel_rfl) (by kernel_rfl) ?_ ?_
      ·refine Jv (j := 1) (f0 := 7) ok rfl rfl rfl hb0_0 (by omega) (A4 (vs := A0 x42.1.in_) Fb CX rfl rfl) ?_
       refine AY ?_
       refine N3 [] [] 7 #[true, true, true, true, true, true, true, false, false, false, false, false, false, false] rfl rfl (by kernel_rfl) (by kernel_rfl) ?_
       refine AY ?_
       refine YN 7 11 _ _ #[true, true, true, true, true, true, true, true, false, false, false, false, false, false] #[true, true, true, true, true, true, true, false, false, false, false, true, false, false] (by kernel_rfl) rfl rfl (by kernel_rfl) (by kernel_rfl) ?_ ?_
       ·refine cl (AT (fun _ h hF => ED _ _ h hF) _ hF fun x50 _ hF => ?_)
        refine AY ?_
        refine N3 [8, 9, 10, 11, 12, 13] [_, _, _, _, _, _] 0 #[true, true, true, true, true, true, true, true, true, true, true, true, true, true] rfl rfl (by kernel_rfl) (by kernel_rfl) ?_
        refine I7 ?_
        refine DB ok rfl F3 ?_
        intro i51 hi51 ok
        refine Cv (j := 0) (cs' := [.sl 2 (List.map Af x50.1.binds) 0]) ok rfl rfl rfl hi51 rfl CX rfl rfl (fun ok => ?_)
        refine Fx ?_
        refine U0 (by kernel_rfl) ?_
        have hck : cK (x42.1, t44) = [.int .i64 x42.1.node.Kind, .str x42.1.node.Name.URI, .str x42.1.node.Name.Local, .sl 3 (List.map Ac x42.1.node.Attrs) 0, Aq 6 t44 x42.1.node.Kids, .str x42.1.node.Text, .str x42.1.raw, .sl 2 (List.map Af x42.1.in_.binds) 0] := rfl
        rw [← hck, ← Cf (c := cK)] at ok
        rw [← hck, ← Cf (c := cK)]
        clear hck
        have hx52 : List.map Prod.fst ((x42.1, t44) :: xs45) = p0.open_ := by rw [List.map_cons, hx46, he43]
        have zs53 : zkR ((x42.1, t44) :: xs45) := BT.2 ⟨zt47, zs48⟩
        exact ⟨(x50.1.binds, x50.2), hF, i51, hi51, oy ok, wy ok⟩
       ·refine DB ok rfl F3 ?_
        intro i54 hi54 ok
        refine AY ?_
        refine N3 [7, 8, 9, 10, 12, 13] [_, _, _, _, _, _] 0 #[true, true, true, true, true, true, true, true, true, true, true, true, true, true] rfl rfl (by kernel_rfl) (by kernel_rfl) ?_
        refine cl (AT (fun _ h hF => ED _ _ h hF) _ hF fun x55 _ hF => ?_)
        refine I7 ?_
        refine Cv (j := 0) (cs' := [.sl 2 (List.map Af x55.1.binds) 0]) ok rfl rfl rfl hi54 rfl CX rfl rfl (fun ok => ?_)
        refine Fx ?_
        refine U0 (by kernel_rfl) ?_
        have hck : cK (x42.1, t44) = [.int .i64 x42.1.node.Kind, .str x42.1.node.Name.URI, .str x42.1.node.Name.Local, .sl 3 (List.map Ac x42.1.node.Attrs) 0, Aq 6 t44 x42.1.node.Kids, .str x42.1.node.Text, .str x42.1.raw, .sl 2 (List.map Af x42.1.in_.binds) 0] := rfl
        rw [← hck, ← Cf (c := cK)] at ok
        rw [← hck, ← Cf (c := cK)]
        clear hck
        have hx56 : List.map Prod.fst ((x42.1, t44) :: xs45) = p0.open_ := by rw [List.map_cons, hx46, he43]
        have zs57 : zkR ((x42.1, t44) :: xs45) := BT.2 ⟨zt47, zs48⟩
        exact ⟨(x55.1.binds, x55.2), hF, i54, hi54, oy ok, wy ok⟩
      ·refine DB ok rfl F3 ?_
       intro i58 hi58 ok
       refine AY ?_
       refine N3 [4, 7, 8, 9, 10, 12, 13] [_, _, _, _, _, _, _] 0 #[true, true, true, true, true, true, true, true, true, true, true, true, true, true] rfl rfl (by kernel_rfl) (by kernel_rfl) ?_
       refine Jv (j := 2) (f0 := 7) ok rfl rfl rfl hb0_0 (by omega) (A4 (vs := A0 x42.1.in_) Fb CX rfl rfl) ?_
       refine cl (AT (fun _ h hF => ED _ _ h hF) _ hF fun x59 _ hF => ?_)
       refine I7 ?_
       refine Cv (j := 0) (cs' := [.sl 2 (List.map Af x59.1.binds) 0]) ok rfl rfl rfl hi58 rfl CX rfl rfl (fun ok => ?_)
       refine Fx ?_
       refine U0 (by kernel_rfl) ?_
       have hck : cK (x42.1, t44) = [.int .i64 x42.1.node.Kind, .str x42.1.node.Name.URI, .str x42.1.node.Name.Local, .sl 3 (List.map Ac x42.1.node.Attrs) 0, Aq 6 t44 x42.1.node.Kids, .str x42.1.node.Text, .str x42.1.raw, .sl 2 (List.map Af x42.1.in_.binds) 0] := rfl
       rw [← hck, ← Cf (c := cK)] at ok
       rw [← hck, ← Cf (c := cK)]
       clear hck
       have hx60 : List.map Prod.fst ((x42.1, t44) :: xs45) = p0.open_ := by rw [List.map_cons, hx46, he43]
       have zs61 : zkR ((x42.1, t44) :: xs45) := BT.2 ⟨zt47, zs48⟩
       exact ⟨(x59.1.binds, x59.2), hF, i58, hi58, oy ok, wy ok⟩
     ·refine DB ok rfl F3 ?_
      intro i62 hi62 ok
      refine AY ?_
      refine N3 [1, 2, 3, 4, 7, 8, 9, 10, 12, 13] [_, _, _, _, _, _, _, _, _, _] 0 #[true, true, true, true, true, true, true, true, true, true, true, true, true, true] rfl rfl (by kernel_rfl) (by kernel_rfl) ?_
      refine I3 (K1 (e := p0.open_) (j := 1) ok rfl hq0 hF fun x63 he64 hF => ?_) (.k .nil)
      obtain ⟨t65, xs66, rfl, hx67⟩ := Hn hx0 he64
      have zt68 := (BT.1 zk0).1
      have zs69 := (BT.1 zk0).2
      have hp70 := Ji IB hx67
      have hck : cK (x63.1, t65) = [.int .i64 x63.1.node.Kind, .str x63.1.node.Name.URI, .str x63.1.node.Name.Local, .sl 3 (List.map Ac x63.1.node.Attrs) 0, Aq 6 t65 x63.1.node.Kids, .str x63.1.node.Text, .str x63.1.raw, .sl 2 (List.map Af x63.1.in_.binds) 0] := rfl
      rw [Cf, Dz, List.cons_append, hck] at ok
      rw [Cf, Dz, List.cons_append, hck]
      clear hck
      refine Hy ?_
      refine DF rfl ON CX ?_
      refine Jv (j := 2) (f0 := 7) ok rfl rfl rfl hb0_0 (by omega) (A4 (vs := A0 x63.1.in_) Fb CX rfl rfl) ?_
      refine cl (AT (fun _ h hF => ED _ _ h hF) _ hF fun x71 _ hF => ?_)
      refine I7 ?_
      refine Cv (j := 0) (cs' := [.sl 2 (List.map Af x71.1.binds) 0]) ok rfl rfl rfl hi62 rfl CX rfl rfl (fun ok => ?_)
      refine Fx ?_
      refine U0 (by kernel_rfl) ?_
      have hck : cK (x63.1, t65) = [.int .i64 x63.1.node.Kind, .str x63.1.node.Name.URI, .str x63.1.node.Name.Local, .sl 3 (List.map Ac x63.1.node.Attrs) 0, Aq 6 t65 x63.1.node.Kids, .str x63.1.node.Text, .str x63.1.raw, .sl 2 (List.map Af x63.1.in_.binds) 0] := rfl
      rw [← hck, ← Cf (c := cK)] at ok
      rw [← hck, ← Cf (c := cK)]
      clear hck
      have hx72 : List.map Prod.fst ((x63.1, t65) :: xs66) = p0.open_ := by rw [List.map_cons, hx67, he64]
      have zs73 : zkR ((x63.1, t65) :: xs66) := BT.2 ⟨zt68, zs69⟩
      exact ⟨(x71.1.binds, x71.2), hF, i62, hi62, oy ok, wy ok⟩
    ·rintro ⟨a39, a40⟩ s' hF ⟨g38, hg38, ok, hws⟩
     refine AO hws ?_
     clear hws s'
     refine I1 ?_
     refine MB ?_
     refine Au rfl hF (fun hb74 hF => ?_) fun hb74 hF => ?_
     ·refine If ?_
      refine rr ?_
      exact ⟨_, _, (.refl _), hy ok, _, Ak hF, rfl, b0_0, x0, hb0_0, hx0, zk0, oy ok, rfl⟩
     ·refine HE ?_
      refine CR (mdl [(7, 1)]) ?_
      refine DT (j := 0) ok rfl rfl rfl hg38 (A4 (vs := A0 (⟨a39⟩ : Ao)) Fb CX rfl rfl) ?_
      refine aM ?_
      refine F7 ?_
      refine cl (AT (fun _ h hF => Gn _ _ h hF) _ hF fun x75 _ hF => ?_)
      refine I7 ?_
      refine DB ok rfl E9 ?_
      intro i76 hi76 ok
      refine Cv (j := 0) (cs' := [.str x75.1.URI, .str x75.1.Local]) ok rfl rfl rfl hi76 rfl Bz rfl rfl (fun ok => ?_)
      refine WU ?_
      refine Au rfl hF (fun hb77 hF => ?_) fun hb77 hF => ?_
      ·refine If ?_
       refine rr ?_
       exact ⟨_, _, (.refl _), hy ok, _, Ak hF, rfl, b0_0, x0, hb0_0, hx0, zk0, oy ok, rfl⟩
      ·refine Cl ?_
       refine Bg ?_
       refine DT (j := 1) ok rfl rfl rfl hg38 (A4 (vs := A0 (⟨a39⟩ : Ao)) Fb CX rfl rfl) ?_
       refine Br rfl Lk GB rfl ?_
       refine AX rfl (Bf LX GB rfl) ?_
       refine cl (AT (fun _ h hF => JJ _ _ h hF) _ hF fun x78 _ hF => ?_)
       refine I7 ?_
       refine Sd ?_
       refine WU ?_
       refine Au rfl hF (fun hb79 hF => ?_) fun hb79 hF => ?_
       ·refine If ?_
        refine rr ?_
        exact ⟨_, _, (.refl _), hy ok, _, Ak hF, rfl, b0_0, x0, hb0_0, hx0, zk0, oy ok, rfl⟩
       ·refine Cl ?_
        refine A5 hF (fun (_ : Unit) s' => OK h ((i76, .cells [.str x75.1.URI, .str x75.1.Local]) :: (g38, .cells [.sl 2 (List.map Af a39) 0]) :: (q0, .cells [.msl 8 b0_0 0 (List.length p0.open_), .int .i64 p0.nodes, .bool p0.done]) :: (b0_0, .cells (fl cK (List.reverse x0))) :: (E5 x0 ++ O)) ∧ WS s' ⟨Al 105 [(0, .ptr q0 0), (3, .iptr (cTK p1)), (5, .ptr g38 0), (7, .ptr i76 0), (8, .sl 3 (List.map Ac x78.1) 0)], Hp h ((i76, .cells [.str x75.1.URI, .str x75.1.Local]) :: (g38, .cells [.sl 2 (List.map Af a39) 0]) :: (q0, .cells [.msl 8 b0_0 0 (List.length p0.open_), .int .i64 p0.nodes, .bool p0.done]) :: (b0_0, .cells (fl cK (List.reverse x0))) :: (E5 x0 ++ O))⟩) (fun J86 hF => ?_) ?_
        ·refine ET ?_
         refine Q0 ?_
         refine Ia ?_
         refine Cg (σ := Int) hF (fun (a87 : Int) s' => OK h ((i76, .cells [.str x75.1.URI, .str x75.1.Local]) :: (g38, .cells [.sl 2 (List.map Af a39) 0]) :: (q0, .cells [.msl 8 b0_0 0 (List.length p0.open_), .int .i64 p0.nodes, .bool p0.done]) :: (b0_0, .cells (fl cK (List.reverse x0))) :: (E5 x0 ++ O)) ∧ WS s' ⟨Al 105 [(0, .ptr q0 0), (3, .iptr (cTK p1)), (5, .ptr g38 0), (7, .ptr i76 0), (8, .sl 3 (List.map Ac x78.1) 0), (66, .sl 3 (List.map Ac x78.1) 0), (67, .int .i64 (x78.1.length : Int)), (68, .int .i64 a87)], Hp h ((i76, .cells [.str x75.1.URI, .str x75.1.Local]) :: (g38, .cells [.sl 2 (List.map Af a39) 0]) :: (q0, .cells [.msl 8 b0_0 0 (List.length p0.open_), .int .i64 p0.nodes, .bool p0.done]) :: (b0_0, .cells (fl cK (List.reverse x0))) :: (E5 x0 ++ O))⟩) ?_ ?_
         ·exact ⟨oy ok, wy ok⟩
         ·rintro G88 hG89 rec90 a87 s' ih91 hF ⟨ok, hws⟩
          refine AO hws ?_
          clear hws s'
          rw [B3] at hF
          refine Ih ?_
          refine Au rfl hF (fun hb92 hF => ?_) fun hb92 hF => ?_
          ·refine TG ?_
           refine CR (mdl [(10, 1)]) ?_
           refine Gh rfl rfl BK Ax hF (fun x93 _ hF => ?_)
           refine AX rfl (A4 (vs := Ac x93) CO Ax rfl rfl) ?_
           refine DB ok rfl Py ?_
           intro i94 hi94 ok
           refine Cv (j := 0) (cs' := [.str x93.Name.URI, .str x93.Name.Local, .str x93.Value]) ok rfl rfl rfl hi94 rfl Ax rfl rfl (fun ok => ?_)
           refine AY ?_
           refine ET ?_
           refine Q0 ?_
           refine UA ?_
           refine Cp (b := (decide ((64 : Int) < (x78.1.length : Int)))) 5 80 (.bool ((decide ((64 : Int) < (x78.1.length : Int))) || (decide ((8192 : Int) < (x93.Value.length : Int))))) (fun hb95 => ?_) (fun hb95 => ?_) ?_
           ·refine Lm ?_
            exact th
           ·refine D3 ?_
            refine DF rfl JR As ?_
            refine AF ?_
            refine Sr ?_
            refine AF ?_
            refine Mv ?_
            refine W3 ?_
            refine EK ?_
            exact th
           refine AY ?_
           refine Au rfl hF (fun hb96 hF => ?_) fun hb96 hF => ?_
           ·refine DI ?_
            replace hF := hG89 _ (Ak hF)
            refine rr ?_
            exact ⟨_, _, (.refl _), hy ok, _, Ak hF, rfl, b0_0, x0, hb0_0, hx0, zk0, oy ok, rfl⟩
           ·refine KZ ?_
            refine ih91 (IntKind.wrap .i64 (a87 + (1 : Int))) _ hF ?_
            exact ⟨oy ok, wy ok⟩
          ·refine DS ?_
           replace hF := hG89 _ (Ak hF)
           exact ⟨(), hF, oy ok, wy ok⟩
        ·rintro ⟨⟩ s' hF ⟨ok, hws⟩
         refine AO hws ?_
         clear hws s'
         refine Ec ?_
         refine EW (mdl [(95, 1), (91, 3)]) (by kernel_rfl) (by kernel_rfl) ?_
         refine Iw ?_
         refine Mq ?_
         refine R9 ?_
         refine Zf ?_
         refine DT (j := 0) ok rfl rfl rfl hi76 (A4 (vs := AP x75.1) Du Bz rfl rfl) ?_
         refine Jp ?_
         refine CN (v := .agg [.int .i64 (2 : Int), .str x75.1.URI, .str x75.1.Local, .sl 3 (List.map Ac x78.1) 0, .snil, .str ([] : List UInt8)]) (Ej DD F5 rfl) ?_
         refine aM ?_
         refine F7 ?_
         refine DT (j := 1) ok rfl rfl rfl hg38 (A4 (vs := A0 (⟨a39⟩ : Ao)) Fb CX rfl rfl) ?_
         refine CN (v := .agg [.int .i64 (2 : Int), .str x75.1.URI, .str x75.1.Local, .sl 3 (List.map Ac x78.1) 0, .snil, .str ([] : List UInt8), .str p1.Name, .sl 2 (List.map Af (⟨a39⟩ : Ao).binds) 0]) (Ej RL RD rfl) ?_
         refine Fq (es := [[.int .i64 (2 : Int), .str x75.1.URI, .str x75.1.Local, .sl 3 (List.map Ac x78.1) 0, .snil, .str ([] : List UInt8), .str p1.Name, .sl 2 (List.map Af (⟨a39⟩ : Ao).binds) 0]]) rfl Oz rfl rfl rfl ?_
         refine aY (c := cK) (X := x0) (e := p0.open_) (a := (⟨(⟨(2 : Int), x75.1, x78.1, ([] : List Ad), ([] : List UInt8)⟩ : Ad), p1.Name, (⟨a39⟩ : Ao)⟩ : Ag)) (j := 3) ok rfl hx0 rfl rfl rfl IB rfl hb0_0 Oz XL hF ?_
         intro u97 hu97 ok hF
         have hx98 : List.map Prod.fst (((⟨(⟨(2 : Int), x75.1, x78.1, ([] : List Ad), ([] : List UInt8)⟩ : Ad), p1.Name, (⟨a39⟩ : Ao)⟩ : Ag), 0) :: x0) = ((⟨(⟨(2 : Int), x75.1, x78.1, ([] : List Ad), ([] : List UInt8)⟩ : Ad), p1.Name, (⟨a39⟩ : Ao)⟩ : Ag) :: p0.open_) := by rw [List.map_cons, hx0]
         have zs99 : zkR (((⟨(⟨(2 : Int), x75.1, x78.1, ([] : List Ad), ([] : List UInt8)⟩ : Ad), p1.Name, (⟨a39⟩ : Ao)⟩ : Ag), 0) :: x0) := BT.2 ⟨fun _ => rfl, zk0⟩
         obtain ⟨hpe, ok⟩ := bv [(i76, .cells [.str x75.1.URI, .str x75.1.Local]), (g38, .cells [.sl 2 (List.map Af a39) 0]), (q0, .cells [.msl 8 b0_0 0 (List.length p0.open_), .int .i64 p0.nodes, .bool p0.done]), (u97, .cells (fl cK (List.reverse (((⟨(⟨(2 : Int), x75.1, x78.1, ([] : List Ad), ([] : List UInt8)⟩ : Ad), p1.Name, (⟨a39⟩ : Ao)⟩ : Ag), 0) :: x0))))] (L := (E5 x0 ++ O)) ok
         refine U3 hpe ?_
         clear hpe
         refine Hy ?_
         refine R9 ?_
         refine Cv (j := 2) (cs' := [.msl 8 u97 0 (List.length ((⟨(⟨(2 : Int), x75.1, x78.1, ([] : List Ad), ([] : List UInt8)⟩ : Ad), p1.Name, (⟨a39⟩ : Ao)⟩ : Ag) :: p0.open_)), .int .i64 p0.nodes, .bool p0.done]) ok rfl rfl rfl hq0 rfl GE rfl rfl (fun ok => ?_)
         refine Ii ?_
         refine WB ?_
         refine eE ?_
         refine I6 ?_
         refine WB ?_
         refine Cv (j := 2) (cs' := [.msl 8 u97 0 (List.length ((⟨(⟨(2 : Int), x75.1, x78.1, ([] : List Ad), ([] : List UInt8)⟩ : Ad), p1.Name, (⟨a39⟩ : Ao)⟩ : Ag) :: p0.open_)), .int .i64 (IntKind.wrap .i64 (p0.nodes + (1 : Int))), .bool p0.done]) ok rfl rfl rfl hq0 rfl AN rfl rfl (fun ok => ?_)
         refine AY ?_
         refine DI ?_
         refine rr ?_
         exact ⟨_, _, (.refl _), hy ok, _, Ak hF, rfl, u97, (((⟨(⟨(2 : Int), x75.1, x78.1, ([] : List Ad), ([] : List UInt8)⟩ : Ad), p1.Name, (⟨a39⟩ : Ao)⟩ : Ag), 0) :: x0), hu97, hx98, zs99, oy ok, rfl⟩
theorem GA (p0 : AA) (q0 : Nat) (b0_0 : Nat) (x0 : List (Ag × Nat)) {G : AA → Prop} (h : Heap) (O : List (Nat × AObj)) (hq0 : q0 ≠ 0) (hb0_0 : b0_0 ≠ 0) (hx0 : List.map Prod.fst x0 = p0.open_) (zk0 : zkR x0) (ok : OK h ((q0, .cells [.msl 8 b0_0 0 (List.length p0.open_), .int .i64 p0.nodes, .bool p0.done]) :: (b0_0, .cells (fl cK (List.reverse x0))) :: (E5 x0 ++ O))) (hF : Am (Bn p0) G) : CallsA Tryz.prog 52 [.ptr q0 0] (Hp h ((q0, .cells [.msl 8 b0_0 0 (List.length p0.open_), .int .i64 p0.nodes, .bool p0.done]) :: (b0_0, .cells (fl cK (List.reverse x0))) :: (E5 x0 ++ O))) fun d h' => ∃ r, G r ∧ d = .tup [] ∧ ∃ (b0_0' : Nat) (x0' : List (Ag × Nat)), b0_0' ≠ 0 ∧ List.map Prod.fst x0' = r.open_ ∧ zkR x0' ∧ OK h ((q0, .cells [.msl 8 b0_0' 0 (List.length r.open_), .int .i64 r.nodes, .bool r.done]) :: (b0_0', .cells (fl cK (List.reverse x0'))) :: (E5 x0' ++ O)) ∧ h' = Hp h ((q0, .cells [.msl 8 b0_0' 0 (List.length r.open_), .int .i64 r.nodes, .bool r.done]) :: (b0_0', .cells (fl cK (List.reverse x0'))) :: (E5 x0' ++ O)) := by
 refine CallsA.ret ?_
 refine CJ Tryz.func52 rfl fc Tryz.ntmps52 rfl ?_
 rw [Bn] at hF
 refine Ec ?_
 refine CR (mdl [(2, 1)]) ?_
 refine Iw ?_
 refine I3 (K1 (e := p0.open_) (j := 0) ok rfl hq0 hF fun x1 he2 hF => ?_) (.k .nil)
 obtain ⟨t3, xs4, rfl, hx5⟩ := Hn hx0 he2
 have zt6 := (BT.1 zk0).1
 have zs7 := (BT.1 zk0).2
 have hp8 := Ji IB hx5
 have hck : cK (x1.1, t3) = [.int .i64 x1.1.node.Kind, .str x1.1.node.Name.URI, .str x1.1.node.Name.Local, .sl 3 (List.map Ac x1.1.node.Attrs) 0, Aq 6 t3 x1.1.node.Kids, .str x1.1.node.Text, .str x1.1.raw, .sl 2 (List.map Af x1.1.in_.binds) 0] := rfl
 rw [Cf, Dz, List.cons_append, hck] at ok
 rw [Cf, Dz, List.cons_append, hck]
 clear hck
 refine Hy ?_
 refine bf ?_
 refine Jv (j := 1) (f0 := 0) ok rfl rfl rfl hb0_0 (by omega) (A4 (vs := [.int .i64 x1.1.node.Kind, .str x1.1.node.Name.URI, .str x1.1.node.Name.Local, .sl 3 (List.map Ac x1.1.node.Attrs) 0, Aq 6 t3 x1.1.node.Kids, .str x1.1.node.Text]) CQ AK rfl rfl) ?_
 refine Yw (c := Ae) (e := x1.1.node.Kids) (cs' := Ae x1.1.node) 2 8 4 ok zt6 rfl rfl B6 rfl (by rw [Ab]; rfl) (fun ok => ?_)
 refine DB ok rfl DD ?_
 intro i10 hi10 ok
 refine NI Ae ok (fun ok => ?_)
 refine Cv (j := 1) (cs' := [.int .i64 x1.1.node.Kind, .str x1.1.node.Name.URI, .str x1.1.node.Name.Local, .sl 3 (List.map Ac x1.1.node.Attrs) 0, .sl 6 (List.map Ae x1.1.node.Kids) 0, .str x1.1.node.Text]) ok rfl (congrArg D.agg (Ab x1.1.node)) rfl hi10 rfl AK rfl rfl (fun ok => ?_)
 refine Ht ?_
 refine EW (mdl []) (by kernel_rfl) (by kernel_rfl) ?_
 refine Iw ?_
 refine Mq ?_
 refine R9 ?_
 refine Zf ?_
 refine Mq ?_
 refine R9 ?_
 refine Zf ?_
 refine ID (e := p0.open_) rfl E7 ?_
 refine Ix ?_
 refine eZ (e := p0.open_) rfl E7 NT (EY rfl) hF (fun x12 he13 hF => ?_)
 have hx14 := hx5.trans (List.cons.inj (he2.symm.trans he13)).2
 have hqhx14 := Ji IB hx14
 refine Hy ?_
 refine R9 ?_
 refine Cv (j := 2) (cs' := [.msl 8 b0_0 0 (List.length x12.2), .int .i64 p0.nodes, .bool p0.done]) ok rfl rfl rfl hq0 rfl GE rfl rfl (fun ok => ?_)
 refine Ms ?_
 refine ZG (cs := fl cK (List.reverse xs4)) (ds := [.int .i64 x1.1.node.Kind, .str x1.1.node.Name.URI, .str x1.1.node.Name.Local, .sl 3 (List.map Ac x1.1.node.Attrs) 0, Aq 6 t3 x1.1.node.Kids, .str x1.1.node.Text, .str x1.1.raw, .sl 2 (List.map Af x1.1.in_.binds) 0]) 3 ok rfl hb0_0 (fun ok => ?_)
 refine Iw ?_
 refine I3 (K1 (e := x12.2) (j := 2) ok rfl hq0 hF fun x15 he16 hF => ?_) (.k .nil)
 obtain ⟨t17, xs18, rfl, hx19⟩ := Hn hx14 he16
 have zt20 := (BT.1 zs7).1
 have zs21 := (BT.1 zs7).2
 have hp22 := Ji IB hx19
 have hck : cK (x15.1, t17) = [.int .i64 x15.1.node.Kind, .str x15.1.node.Name.URI, .str x15.1.node.Name.Local, .sl 3 (List.map Ac x15.1.node.Attrs) 0, Aq 6 t17 x15.1.node.Kids, .str x15.1.node.Text, .str x15.1.raw, .sl 2 (List.map Af x15.1.in_.binds) 0] := rfl
 rw [Cf, Dz, List.cons_append, hck] at ok
 rw [Cf, Dz, List.cons_append, hck]
 clear hck
 refine Ye ?_
 refine Ht ?_
 refine Uh (mdl [(33, 1)]) [0, 1, 2, 3, 4, 5, 6, 7, 8, 9, 11, 12, 13] [10, 14] [14, 10] [_, _, _, _, _, _, _, _, _, _, _, _, _] [_, _] [_, _] (by kernel_rfl) rfl rfl rfl rfl (by kernel_rfl) ?_
 refine Mq ?_
 refine T8 ?_
 refine Jv (j := 3) (f0 := 4) ok rfl rfl rfl hb0_0 (by omega) (Bf (v := Aq 6 t17 x15.1.node.Kids) Dl Bw rfl) ?_
 refine DT (j := 1) ok rfl rfl rfl hi10 (A4 (vs := Ae x1.1.node) CQ AK rfl (Ab x1.1.node).symm) ?_
 refine Kg zt20 rfl C7 ?_
 refine Fq (cs := [.int .i64 (0 : Int), .str ([] : List UInt8), .str ([] : List UInt8), .snil, .snil, .str ([] : List UInt8)]) (es := [[.int .i64 (0 : Int), .str ([] : List UInt8), .str ([] : List UInt8), .snil, .snil, .str ([] : List UInt8)]]) rfl IP rfl (by kernel_rfl) rfl ?_
 refine XN (c := Ae) (e := x15.1.node.Kids) (zs := [.int .i64 (0 : Int), .str ([] : List UInt8), .str ([] : List UInt8), .snil, .snil, .str ([] : List UInt8)]) (z0 := (⟨(0 : Int), (⟨([] : List UInt8), ([] : List UInt8)⟩ : Ah), ([] : List Aa), ([] : List Ad), ([] : List UInt8)⟩ : Ad)) (j := 5) ok zt20 rfl rfl rfl rfl B6 rfl IP OD hF ?_
 intro u23 hu23 ok hF
 refine b6 (e := x15.1.node.Kids) rfl rfl C7 AK ?_
 refine Hy ?_
 refine T8 ?_
 refine AY ?_
 refine ⟨?_, ?_⟩
 ·refine VL (c := Ae) (e := x15.1.node.Kids) (b := x1.1.node) (zs := [.int .i64 (0 : Int), .str ([] : List UInt8), .str ([] : List UInt8), .snil, .snil, .str ([] : List UInt8)]) (j := 5) ok rfl rfl rfl hu23 B6 rfl rfl AK rfl (fun ok => ?_)
  obtain ⟨a25, ha25, hF⟩ := D9 hF
  rw [← ha25] at ok
  rw [← ha25]
  have hml : .msl 6 u23 0 (List.length x15.1.node.Kids + 1) = Aq 6 u23 a25 := by rw [Fe hu23, ha25, List.length_append]; rfl
  try rw [hml] at ok
  try rw [hml]
  clear hml
  refine Yh (j := 3) (f0 := 4) (cs' := [.int .i64 x15.1.node.Kind, .str x15.1.node.Name.URI, .str x15.1.node.Name.Local, .sl 3 (List.map Ac x15.1.node.Attrs) 0, Aq 6 u23 a25, .str x15.1.node.Text, .str x15.1.raw, .sl 2 (List.map Af x15.1.in_.binds) 0]) ok rfl rfl rfl hb0_0 (by omega) Bw rfl rfl (fun ok => ?_)
  refine AY ?_
  refine Q5 ?_
  refine Mq ?_
  refine V0 ?_
  refine fW ?_
  refine CM ?_
  refine Bu 7 50 hF (fun J27 hb26 hF => ?_) (fun J27 hb26 hF => ?_) (fun v28 hF => ?_)
  ·refine WG ?_
   exact tw
  ·refine UM ?_
   refine R9 ?_
   refine AF ?_
   refine Zf ?_
   refine AF ?_
   refine ID (e := x12.2) rfl E7 ?_
   refine Zh ?_
   refine EK ?_
   exact tw
  ·refine Hy ?_
   refine V0 ?_
   refine Cv (j := 2) (cs' := [.msl 8 b0_0 0 (List.length x12.2), .int .i64 p0.nodes, .bool v28]) ok rfl rfl rfl hq0 rfl L4 rfl rfl (fun ok => ?_)
   refine AY ?_
   have hck : cK ((⟨(⟨x15.1.node.Kind, x15.1.node.Name, x15.1.node.Attrs, a25, x15.1.node.Text⟩ : Ad), x15.1.raw, x15.1.in_⟩ : Ag), u23) = [.int .i64 x15.1.node.Kind, .str x15.1.node.Name.URI, .str x15.1.node.Name.Local, .sl 3 (List.map Ac x15.1.node.Attrs) 0, Aq 6 u23 a25, .str x15.1.node.Text, .str x15.1.raw, .sl 2 (List.map Af x15.1.in_.binds) 0] := rfl
   rw [← hck, ← Cf (c := cK)] at ok
   rw [← hck, ← Cf (c := cK)]
   clear hck
   have hx29 : List.map Prod.fst (((⟨(⟨x15.1.node.Kind, x15.1.node.Name, x15.1.node.Attrs, a25, x15.1.node.Text⟩ : Ad), x15.1.raw, x15.1.in_⟩ : Ag), u23) :: xs18) = ((⟨(⟨x15.1.node.Kind, x15.1.node.Name, x15.1.node.Attrs, a25, x15.1.node.Text⟩ : Ad), x15.1.raw, x15.1.in_⟩ : Ag) :: x15.2) := by rw [List.map_cons, hx19]
   have zs30 : zkR (((⟨(⟨x15.1.node.Kind, x15.1.node.Name, x15.1.node.Attrs, a25, x15.1.node.Text⟩ : Ad), x15.1.raw, x15.1.in_⟩ : Ag), u23) :: xs18) := BT.2 ⟨(fun h => absurd h hu23), zs21⟩
   have hle31 : List.length x12.2 = List.length ((⟨(⟨x15.1.node.Kind, x15.1.node.Name, x15.1.node.Attrs, a25, x15.1.node.Text⟩ : Ad), x15.1.raw, x15.1.in_⟩ : Ag) :: x15.2) := by rw [he16]; rfl
   try rw [hle31] at ok
   try rw [hle31]
   refine xr ?_
   refine Jf (fn := Tryz.f52) rfl .nil ?_
   exact ⟨_, _, (.refl _), hy ok, _, Ak hF, rfl, b0_0, (((⟨(⟨x15.1.node.Kind, x15.1.node.Name, x15.1.node.Attrs, a25, x15.1.node.Text⟩ : Ad), x15.1.raw, x15.1.in_⟩ : Ag), u23) :: xs18), hb0_0, hx29, zs30, oy ok, rfl⟩
 ·refine UZ (j := 3) (f0 := 4) (cs' := [.int .i64 x15.1.node.Kind, .str x15.1.node.Name.URI, .str x15.1.node.Name.Local, .sl 3 (List.map Ac x15.1.node.Attrs) 0, .msl 6 u23 0 (List.length x15.1.node.Kids + 1), .str x15.1.node.Text, .str x15.1.raw, .sl 2 (List.map Af x15.1.in_.binds) 0]) ok rfl rfl rfl hb0_0 (by omega) rfl Bw rfl rfl (fun ok => ?_)
  refine VL (c := Ae) (e := x15.1.node.Kids) (b := x1.1.node) (zs := [.int .i64 (0 : Int), .str ([] : List UInt8), .str ([] : List UInt8), .snil, .snil, .str ([] : List UInt8)]) (j := 5) ok rfl rfl rfl hu23 B6 rfl rfl AK rfl (fun ok => ?_)
  obtain ⟨a32, ha32, hF⟩ := D9 hF
  rw [← ha32] at ok
  rw [← ha32]
  have hml : .msl 6 u23 0 (List.length x15.1.node.Kids + 1) = Aq 6 u23 a32 := by rw [Fe hu23, ha32, List.length_append]; rfl
  try rw [hml] at ok
  try rw [hml]
  clear hml
  refine AY ?_
  refine Q5 ?_
  refine Mq ?_
  refine V0 ?_
  refine fW ?_
  refine CM ?_
  refine Bu 7 50 hF (fun J34 hb33 hF => ?_) (fun J34 hb33 hF => ?_) (fun v35 hF => ?_)
  ·refine WG ?_
   exact tw
  ·refine UM ?_
   refine R9 ?_
   refine AF ?_
   refine Zf ?_
   refine AF ?_
   refine ID (e := x12.2) rfl E7 ?_
   refine Zh ?_
   refine EK ?_
   exact tw
  ·refine Hy ?_
   refine V0 ?_
   refine Cv (j := 2) (cs' := [.msl 8 b0_0 0 (List.length x12.2), .int .i64 p0.nodes, .bool v35]) ok rfl rfl rfl hq0 rfl L4 rfl rfl (fun ok => ?_)
   refine AY ?_
   have hck : cK ((⟨(⟨x15.1.node.Kind, x15.1.node.Name, x15.1.node.Attrs, a32, x15.1.node.Text⟩ : Ad), x15.1.raw, x15.1.in_⟩ : Ag), u23) = [.int .i64 x15.1.node.Kind, .str x15.1.node.Name.URI, .str x15.1.node.Name.Local, .sl 3 (List.map Ac x15.1.node.Attrs) 0, Aq 6 u23 a32, .str x15.1.node.Text, .str x15.1.raw, .sl 2 (List.map Af x15.1.in_.binds) 0] := rfl
   rw [← hck, ← Cf (c := cK)] at ok
   rw [← hck, ← Cf (c := cK)]
   clear hck
   have hx36 : List.map Prod.fst (((⟨(⟨x15.1.node.Kind, x15.1.node.Name, x15.1.node.Attrs, a32, x15.1.node.Text⟩ : Ad), x15.1.raw, x15.1.in_⟩ : Ag), u23) :: xs18) = ((⟨(⟨x15.1.node.Kind, x15.1.node.Name, x15.1.node.Attrs, a32, x15.1.node.Text⟩ : Ad), x15.1.raw, x15.1.in_⟩ : Ag) :: x15.2) := by rw [List.map_cons, hx19]
   have zs37 : zkR (((⟨(⟨x15.1.node.Kind, x15.1.node.Name, x15.1.node.Attrs, a32, x15.1.node.Text⟩ : Ad), x15.1.raw, x15.1.in_⟩ : Ag), u23) :: xs18) := BT.2 ⟨(fun h => absurd h hu23), zs21⟩
   have hle38 : List.length x12.2 = List.length ((⟨(⟨x15.1.node.Kind, x15.1.node.Name, x15.1.node.Attrs, a32, x15.1.node.Text⟩ : Ad), x15.1.raw, x15.1.in_⟩ : Ag) :: x15.2) := by rw [he16]; rfl
   try rw [hle38] at ok
   try rw [hle38]
   refine xr ?_
   refine Jf (fn := Tryz.f52) rfl .nil ?_
   exact ⟨_, _, (.refl _), hy ok, _, Ak hF, rfl, b0_0, (((⟨(⟨x15.1.node.Kind, x15.1.node.Name, x15.1.node.Attrs, a32, x15.1.node.Text⟩ : Ad), x15.1.raw, x15.1.in_⟩ : Ag), u23) :: xs18), hb0_0, hx36, zs37, oy ok, rfl⟩
theorem JF (p0 : AA) (p1 : TK) (q0 : Nat) (b0_0 : Nat) (x0 : List (Ag × Nat)) {G : Int × AA → Prop} (h : Heap) (O : List (Nat × AObj)) (hq0 : q0 ≠ 0) (hb0_0 : b0_0 ≠ 0) (hx0 : List.map Prod.fst x0 = p0.open_) (zk0 : zkR x0) (ok : OK h ((q0, .cells [.msl 8 b0_0 0 (List.length p0.open_), .int .i64 p0.nodes, .bool p0.done]) :: (b0_0, .cells (fl cK (List.reverse x0))) :: (E5 x0 ++ O))) (hF : Am (Aw p0 p1) G) : CallsA Tryz.prog 24 [.ptr q0 0, .agg (cTK p1)] (Hp h ((q0, .cells [.msl 8 b0_0 0 (List.length p0.open_), .int .i64 p0.nodes, .bool p0.done]) :: (b0_0, .cells (fl cK (List.reverse x0))) :: (E5 x0 ++ O))) fun d h' => ∃ r, G r ∧ d = .int .i64 r.1 ∧ ∃ (b0_0' : Nat) (x0' : List (Ag × Nat)), b0_0' ≠ 0 ∧ List.map Prod.fst x0' = r.2.open_ ∧ zkR x0' ∧ OK h ((q0, .cells [.msl 8 b0_0' 0 (List.length r.2.open_), .int .i64 r.2.nodes, .bool r.2.done]) :: (b0_0', .cells (fl cK (List.reverse x0'))) :: (E5 x0' ++ O)) ∧ h' = Hp h ((q0, .cells [.msl 8 b0_0' 0 (List.length r.2.open_), .int .i64 r.2.nodes, .bool r.2.done]) :: (b0_0', .cells (fl cK (List.reverse x0'))) :: (E5 x0' ++ O)) := by
 refine CallsA.ret ?_
 refine CJ Tryz.func24 rfl f6 Tryz.ntmps24 rfl ?_
 rw [Aw] at hF
 refine Bg ?_
 refine Dc rfl rfl rfl rfl ?_
 refine Fx ?_
 refine HI ?_
 refine Nc ?_
 refine Br rfl Lf AN rfl ?_
 refine Zn ?_
 refine TF ?_
 refine Pw ?_
 refine Au rfl hF (fun hb1 hF => ?_) fun hb1 hF => ?_
 ·refine Q5 ?_
  refine Wf ?_
  refine F7 ?_
  refine CN (v := .agg [.int .i64 (4 : Int), .str ([] : List UInt8), .str ([] : List UInt8), .snil, .snil, .str p1.Text]) (Ej DD F5 rfl) ?_
  refine Eg 13 (v := .agg (Ae (⟨(4 : Int), (⟨([] : List UInt8), ([] : List UInt8)⟩ : Ah), ([] : List Aa), ([] : List Ad), p1.Text⟩ : Ad))) (Wd.toE (.aggC (.cons (.refl _) (.cons (.refl _) (.cons (.refl _) (.cons (.nil _) (.cons (.nil _) (.refl _))))))) (Ab _)) ?_
  obtain ⟨hpe, ok⟩ := Bh 1 ok rfl
  rw [hpe]; clear hpe
  obtain ⟨hpe, ok⟩ := Bh 1 ok rfl
  rw [hpe]; clear hpe
  refine cl (okT (fun _ hF => FQ _ (p0 := p0) (q0 := q0) (b0_0 := b0_0) (x0 := x0) h O hq0 hb0_0 hx0 zk0 ok hF) hF fun x2 _ _ _ hq hF => ?_)
  obtain ⟨rfl, u3, x4, hu3, hxu3, zku3, ok, rfl⟩ := hq
  refine Ln ?_
  refine II ?_
  refine Bu 6 73 hF (fun J6 hb5 hF => ?_) (fun J6 hb5 hF => ?_) (fun v7 hF => ?_)
  ·refine Sq ?_
   exact tw
  ·refine MA ?_
   exact tw
  ·refine AY ?_
   refine Au rfl hF (fun hb8 hF => ?_) fun hb8 hF => ?_
   ·refine DI ?_
    refine rr ?_
    exact ⟨_, _, (.refl _), hy ok, _, Ak hF, rfl, u3, x4, hu3, hxu3, zku3, oy ok, rfl⟩
   ·refine Rk ?_
    refine rr ?_
    exact ⟨_, _, (.refl _), hy ok, _, Ak hF, rfl, u3, x4, hu3, hxu3, zku3, oy ok, rfl⟩
 ·refine Pq ?_
  refine Au rfl hF (fun hb9 hF => ?_) fun hb9 hF => ?_
  ·refine Q5 ?_
   refine aM ?_
   refine F7 ?_
   refine CN (v := .agg (AP (⟨([] : List UInt8), p1.Name⟩ : Ah))) (Ej E9 GH rfl) ?_
   refine Wf ?_
   refine F7 ?_
   refine CN (v := .agg [.int .i64 (5 : Int), .str (⟨([] : List UInt8), p1.Name⟩ : Ah).URI, .str (⟨([] : List UInt8), p1.Name⟩ : Ah).Local, .snil, .snil, .str p1.Text]) (Ej DD F5 rfl) ?_
   refine Eg 23 (v := .agg (Ae (⟨(5 : Int), (⟨([] : List UInt8), p1.Name⟩ : Ah), ([] : List Aa), ([] : List Ad), p1.Text⟩ : Ad))) (Wd.toE (.aggC (.cons (.refl _) (.cons (.refl _) (.cons (.refl _) (.cons (.nil _) (.cons (.nil _) (.refl _))))))) (Ab _)) ?_
   obtain ⟨hpe, ok⟩ := Bh 1 ok rfl
   rw [hpe]; clear hpe
   obtain ⟨hpe, ok⟩ := Bh 1 ok rfl
   rw [hpe]; clear hpe
   refine cl (okT (fun _ hF => FQ _ (p0 := p0) (q0 := q0) (b0_0 := b0_0) (x0 := x0) h O hq0 hb0_0 hx0 zk0 ok hF) hF fun x10 _ _ _ hq hF => ?_)
   obtain ⟨rfl, u11, x12, hu11, hxu11, zku11, ok, rfl⟩ := hq
   refine Ln ?_
   refine II ?_
   refine Bu 6 73 hF (fun J14 hb13 hF => ?_) (fun J14 hb13 hF => ?_) (fun v15 hF => ?_)
   ·refine Sq ?_
    exact tw
   ·refine MA ?_
    exact tw
   ·refine AY ?_
    refine Au rfl hF (fun hb16 hF => ?_) fun hb16 hF => ?_
    ·refine DI ?_
     refine rr ?_
     exact ⟨_, _, (.refl _), hy ok, _, Ak hF, rfl, u11, x12, hu11, hxu11, zku11, oy ok, rfl⟩
    ·refine Rk ?_
     refine rr ?_
     exact ⟨_, _, (.refl _), hy ok, _, Ak hF, rfl, u11, x12, hu11, hxu11, zku11, oy ok, rfl⟩
  ·refine Nc ?_
   refine Pw ?_
   refine Au rfl hF (fun hb17 hF => ?_) fun hb17 hF => ?_
   ·refine Cl ?_
    refine Zv rfl hb17 ?_
    refine Q5 ?_
    refine AX rfl (A4 (vs := cTK p1) HP F8 rfl rfl) ?_
    obtain ⟨hpe, ok⟩ := Bh 1 ok rfl
    rw [hpe]; clear hpe
    obtain ⟨hpe, ok⟩ := Bh 1 ok rfl
    rw [hpe]; clear hpe
    refine cl (okT (fun _ hF => GY _ (p0 := p0) (q0 := q0) (b0_0 := b0_0) (x0 := x0) h O hq0 hb0_0 hx0 zk0 ok hF) hF fun x18 _ _ _ hq hF => ?_)
    obtain ⟨rfl, u19, x20, hu19, hxu19, zku19, ok, rfl⟩ := hq
    refine Ln ?_
    refine II ?_
    refine Bu 6 73 hF (fun J22 hb21 hF => ?_) (fun J22 hb21 hF => ?_) (fun v23 hF => ?_)
    ·refine Sq ?_
     exact tw
    ·refine MA ?_
     exact tw
    ·refine AY ?_
     refine Au rfl hF (fun hb24 hF => ?_) fun hb24 hF => ?_
     ·refine DI ?_
      refine rr ?_
      exact ⟨_, _, (.refl _), hy ok, _, Ak hF, rfl, u19, x20, hu19, hxu19, zku19, oy ok, rfl⟩
     ·refine Rk ?_
      refine rr ?_
      exact ⟨_, _, (.refl _), hy ok, _, Ak hF, rfl, u19, x20, hu19, hxu19, zku19, oy ok, rfl⟩
   ·refine Hu ?_
    refine Pw ?_
    refine Au rfl hF (fun hb25 hF => ?_) fun hb25 hF => ?_
    ·refine Q5 ?_
     refine AX rfl (A4 (vs := cTK p1) HP F8 rfl rfl) ?_
     obtain ⟨hpe, ok⟩ := Bh 1 ok rfl
     rw [hpe]; clear hpe
     obtain ⟨hpe, ok⟩ := Bh 1 ok rfl
     rw [hpe]; clear hpe
     refine cl (okT (fun _ hF => GY _ (p0 := p0) (q0 := q0) (b0_0 := b0_0) (x0 := x0) h O hq0 hb0_0 hx0 zk0 ok hF) hF fun x26 _ _ _ hq hF => ?_)
     obtain ⟨rfl, u27, x28, hu27, hxu27, zku27, ok, rfl⟩ := hq
     refine Ln ?_
     refine II ?_
     refine Bu 6 73 hF (fun J30 hb29 hF => ?_) (fun J30 hb29 hF => ?_) (fun v31 hF => ?_)
     ·refine Sq ?_
      exact tw
     ·refine MA ?_
      exact tw
     ·refine AY ?_
      refine Au rfl hF (fun hb32 hF => ?_) fun hb32 hF => ?_
      ·refine DI ?_
       refine rr ?_
       exact ⟨_, _, (.refl _), hy ok, _, Ak hF, rfl, u27, x28, hu27, hxu27, zku27, oy ok, rfl⟩
      ·refine Rk ?_
       refine rr ?_
       exact ⟨_, _, (.refl _), hy ok, _, Ak hF, rfl, u27, x28, hu27, hxu27, zku27, oy ok, rfl⟩
    ·refine Pq ?_
     refine Au rfl hF (fun hb33 hF => ?_) fun hb33 hF => ?_
     ·refine Q5 ?_
      refine AX rfl (A4 (vs := cTK p1) HP F8 rfl rfl) ?_
      obtain ⟨hpe, ok⟩ := Bh 1 ok rfl
      rw [hpe]; clear hpe
      obtain ⟨hpe, ok⟩ := Bh 1 ok rfl
      rw [hpe]; clear hpe
      refine cl (okT (fun _ hF => Gz _ (p0 := p0) (q0 := q0) (b0_0 := b0_0) (x0 := x0) h O hq0 hb0_0 hx0 zk0 ok hF) hF fun x34 _ _ _ hq hF => ?_)
      obtain ⟨rfl, u35, x36, hu35, hxu35, zku35, ok, rfl⟩ := hq
      refine Ln ?_
      refine II ?_
      refine Bu 6 73 hF (fun J38 hb37 hF => ?_) (fun J38 hb37 hF => ?_) (fun v39 hF => ?_)
      ·refine Sq ?_
       exact tw
      ·refine MA ?_
       exact tw
      ·refine AY ?_
       refine Au rfl hF (fun hb40 hF => ?_) fun hb40 hF => ?_
       ·refine DI ?_
        refine rr ?_
        exact ⟨_, _, (.refl _), hy ok, _, Ak hF, rfl, u35, x36, hu35, hxu35, zku35, oy ok, rfl⟩
       ·refine Rk ?_
        refine rr ?_
        exact ⟨_, _, (.refl _), hy ok, _, Ak hF, rfl, u35, x36, hu35, hxu35, zku35, oy ok, rfl⟩
     ·refine Pq ?_
      refine Au rfl hF (fun hb41 hF => ?_) fun hb41 hF => ?_
      ·refine GF ?_
       refine AX rfl (A4 (vs := cTK p1) HP F8 rfl rfl) ?_
       obtain ⟨hpe, ok⟩ := Bh 1 ok rfl
       rw [hpe]; clear hpe
       obtain ⟨hpe, ok⟩ := Bh 1 ok rfl
       rw [hpe]; clear hpe
       refine cl (okT (fun _ hF => Gz _ (p0 := p0) (q0 := q0) (b0_0 := b0_0) (x0 := x0) h O hq0 hb0_0 hx0 zk0 ok hF) hF fun x42 _ _ _ hq hF => ?_)
       obtain ⟨rfl, u43, x44, hu43, hxu43, zku43, ok, rfl⟩ := hq
       refine Yv ?_
       refine LY ?_
       refine Au rfl hF (fun hb45 hF => ?_) fun hb45 hF => ?_
       ·refine Q5 ?_
        obtain ⟨hpe, ok⟩ := Bh 1 ok rfl
        rw [hpe]; clear hpe
        obtain ⟨hpe, ok⟩ := Bh 1 ok rfl
        rw [hpe]; clear hpe
        refine cl (okT (fun _ hF => GA (p0 := x42.2) (q0 := q0) (b0_0 := u43) (x0 := x44) h O hq0 hu43 hxu43 zku43 ok hF) hF fun x46 _ _ _ hq hF => ?_)
        obtain ⟨rfl, u47, x48, hu47, hxu47, zku47, ok, rfl⟩ := hq
        refine AY ?_
        refine I1 ?_
        refine II ?_
        refine Sq ?_
        refine Au rfl hF (fun hb49 hF => ?_) fun hb49 hF => ?_
        ·refine DI ?_
         refine rr ?_
         exact ⟨_, _, (.refl _), hy ok, _, Ak hF, rfl, u47, x48, hu47, hxu47, zku47, oy ok, rfl⟩
        ·refine Rk ?_
         refine rr ?_
         exact ⟨_, _, (.refl _), hy ok, _, Ak hF, rfl, u47, x48, hu47, hxu47, zku47, oy ok, rfl⟩
       ·refine Cl ?_
        refine I1 ?_
        refine II ?_
        refine MA ?_
        refine Yu rfl rfl ?_
        refine Rk ?_
        refine rr ?_
        exact ⟨_, _, (.refl _), hy ok, _, Ak hF, rfl, u43, x44, hu43, hxu43, zku43, oy ok, rfl⟩
      ·refine Pq ?_
       refine Au rfl hF (fun hb50 hF => ?_) fun hb50 hF => ?_
       ·refine Ec ?_
        refine Ec ?_
        refine UI (mdl [(60, 3)]) [0, 1, 2, 3, 4, 5, 6, 7, 12, 13, 8, 9, 10, 11, 14, 15] [_, _, _, _, _, _, _, _, _, _, _, _, _, _, _, _] (by kernel_rfl) rfl rfl (by kernel_rfl) ?_
        refine Mq ?_
        refine Xl ?_
        refine ID (e := p0.open_) rfl E7 ?_
        refine II ?_
        refine Wi (b := ((p0.open_.length : Int) == (1 : Int))) hF (fun hb51 hF => ?_) (fun hb52 hF => ?_)
        ·refine GU ?_
         refine Lm ?_
         refine Zv rfl rfl ?_
         refine DI ?_
         refine rr ?_
         exact ⟨_, _, (.refl _), hy ok, _, Ak hF, rfl, b0_0, x0, hb0_0, hx0, zk0, oy ok, rfl⟩
        ·refine YM ?_
         refine aM ?_
         refine AF ?_
         refine F7 ?_
         refine AF ?_
         refine I3 (K1 (e := p0.open_) (j := 0) ok rfl hq0 hF fun x53 he54 hF => ?_) (.k .nil)
         refine AY ?_
         obtain ⟨t55, xs56, rfl, hx57⟩ := Hn hx0 he54
         have zt58 := (BT.1 zk0).1
         have zs59 := (BT.1 zk0).2
         have hp60 := Ji IB hx57
         have hck : cK (x53.1, t55) = [.int .i64 x53.1.node.Kind, .str x53.1.node.Name.URI, .str x53.1.node.Name.Local, .sl 3 (List.map Ac x53.1.node.Attrs) 0, Aq 6 t55 x53.1.node.Kids, .str x53.1.node.Text, .str x53.1.raw, .sl 2 (List.map Af x53.1.in_.binds) 0] := rfl
         rw [Cf, Dz, List.cons_append, hck] at ok
         rw [Cf, Dz, List.cons_append, hck]
         clear hck
         refine D3 ?_
         refine ep ?_
         refine DF rfl UN As ?_
         refine AF ?_
         refine Jv (j := 1) (f0 := 6) ok rfl rfl rfl hb0_0 (by omega) (Bf (v := .str x53.1.raw) BN As rfl) ?_
         refine Uu ?_
         refine EK ?_
         refine Au rfl hF (fun hb61 hF => ?_) fun hb61 hF => ?_
         ·refine DI ?_
          have hck : cK (x53.1, t55) = [.int .i64 x53.1.node.Kind, .str x53.1.node.Name.URI, .str x53.1.node.Name.Local, .sl 3 (List.map Ac x53.1.node.Attrs) 0, Aq 6 t55 x53.1.node.Kids, .str x53.1.node.Text, .str x53.1.raw, .sl 2 (List.map Af x53.1.in_.binds) 0] := rfl
          rw [← hck, ← Cf (c := cK)] at ok
          rw [← hck, ← Cf (c := cK)]
          clear hck
          have hx62 : List.map Prod.fst ((x53.1, t55) :: xs56) = p0.open_ := by rw [List.map_cons, hx57, he54]
          have zs63 : zkR ((x53.1, t55) :: xs56) := BT.2 ⟨zt58, zs59⟩
          refine rr ?_
          exact ⟨_, _, (.refl _), hy ok, _, Ak hF, rfl, b0_0, ((x53.1, t55) :: xs56), hb0_0, hx62, zs63, oy ok, rfl⟩
         ·refine Cl ?_
          refine Q5 ?_
          have hck : cK (x53.1, t55) = [.int .i64 x53.1.node.Kind, .str x53.1.node.Name.URI, .str x53.1.node.Name.Local, .sl 3 (List.map Ac x53.1.node.Attrs) 0, Aq 6 t55 x53.1.node.Kids, .str x53.1.node.Text, .str x53.1.raw, .sl 2 (List.map Af x53.1.in_.binds) 0] := rfl
          rw [← hck, ← Cf (c := cK)] at ok
          rw [← hck, ← Cf (c := cK)]
          clear hck
          have hx64 : List.map Prod.fst ((x53.1, t55) :: xs56) = p0.open_ := by rw [List.map_cons, hx57, he54]
          have zs65 : zkR ((x53.1, t55) :: xs56) := BT.2 ⟨zt58, zs59⟩
          obtain ⟨hpe, ok⟩ := Bh 1 ok rfl
          rw [hpe]; clear hpe
          obtain ⟨hpe, ok⟩ := Bh 1 ok rfl
          rw [hpe]; clear hpe
          refine cl (okT (fun _ hF => GA (p0 := p0) (q0 := q0) (b0_0 := b0_0) (x0 := ((x53.1, t55) :: xs56)) h O hq0 hb0_0 hx64 zs65 ok hF) hF fun x66 _ _ _ hq hF => ?_)
          obtain ⟨rfl, u67, x68, hu67, hxu67, zku67, ok, rfl⟩ := hq
          refine AY ?_
          refine I1 ?_
          refine II ?_
          refine Bu 6 73 hF (fun J70 hb69 hF => ?_) (fun J70 hb69 hF => ?_) (fun v71 hF => ?_)
          ·refine Sq ?_
           exact tw
          ·refine MA ?_
           exact tw
          ·refine AY ?_
           refine Au rfl hF (fun hb72 hF => ?_) fun hb72 hF => ?_
           ·refine DI ?_
            refine rr ?_
            exact ⟨_, _, (.refl _), hy ok, _, Ak hF, rfl, u67, x68, hu67, hxu67, zku67, oy ok, rfl⟩
           ·refine Rk ?_
            refine rr ?_
            exact ⟨_, _, (.refl _), hy ok, _, Ak hF, rfl, u67, x68, hu67, hxu67, zku67, oy ok, rfl⟩
       ·refine Cl ?_
        refine I1 ?_
        refine II ?_
        refine Bu 6 73 hF (fun J74 hb73 hF => ?_) (fun J74 hb73 hF => ?_) (fun v75 hF => ?_)
        ·refine Sq ?_
         exact tw
        ·refine MA ?_
         exact tw
        ·refine AY ?_
         refine Au rfl hF (fun hb76 hF => ?_) fun hb76 hF => ?_
         ·refine DI ?_
          refine rr ?_
          exact ⟨_, _, (.refl _), hy ok, _, Ak hF, rfl, b0_0, x0, hb0_0, hx0, zk0, oy ok, rfl⟩
         ·refine Rk ?_
          refine rr ?_
          exact ⟨_, _, (.refl _), hy ok, _, Ak hF, rfl, b0_0, x0, hb0_0, hx0, zk0, oy ok, rfl⟩
theorem Hx (p0 : List UInt8) {G : Ad × Int × Int → Prop} (h : Heap) (hF : Am (Ci p0) G) : CallsA Tryz.prog 11 [.sl 1 (List.map AL p0) 0] h fun d h' => ∃ r, G r ∧ d = .tup [.agg (Ae r.1), .int .i64 r.2.1, .int .i64 r.2.2] ∧ h' = h := by
 refine CallsA.ret ?_
 refine Be Tryz.func11 rfl fz Tryz.ntmps11 rfl (fun ok => ?_)
 rw [Ci] at hF
 refine Ec ?_
 refine CR (mdl [(2, 1)]) ?_
 refine DB ok rfl DD ?_
 intro i1 hi1 ok
 refine IY ?_
 refine ET ?_
 refine cl (AT (fun _ h hF => QW _ h hF) _ hF fun x2 _ hF => ?_)
 refine Qj ?_
 refine Sd ?_
 refine V5 ?_
 refine MB ?_
 refine Au rfl hF (fun hb3 hF => ?_) fun hb3 hF => ?_
 ·refine Bg ?_
  refine CN (v := .agg [.int .i64 (0 : Int), .str ([] : List UInt8), .str ([] : List UInt8), .snil, .snil, .str ([] : List UInt8)]) (Ej DD F5 rfl) ?_
  refine Eg 20 (v := .agg [.int .i64 (0 : Int), .str ([] : List UInt8), .str ([] : List UInt8), .sl 3 (List.map Ac ([] : List Aa)) 0, .snil, .str ([] : List UInt8)]) (.aggC (.cons (.refl _) (.cons (.refl _) (.cons (.refl _) (.cons (.nil _) (.refl _)))))) ?_
  refine Es ?_
  refine Es ?_
  refine Cv (j := 0) (cs' := [.int .i64 (0 : Int), .str ([] : List UInt8), .str ([] : List UInt8), .sl 3 (List.map Ac ([] : List Aa)) 0, .snil, .str ([] : List UInt8)]) ok rfl rfl rfl hi1 rfl AK rfl rfl (fun ok => ?_)
  refine IU ?_
  refine xr ?_
  refine F6 (fn := Tryz.f11) rfl (.cell rfl (GO (j := 0) ok rfl hi1 (A4 (vs := [.int .i64 (0 : Int), .str ([] : List UInt8), .str ([] : List UInt8), .sl 3 (List.map Ac ([] : List Aa)) 0, .snil, .str ([] : List UInt8)]) CQ AK rfl rfl)) (.tmp (v := .int .i64 x2.2.1) rfl (.tmp (v := .int .i64 x2.2.2) rfl .nil))) ?_
  exact ⟨_, _, (.tupC (.cons (Wd.toE (.aggC (.cons (.refl _) (.cons (.refl _) (.cons (.refl _) (.cons (.refl _) (.cons (.nil _) (.refl _))))))) (Ab _)) (.refl _))), ok.wh, _, Ak hF, rfl, rfl⟩
 ·refine HE ?_
  refine CR (mdl [(26, 1), (28, 1)]) ?_
  refine CN (v := .agg [.int .i64 (1 : Int), .str ([] : List UInt8), .str ([] : List UInt8), .snil, .snil, .str ([] : List UInt8)]) (Ej DD F5 rfl) ?_
  refine Eg 23 (v := .agg [.int .i64 (1 : Int), .str ([] : List UInt8), .str ([] : List UInt8), .sl 3 (List.map Ac ([] : List Aa)) 0, .snil, .str ([] : List UInt8)]) (.aggC (.cons (.refl _) (.cons (.refl _) (.cons (.refl _) (.cons (.nil _) (.refl _)))))) ?_
  refine cl (AT (fun _ h hF => Pf h hF) _ hF fun x4 _ hF => ?_)
  refine CN (v := .agg [.int .i64 (1 : Int), .str ([] : List UInt8), .str ([] : List UInt8), .sl 3 (List.map Ac ([] : List Aa)) 0, .snil, .str ([] : List UInt8), .str ([] : List UInt8), .sl 2 (List.map Af x4.binds) 0]) (Ej RL RD rfl) ?_
  refine Zu (cs := [.int .i64 (1 : Int), .str ([] : List UInt8), .str ([] : List UInt8), .sl 3 (List.map Ac ([] : List Aa)) 0, .snil, .str ([] : List UInt8), .str ([] : List UInt8), .sl 2 (List.map Af x4.binds) 0]) (c := cK) (e := [((⟨(⟨(1 : Int), (⟨([] : List UInt8), ([] : List UInt8)⟩ : Ah), ([] : List Aa), ([] : List Ad), ([] : List UInt8)⟩ : Ad), ([] : List UInt8), x4⟩ : Ag), 0)]) ok rfl Oz rfl (by kernel_rfl) rfl ?_
  intro u5 hu5 ok
  obtain ⟨hpe, ok⟩ := aH ok
  refine U3 hpe ?_
  clear hpe
  have hx6 : List.map Prod.fst (((⟨(⟨(1 : Int), (⟨([] : List UInt8), ([] : List UInt8)⟩ : Ah), ([] : List Aa), ([] : List Ad), ([] : List UInt8)⟩ : Ad), ([] : List UInt8), x4⟩ : Ag), 0) :: []) = [(⟨(⟨(1 : Int), (⟨([] : List UInt8), ([] : List UInt8)⟩ : Ah), ([] : List Aa), ([] : List Ad), ([] : List UInt8)⟩ : Ad), ([] : List UInt8), x4⟩ : Ag)] := rfl
  have zs7 : zkR (((⟨(⟨(1 : Int), (⟨([] : List UInt8), ([] : List UInt8)⟩ : Ah), ([] : List Aa), ([] : List Ad), ([] : List UInt8)⟩ : Ad), ([] : List UInt8), x4⟩ : Ag), 0) :: []) := BT.2 ⟨fun _ => rfl, fun _ h => absurd h List.not_mem_nil⟩
  refine CN (v := .agg [.msl 8 u5 0 (List.length ([(⟨(⟨(1 : Int), (⟨([] : List UInt8), ([] : List UInt8)⟩ : Ah), ([] : List Aa), ([] : List Ad), ([] : List UInt8)⟩ : Ad), ([] : List UInt8), x4⟩ : Ag)])), .int .i64 (0 : Int), .bool false]) (Ej XO YB rfl) ?_
  refine Uz (cs := [.msl 8 u5 0 (List.length ([(⟨(⟨(1 : Int), (⟨([] : List UInt8), ([] : List UInt8)⟩ : Ah), ([] : List Aa), ([] : List Ad), ([] : List UInt8)⟩ : Ad), ([] : List UInt8), x4⟩ : Ag)])), .int .i64 (0 : Int), .bool false]) ok rfl rfl rfl rfl ?_
  intro i8 hi8 ok
  refine Ye ?_
  refine AY ?_
  refine A5 hF (fun (v : Int × (List UInt8) × (List UInt8) × (List Aa) × (List Ad) × (List UInt8) × (List Ag) × Int × Bool) s' => match v with | (a30, a31, a32, a33, a34, a35, a37, a41, a42) => ∃ g36 : Nat, g36 ≠ 0 ∧ ∃ x38 : List (Ag × Nat), List.map Prod.fst x38 = a37 ∧ zkR x38 ∧ OK h ((i8, .cells [.msl 8 g36 0 (List.length a37), .int .i64 a41, .bool a42]) :: (g36, .cells (fl cK (List.reverse x38))) :: (i1, .cells [.int .i64 a30, .str a31, .str a32, .sl 3 (List.map Ac a33) 0, .sl 6 (List.map Ae a34) 0, .str a35]) :: (E5 x38 ++ [])) ∧ WS s' ⟨Al 73 [(0, .sl 1 (List.map AL p0) 0), (2, .ptr i1 0), (8, .ptr i8 0)], Hp h ((i8, .cells [.msl 8 g36 0 (List.length a37), .int .i64 a41, .bool a42]) :: (g36, .cells (fl cK (List.reverse x38))) :: (i1, .cells [.int .i64 a30, .str a31, .str a32, .sl 3 (List.map Ac a33) 0, .sl 6 (List.map Ae a34) 0, .str a35]) :: (E5 x38 ++ []))⟩) (fun J43 hF => ?_) ?_
  ·refine ET ?_
   refine HU rfl Sz ?_
   refine Ia ?_
   refine Cg (σ := Int × (List UInt8) × (List UInt8) × (List Aa) × (List Ad) × (List UInt8) × (List Ag) × Int × Bool × Int) hF (fun (v : Int × (List UInt8) × (List UInt8) × (List Aa) × (List Ad) × (List UInt8) × (List Ag) × Int × Bool × Int) s' => match v with | (a44, a45, a46, a47, a48, a49, a51, a55, a56, a57) => ∃ g50 : Nat, g50 ≠ 0 ∧ ∃ x52 : List (Ag × Nat), List.map Prod.fst x52 = a51 ∧ zkR x52 ∧ OK h ((i8, .cells [.msl 8 g50 0 (List.length a51), .int .i64 a55, .bool a56]) :: (g50, .cells (fl cK (List.reverse x52))) :: (i1, .cells [.int .i64 a44, .str a45, .str a46, .sl 3 (List.map Ac a47) 0, .sl 6 (List.map Ae a48) 0, .str a49]) :: (E5 x52 ++ [])) ∧ WS s' ⟨Al 73 [(0, .sl 1 (List.map AL p0) 0), (2, .ptr i1 0), (8, .ptr i8 0), (29, .sl 6 (List.map cTK x2.1) 0), (30, .int .i64 (x2.1.length : Int)), (31, .int .i64 a57)], Hp h ((i8, .cells [.msl 8 g50 0 (List.length a51), .int .i64 a55, .bool a56]) :: (g50, .cells (fl cK (List.reverse x52))) :: (i1, .cells [.int .i64 a44, .str a45, .str a46, .sl 3 (List.map Ac a47) 0, .sl 6 (List.map Ae a48) 0, .str a49]) :: (E5 x52 ++ []))⟩) ?_ ?_
   ·have hwo : WO ((i8, .cells [.msl 8 u5 0 (List.length ([(⟨(⟨(1 : Int), (⟨([] : List UInt8), ([] : List UInt8)⟩ : Ah), ([] : List Aa), ([] : List Ad), ([] : List UInt8)⟩ : Ad), ([] : List UInt8), x4⟩ : Ag)])), .int .i64 (0 : Int), .bool false]) :: (u5, .cells (fl cK (List.reverse (((⟨(⟨(1 : Int), (⟨([] : List UInt8), ([] : List UInt8)⟩ : Ah), ([] : List Aa), ([] : List Ad), ([] : List UInt8)⟩ : Ad), ([] : List UInt8), x4⟩ : Ag), 0) :: [])))) :: (i1, .cells [.int .i64 (0 : Int), .str ([] : List UInt8), .str ([] : List UInt8), .snil, .snil, .str ([] : List UInt8)]) :: (E5 (((⟨(⟨(1 : Int), (⟨([] : List UInt8), ([] : List UInt8)⟩ : Ah), ([] : List Aa), ([] : List Ad), ([] : List UInt8)⟩ : Ad), ([] : List UInt8), x4⟩ : Ag), 0) :: []) ++ [])) ((i8, .cells [.msl 8 u5 0 (List.length ([(⟨(⟨(1 : Int), (⟨([] : List UInt8), ([] : List UInt8)⟩ : Ah), ([] : List Aa), ([] : List Ad), ([] : List UInt8)⟩ : Ad), ([] : List UInt8), x4⟩ : Ag)])), .int .i64 (0 : Int), .bool false]) :: (u5, .cells (fl cK (List.reverse (((⟨(⟨(1 : Int), (⟨([] : List UInt8), ([] : List UInt8)⟩ : Ah), ([] : List Aa), ([] : List Ad), ([] : List UInt8)⟩ : Ad), ([] : List UInt8), x4⟩ : Ag), 0) :: [])))) :: (i1, .cells [.int .i64 (0 : Int), .str ([] : List UInt8), .str ([] : List UInt8), .sl 3 (List.map Ac ([] : List Aa)) 0, .sl 6 (List.map Ae ([] : List Ad)) 0, .str ([] : List UInt8)]) :: (E5 (((⟨(⟨(1 : Int), (⟨([] : List UInt8), ([] : List UInt8)⟩ : Ah), ([] : List Aa), ([] : List Ad), ([] : List UInt8)⟩ : Ad), ([] : List UInt8), x4⟩ : Ag), 0) :: []) ++ [])) := (.keep (.keep (.weak (.cons (.refl _) (.cons (.refl _) (.cons (.refl _) (.cons (.nil _) (.cons (.nil _) (.refl _)))))) (.refl (E5 (((⟨(⟨(1 : Int), (⟨([] : List UInt8), ([] : List UInt8)⟩ : Ah), ([] : List Aa), ([] : List Ad), ([] : List UInt8)⟩ : Ad), ([] : List UInt8), x4⟩ : Ag), 0) :: []) ++ [])))))
    exact ⟨u5, hu5, (((⟨(⟨(1 : Int), (⟨([] : List UInt8), ([] : List UInt8)⟩ : Ah), ([] : List Aa), ([] : List Ad), ([] : List UInt8)⟩ : Ad), ([] : List UInt8), x4⟩ : Ag), 0) :: []), hx6, zs7, (hwo.spec ok).1, WS.mk' (.k (.k (.k (.k (.k (.k .nil)))))) ok hwo⟩
   ·rintro G58 hG59 rec60 ⟨a44, a45, a46, a47, a48, a49, a51, a55, a56, a57⟩ s' ih61 hF ⟨g50, hg50, x52, hx53, zs54, ok, hws⟩
    refine AO hws ?_
    clear hws s'
    rw [DJ] at hF
    refine Ih ?_
    refine Au rfl hF (fun hb62 hF => ?_) fun hb62 hF => ?_
    ·refine TG ?_
     refine CR (mdl [(10, 1)]) ?_
     refine Gh rfl rfl Sz F8 hF (fun x63 _ hF => ?_)
     refine AX rfl (A4 (vs := cTK x63) HP F8 rfl rfl) ?_
     refine DB ok rfl OM ?_
     intro i64 hi64 ok
     refine Cv (j := 0) (cs' := [.int .i64 x63.Kind, .int .i64 x63.At, .str x63.Name, .sl 2 (List.map cP x63.Pairs) 0, .str x63.Text, .int .i64 x63.Refs]) ok rfl rfl rfl hi64 rfl F8 rfl rfl (fun ok => ?_)
     refine Ii ?_
     refine DT (j := 0) ok rfl rfl rfl hi64 (A4 (vs := cTK x63) HP F8 rfl rfl) ?_
     obtain ⟨hpe, ok⟩ := Bh 2 ok rfl
     rw [hpe]; clear hpe
     obtain ⟨hpe, ok⟩ := Bh 2 ok rfl
     rw [hpe]; clear hpe
     obtain ⟨hpe, ok⟩ := NB ok (((List.perm_append_comm_assoc [(i64, .cells [.int .i64 x63.Kind, .int .i64 x63.At, .str x63.Name, .sl 2 (List.map cP x63.Pairs) 0, .str x63.Text, .int .i64 x63.Refs]), (i1, .cells [.int .i64 a44, .str a45, .str a46, .sl 3 (List.map Ac a47) 0, .sl 6 (List.map Ae a48) 0, .str a49])] (E5 x52) []).cons _).cons _)
     refine U3 hpe ?_
     clear hpe
     refine cl (okT (fun _ hF => JF _ (p0 := (⟨a51, a55, a56⟩ : AA)) (q0 := i8) (b0_0 := g50) (x0 := x52) h ([(i64, .cells [.int .i64 x63.Kind, .int .i64 x63.At, .str x63.Name, .sl 2 (List.map cP x63.Pairs) 0, .str x63.Text, .int .i64 x63.Refs]), (i1, .cells [.int .i64 a44, .str a45, .str a46, .sl 3 (List.map Ac a47) 0, .sl 6 (List.map Ae a48) 0, .str a49])] ++ []) hi8 hg50 hx53 zs54 ok hF) hF fun x65 _ _ _ hq hF => ?_)
     obtain ⟨rfl, u66, x67, hu66, hxu66, zku66, ok, rfl⟩ := hq
     obtain ⟨hpe, ok⟩ := NB ok (((List.perm_append_comm_assoc (E5 x67) [(i64, .cells [.int .i64 x63.Kind, .int .i64 x63.At, .str x63.Name, .sl 2 (List.map cP x63.Pairs) 0, .str x63.Text, .int .i64 x63.Refs]), (i1, .cells [.int .i64 a44, .str a45, .str a46, .sl 3 (List.map Ac a47) 0, .sl 6 (List.map Ae a48) 0, .str a49])] []).cons _).cons _)
     refine U3 hpe ?_
     clear hpe
     refine Se ?_
     refine Au rfl hF (fun hb68 hF => ?_) fun hb68 hF => ?_
     ·refine Ec ?_
      refine Uh (mdl []) [0, 1, 3] [2, 4, 5, 6] [4, 2, 5, 6] [_, _, _] [_, _, _, _] [_, _, _, _] (by kernel_rfl) rfl rfl rfl rfl (by kernel_rfl) ?_
      refine CN (v := .agg [.int .i64 (0 : Int), .str ([] : List UInt8), .str ([] : List UInt8), .snil, .snil, .str ([] : List UInt8)]) (Ej DD F5 rfl) ?_
      refine DF rfl Tg AN ?_
      refine ei ?_
      refine ⟨?_, ?_⟩
      ·refine eE ?_
       refine Cv (j := 3) (cs' := [.int .i64 (0 : Int), .str ([] : List UInt8), .str ([] : List UInt8), .snil, .snil, .str ([] : List UInt8)]) ok rfl rfl rfl hi1 rfl AK rfl rfl (fun ok => ?_)
       refine IU ?_
       replace hF := hG59 _ (Ak hF)
       refine xr ?_
       refine F6 (fn := Tryz.f11) rfl (.cell rfl (GO (j := 3) ok rfl hi1 (A4 (vs := [.int .i64 (0 : Int), .str ([] : List UInt8), .str ([] : List UInt8), .snil, .snil, .str ([] : List UInt8)]) CQ AK rfl rfl)) (.tmp (v := .int .i64 x63.At) rfl (.tmp (v := .int .i64 x65.1) rfl .nil))) ?_
       exact ⟨_, _, (.tupC (.cons (Wd.toE (.aggC (.cons (.refl _) (.cons (.refl _) (.cons (.refl _) (.cons (.nil _) (.cons (.nil _) (.refl _))))))) (Ab _)) (.refl _))), ok.wh, _, Ak hF, rfl, rfl⟩
      ·refine Cv (j := 3) (cs' := [.int .i64 (0 : Int), .str ([] : List UInt8), .str ([] : List UInt8), .snil, .snil, .str ([] : List UInt8)]) ok rfl rfl rfl hi1 rfl AK rfl rfl (fun ok => ?_)
       refine eE ?_
       refine IU ?_
       replace hF := hG59 _ (Ak hF)
       refine xr ?_
       refine F6 (fn := Tryz.f11) rfl (.cell rfl (GO (j := 3) ok rfl hi1 (A4 (vs := [.int .i64 (0 : Int), .str ([] : List UInt8), .str ([] : List UInt8), .snil, .snil, .str ([] : List UInt8)]) CQ AK rfl rfl)) (.tmp (v := .int .i64 x63.At) rfl (.tmp (v := .int .i64 x65.1) rfl .nil))) ?_
       exact ⟨_, _, (.tupC (.cons (Wd.toE (.aggC (.cons (.refl _) (.cons (.refl _) (.cons (.refl _) (.cons (.nil _) (.cons (.nil _) (.refl _))))))) (Ab _)) (.refl _))), ok.wh, _, Ak hF, rfl, rfl⟩
     ·refine KZ ?_
      refine ih61 (a44, a45, a46, a47, a48, a49, x65.2.open_, x65.2.nodes, x65.2.done, (IntKind.wrap .i64 (a57 + (1 : Int)))) _ hF ?_
      exact ⟨u66, hu66, x67, hxu66, zku66, oy ok, wy ok⟩
    ·refine DS ?_
     replace hF := hG59 _ (Ak hF)
     exact ⟨(a44, a45, a46, a47, a48, a49, a51, a55, a56), hF, g50, hg50, x52, hx53, zs54, oy ok, wy ok⟩
  ·rintro ⟨a30, a31, a32, a33, a34, a35, a37, a41, a42⟩ s' hF ⟨g36, hg36, x38, hx39, zs40, ok, hws⟩
   refine AO hws ?_
   clear hws s'
   refine Ec ?_
   refine FB ?_
   refine Ph ?_
   refine Xl ?_
   refine ID (e := a37) rfl E7 ?_
   refine Sk ?_
   refine CS ?_
   refine Au rfl hF (fun hb69 hF => ?_) fun hb69 hF => ?_
   ·refine Bg ?_
    refine CN (v := .agg [.int .i64 (0 : Int), .str ([] : List UInt8), .str ([] : List UInt8), .snil, .snil, .str ([] : List UInt8)]) (Ej DD F5 rfl) ?_
    refine Eg 52 (v := .agg [.int .i64 (0 : Int), .str ([] : List UInt8), .str ([] : List UInt8), .sl 3 (List.map Ac ([] : List Aa)) 0, .snil, .str ([] : List UInt8)]) (.aggC (.cons (.refl _) (.cons (.refl _) (.cons (.refl _) (.cons (.nil _) (.refl _)))))) ?_
    refine Jp ?_
    refine cl (AT (fun _ h hF => HT _ h hF) _ hF fun x70 _ hF => ?_)
    refine Mc ?_
    refine Cv (j := 2) (cs' := [.int .i64 (0 : Int), .str ([] : List UInt8), .str ([] : List UInt8), .sl 3 (List.map Ac ([] : List Aa)) 0, .snil, .str ([] : List UInt8)]) ok rfl rfl rfl hi1 rfl AK rfl rfl (fun ok => ?_)
    refine IU ?_
    refine xr ?_
    refine F6 (fn := Tryz.f11) rfl (.cell rfl (GO (j := 2) ok rfl hi1 (A4 (vs := [.int .i64 (0 : Int), .str ([] : List UInt8), .str ([] : List UInt8), .sl 3 (List.map Ac ([] : List Aa)) 0, .snil, .str ([] : List UInt8)]) CQ AK rfl rfl)) (.tmp (v := .int .i64 (x70.length : Int)) rfl (.tmp (v := .int .i64 (26 : Int)) rfl .nil))) ?_
    exact ⟨_, _, (.tupC (.cons (Wd.toE (.aggC (.cons (.refl _) (.cons (.refl _) (.cons (.refl _) (.cons (.refl _) (.cons (.nil _) (.refl _))))))) (Ab _)) (.refl _))), ok.wh, _, Ak hF, rfl, rfl⟩
   ·refine Ph ?_
    refine V0 ?_
    refine eY ?_
    refine Nb ?_
    refine CS ?_
    refine Au rfl hF (fun hb71 hF => ?_) fun hb71 hF => ?_
    ·refine Bg ?_
     refine CN (v := .agg [.int .i64 (0 : Int), .str ([] : List UInt8), .str ([] : List UInt8), .snil, .snil, .str ([] : List UInt8)]) (Ej DD F5 rfl) ?_
     refine Eg 62 (v := .agg [.int .i64 (0 : Int), .str ([] : List UInt8), .str ([] : List UInt8), .sl 3 (List.map Ac ([] : List Aa)) 0, .snil, .str ([] : List UInt8)]) (.aggC (.cons (.refl _) (.cons (.refl _) (.cons (.refl _) (.cons (.nil _) (.refl _)))))) ?_
     refine Jp ?_
     refine cl (AT (fun _ h hF => HT _ h hF) _ hF fun x72 _ hF => ?_)
     refine Mc ?_
     refine Cv (j := 2) (cs' := [.int .i64 (0 : Int), .str ([] : List UInt8), .str ([] : List UInt8), .sl 3 (List.map Ac ([] : List Aa)) 0, .snil, .str ([] : List UInt8)]) ok rfl rfl rfl hi1 rfl AK rfl rfl (fun ok => ?_)
     refine IU ?_
     refine xr ?_
     refine F6 (fn := Tryz.f11) rfl (.cell rfl (GO (j := 2) ok rfl hi1 (A4 (vs := [.int .i64 (0 : Int), .str ([] : List UInt8), .str ([] : List UInt8), .sl 3 (List.map Ac ([] : List Aa)) 0, .snil, .str ([] : List UInt8)]) CQ AK rfl rfl)) (.tmp (v := .int .i64 (x72.length : Int)) rfl (.tmp (v := .int .i64 (30 : Int)) rfl .nil))) ?_
     exact ⟨_, _, (.tupC (.cons (Wd.toE (.aggC (.cons (.refl _) (.cons (.refl _) (.cons (.refl _) (.cons (.refl _) (.cons (.nil _) (.refl _))))))) (Ab _)) (.refl _))), ok.wh, _, Ak hF, rfl, rfl⟩
    ·refine Km ?_
     refine Hy ?_
     refine Xl ?_
     refine bL (e := a37) rfl rfl E7 NT hF (fun x73 he74 hF => ?_)
     obtain ⟨t75, xs76, rfl, hx77⟩ := Hn hx39 he74
     have zt78 := (BT.1 zs40).1
     have zs79 := (BT.1 zs40).2
     have hp80 := Ji IB hx77
     have hck : cK (x73.1, t75) = [.int .i64 x73.1.node.Kind, .str x73.1.node.Name.URI, .str x73.1.node.Name.Local, .sl 3 (List.map Ac x73.1.node.Attrs) 0, Aq 6 t75 x73.1.node.Kids, .str x73.1.node.Text, .str x73.1.raw, .sl 2 (List.map Af x73.1.in_.binds) 0] := rfl
     rw [Cf, Dz, List.cons_append, hck] at ok
     rw [Cf, Dz, List.cons_append, hck]
     clear hck
     refine bf ?_
     refine Jv (j := 1) (f0 := 0) ok rfl rfl rfl hg36 (by omega) (A4 (vs := [.int .i64 x73.1.node.Kind, .str x73.1.node.Name.URI, .str x73.1.node.Name.Local, .sl 3 (List.map Ac x73.1.node.Attrs) 0, Aq 6 t75 x73.1.node.Kids, .str x73.1.node.Text]) CQ AK rfl rfl) ?_
     refine Yw (c := Ae) (e := x73.1.node.Kids) (cs' := Ae x73.1.node) 3 72 4 ok zt78 rfl rfl B6 rfl (by rw [Ab]; rfl) (fun ok => ?_)
     refine Cv (j := 2) (cs' := [.int .i64 x73.1.node.Kind, .str x73.1.node.Name.URI, .str x73.1.node.Name.Local, .sl 3 (List.map Ac x73.1.node.Attrs) 0, .sl 6 (List.map Ae x73.1.node.Kids) 0, .str x73.1.node.Text]) ok rfl (congrArg D.agg (Ab x73.1.node)) rfl hi1 rfl AK rfl rfl (fun ok => ?_)
     refine IU ?_
     refine xr ?_
     refine F6 (fn := Tryz.f11) rfl (.cell rfl (GO (j := 2) ok rfl hi1 (A4 (vs := [.int .i64 x73.1.node.Kind, .str x73.1.node.Name.URI, .str x73.1.node.Name.Local, .sl 3 (List.map Ac x73.1.node.Attrs) 0, .sl 6 (List.map Ae x73.1.node.Kids) 0, .str x73.1.node.Text]) CQ AK rfl rfl)) (.tmp (v := .int .i64 (0 : Int)) rfl (.tmp (v := .int .i64 (0 : Int)) rfl .nil))) ?_
     exact ⟨_, _, (.tupC (.cons (Wd.toE (.aggC (.refl _)) (Ab _)) (.refl _))), ok.wh, _, Ak hF, rfl, rfl⟩
theorem Jo {G : Bool → Prop} (h : Heap) (hF : Am (EE) G) : CallsA Tryz.prog 9 [] h fun d h' => ∃ r, G r ∧ d = .bool r ∧ h' = h := by
 refine CallsA.ret ?_
 refine Be Tryz.func9 rfl ip Tryz.ntmps9 rfl (fun ok => ?_)
 rw [EE] at hF
 refine Ic ?_
 refine Ec ?_
 refine CR (mdl [(8, 5), (9, 5), (1, 1)]) ?_
 refine QR (cs := [.int .u8 60, .int .u8 97, .int .u8 32, .int .u8 120, .int .u8 109, .int .u8 108, .int .u8 110, .int .u8 115, .int .u8 61, .int .u8 39, .int .u8 117, .int .u8 39, .int .u8 32, .int .u8 98, .int .u8 61, .int .u8 39, .int .u8 49, .int .u8 39, .int .u8 62, .int .u8 120, .int .u8 60, .int .u8 33, .int .u8 91, .int .u8 67, .int .u8 68, .int .u8 65, .int .u8 84, .int .u8 65, .int .u8 91, .int .u8 60, .int .u8 93, .int .u8 93, .int .u8 62, .int .u8 38, .int .u8 97, .int .u8 109, .int .u8 112, .int .u8 59, .int .u8 60, .int .u8 47, .int .u8 97, .int .u8 62]) ok rfl GL rfl (by kernel_rfl) ?_
 intro i1 hi1 ok
 refine VE (v := .sl 1 (List.map AL ([60, 97, 32, 120, 109, 108, 110, 115, 61, 39, 117, 39, 32, 98, 61, 39, 49, 39, 62, 120, 60, 33, 91, 67, 68, 65, 84, 65, 91, 60, 93, 93, 62, 38, 97, 109, 112, 59, 60, 47, 97, 62] : List UInt8)) 0) (by kernel_rfl) 0 ok rfl rfl hi1 rfl Ca KI rfl rfl (fun ok => ?_)
 refine cl (AT (fun _ h hF => Hx _ h hF) _ hF fun x3 _ hF => ?_)
 refine Qj ?_
 refine DB ok rfl DD ?_
 intro i4 hi4 ok
 refine Cv (j := 0) (cs' := [.int .i64 x3.1.Kind, .str x3.1.Name.URI, .str x3.1.Name.Local, .sl 3 (List.map Ac x3.1.Attrs) 0, .sl 6 (List.map Ae x3.1.Kids) 0, .str x3.1.Text]) ok rfl (congrArg D.agg (Ab x3.1)) rfl hi4 rfl AK rfl rfl (fun ok => ?_)
 refine IY ?_
 refine Ec ?_
 refine CR (mdl [(15, 5), (16, 5), (4, 1)]) ?_
 refine QR (cs := [.int .u8 60, .int .u8 97, .int .u8 62, .int .u8 60, .int .u8 47, .int .u8 98, .int .u8 62]) ok rfl GL rfl (by kernel_rfl) ?_
 intro i5 hi5 ok
 refine VE (v := .sl 1 (List.map AL ([60, 97, 62, 60, 47, 98, 62] : List UInt8)) 0) (by kernel_rfl) 0 ok rfl rfl hi5 rfl Ca KI rfl rfl (fun ok => ?_)
 refine cl (AT (fun _ h hF => Hx _ h hF) _ hF fun x7 _ hF => ?_)
 refine Qj ?_
 refine DB ok rfl DD ?_
 intro i8 hi8 ok
 refine Cv (j := 0) (cs' := [.int .i64 x7.1.Kind, .str x7.1.Name.URI, .str x7.1.Name.Local, .sl 3 (List.map Ac x7.1.Attrs) 0, .sl 6 (List.map Ae x7.1.Kids) 0, .str x7.1.Text]) ok rfl (congrArg D.agg (Ab x7.1)) rfl hi8 rfl AK rfl rfl (fun ok => ?_)
 refine V4 ?_
 refine II ?_
 refine Cp (b := (x3.2.2 == (0 : Int))) 3 26 (.bool ((x3.2.2 == (0 : Int)) && (x7.2.2 == (26 : Int)))) (fun hb9 => ?_) (fun hb9 => ?_) ?_
 ·refine Tv ?_
  refine Hv ?_
  exact th
 ·refine IE ?_
  exact th
 refine CM ?_
 refine Cp (b := ((x3.2.2 == (0 : Int)) && (x7.2.2 == (26 : Int)))) 3 30 (.bool (((x3.2.2 == (0 : Int)) && (x7.2.2 == (26 : Int))) && (x7.2.1 == (3 : Int)))) (fun hb10 => ?_) (fun hb10 => ?_) ?_
 ·refine Tv ?_
  refine Hv ?_
  exact th
 ·refine IE ?_
  exact th
 refine CM ?_
 refine Cp (b := (((x3.2.2 == (0 : Int)) && (x7.2.2 == (26 : Int))) && (x7.2.1 == (3 : Int)))) 5 36 (.bool ((((x3.2.2 == (0 : Int)) && (x7.2.2 == (26 : Int))) && (x7.2.1 == (3 : Int))) && ((x3.1.Kids.length : Int) == (1 : Int)))) (fun hb11 => ?_) (fun hb11 => ?_) ?_
 ·refine D3 ?_
  refine WY ?_
  refine AF ?_
  refine ar ?_
  refine AF ?_
  refine Pv ?_
  refine Tq ?_
  exact th
 ·refine TE ?_
  exact th
 refine CM ?_
 refine Bu 8 45 hF (fun J13 hb12 hF => ?_) (fun J13 hb12 hF => ?_) (fun v14 hF => ?_)
 ·refine D3 ?_
  refine WY ?_
  refine AF ?_
  refine ar ?_
  refine AF ?_
  refine Gh rfl rfl C7 AK hF (fun x15 _ hF => ?_)
  refine AF ?_
  refine Br rfl E4 Bz (by rw [Ab]; rfl) ?_
  refine AF ?_
  refine AX rfl (A4 (vs := AP x15.Name) Du Bz (by rw [Ab]; rfl) (by rw [Ab]; rfl)) ?_
  refine AF ?_
  refine CN (v := .agg (AP (⟨([117] : List UInt8), ([97] : List UInt8)⟩ : Ah))) (Ej E9 GH rfl) ?_
  refine AF ?_
  refine D4 rfl rfl (Yi (b := ((x15.Name.URI == (⟨([117] : List UInt8), ([97] : List UInt8)⟩ : Ah).URI) && ((x15.Name.Local == (⟨([117] : List UInt8), ([97] : List UInt8)⟩ : Ah).Local) && true))) Fd ER (by simp only [AP, EX, FE, Ir, ER, Fd, BN, As, CB, BN, As, CB, Gl, Gj, FG, Gq, FP, FT, EV, List.drop_zero, List.drop_succ_cons, List.length_cons, List.length_nil, List.take_succ_cons, List.take_zero, Option.isSome_some, if_true, Option.bind_some, Option.map_some, Nat.reduceAdd, Nat.reduceLeDiff])) ?_
  refine Hv ?_
  exact tw
 ·refine GU ?_
  refine KK ?_
  exact tw
 ·refine CM ?_
  refine Bu 8 54 hF (fun J17 hb16 hF => ?_) (fun J17 hb16 hF => ?_) (fun v18 hF => ?_)
  ·refine D3 ?_
   refine WY ?_
   refine AF ?_
   refine ar ?_
   refine AF ?_
   refine Gh rfl rfl C7 AK hF (fun x19 _ hF => ?_)
   refine AF ?_
   refine Br rfl Do Bw (by rw [Ab]; rfl) ?_
   refine AF ?_
   refine AX rfl (Bf Dl Bw (congrArg (List.drop 4) (Ab x19))) ?_
   refine AF ?_
   refine Pv ?_
   refine Tq ?_
   exact tw
  ·refine GU ?_
   refine KK ?_
   exact tw
  ·refine CM ?_
   refine Bu 10 65 hF (fun J21 hb20 hF => ?_) (fun J21 hb20 hF => ?_) (fun v22 hF => ?_)
   ·refine D3 ?_
    refine WY ?_
    refine AF ?_
    refine ar ?_
    refine AF ?_
    refine Gh rfl rfl C7 AK hF (fun x23 _ hF => ?_)
    refine AF ?_
    refine Br rfl Do Bw (by rw [Ab]; rfl) ?_
    refine AF ?_
    refine AX rfl (Bf Dl Bw (congrArg (List.drop 4) (Ab x23))) ?_
    refine AF ?_
    refine Gh rfl rfl C7 AK hF (fun x24 _ hF => ?_)
    refine AF ?_
    refine Br rfl Cx As (by rw [Ab]; rfl) ?_
    refine AF ?_
    refine AX rfl (Bf BN As (congrArg (List.drop 5) (Ab x24))) ?_
    refine AF ?_
    refine Up ?_
    exact tw
   ·refine GU ?_
    refine MA ?_
    exact tw
   ·refine Ep ?_
    exact rt
theorem H7 (p0 : List Aa) (p1 : List Aa) {G : Bool → Prop} (h : Heap) (hF : Am (Ck p0 p1) G) : CallsA Tryz.prog 31 [.sl 3 (List.map Ac p0) 0, .sl 3 (List.map Ac p1) 0] h fun d h' => ∃ r, G r ∧ d = .bool r ∧ h' = h := by
 refine CallsA.ret ?_
 refine Be Tryz.func31 rfl fZ Tryz.ntmps31 rfl (fun ok => ?_)
 rw [Ck] at hF
 refine Ic ?_
 refine Ec ?_
 refine ET ?_
 refine Q0 ?_
 refine Jp ?_
 refine Q0 ?_
 refine MB ?_
 refine Au rfl hF (fun hb1 hF => ?_) fun hb1 hF => ?_
 ·refine Ki ?_
  exact rt
 ·refine Cl ?_
  refine A5 hF (fun (_ : Unit) s' => OK h [] ∧ WS s' ⟨Al 26 [], Hp h []⟩) (fun J7 hF => ?_) ?_
  ·refine ET ?_
   refine Q0 ?_
   refine Ia ?_
   refine Cg (σ := Int) hF (fun (a8 : Int) s' => OK h [] ∧ WS s' ⟨Al 26 [(0, .sl 3 (List.map Ac p0) 0), (1, .sl 3 (List.map Ac p1) 0), (12, .int .i64 (p0.length : Int)), (13, .int .i64 a8)], Hp h []⟩) ?_ ?_
   ·exact ⟨oy ok, wy ok⟩
   ·rintro G9 hG10 rec11 a8 s' ih12 hF ⟨ok, hws⟩
    refine AO hws ?_
    clear hws s'
    rw [CL] at hF
    refine Ih ?_
    refine Au rfl hF (fun hb13 hF => ?_) fun hb13 hF => ?_
    ·refine SQ ?_
     refine Ec ?_
     refine EW (mdl [(19, 3), (23, 3)]) (by kernel_rfl) (by kernel_rfl) ?_
     refine S7 ?_
     refine Gh rfl rfl BK Ax hF (fun x14 _ hF => ?_)
     refine AX rfl (A4 (vs := Ac x14) CO Ax rfl rfl) ?_
     refine S7 ?_
     refine Gh rfl rfl BK Ax hF (fun x15 _ hF => ?_)
     refine AX rfl (A4 (vs := Ac x15) CO Ax rfl rfl) ?_
     refine D4 rfl rfl (QH (b := (((x14.Name.URI == x15.Name.URI) && ((x14.Name.Local == x15.Name.Local) && true)) && ((x14.Value == x15.Value) && true))) PR PK (by simp only [Ac, EX, FE, Ir, PK, PR, Du, Bz, ER, BN, As, CB, BN, As, CB, BN, As, CB, Gl, Gj, FG, Gq, FP, FT, EV, List.drop_zero, List.drop_succ_cons, List.length_cons, List.length_nil, List.take_succ_cons, List.take_zero, Option.isSome_some, if_true, Option.bind_some, Option.map_some, Nat.reduceAdd, Nat.reduceLeDiff])) ?_
     refine AY ?_
     refine Au rfl hF (fun hb16 hF => ?_) fun hb16 hF => ?_
     ·refine Ki ?_
      replace hF := hG10 _ (Ak hF)
      exact rt
     ·refine KZ ?_
      refine ih12 (IntKind.wrap .i64 (a8 + (1 : Int))) _ hF ?_
      exact ⟨oy ok, wy ok⟩
    ·refine DS ?_
     replace hF := hG10 _ (Ak hF)
     exact ⟨(), hF, oy ok, wy ok⟩
  ·rintro ⟨⟩ s' hF ⟨ok, hws⟩
   refine AO hws ?_
   clear hws s'
   refine Ki ?_
   exact rt
theorem HG {β : Type} {f : Bool → Option β} {G : β → Prop} {R : D → Heap → Prop} {p0 : List Aa} {p1 : List Aa} (h : Heap) (hF : Am ((Ck p0 p1).bind f) G) (hk : ∀ r, Ck p0 p1 = some r → Am (f r) G → R (.bool r) h) : CallsA Tryz.prog 31 [.sl 3 (List.map Ac p0) 0, .sl 3 (List.map Ac p1) 0] h R := by
 obtain ⟨r0, hr, hF⟩ := BD hF
 refine (H7 (G := fun r => r = r0) p0 p1 h ⟨r0, hr, rfl⟩).mono ?_
 rintro _ _ ⟨r, rfl, rfl, rfl⟩
 exact hk _ hr hF
theorem JN : ∀ (N : Nat) (v : Ad × Ad) (G : Bool → Prop) (h : Heap), Am (iter BP N v) G → CallsA Tryz.prog 13 [.agg (Ae v.1), .agg (Ae v.2)] h fun d h' => ∃ r, G r ∧ d = .bool r ∧ h' = h := by
 intro N
 induction N with
 | zero => intro v G h hF; exact MG hF
 | succ N ih0 =>
 rintro ⟨p0, p1⟩ G h hF
 show CallsA Tryz.prog 13 [.agg (Ae p0), .agg (Ae p1)] h fun d h' => ∃ r, G r ∧ d = .bool r ∧ h' = h
 replace hF : Am (BP (iter BP N) (p0, p1)) G := hF
 refine CallsA.ret ?_
 refine Be Tryz.func13 rfl fk Tryz.ntmps13 rfl (fun ok => ?_)
 rw [BP] at hF
 refine Bg ?_
 refine Dc (v := .agg (Ae p0)) (cs := Ae p0) rfl rfl rfl rfl ?_
 refine Dc (v := .agg (Ae p1)) (cs := Ae p1) rfl rfl rfl rfl ?_
 refine CS ?_
 refine Nc ?_
 refine Br rfl Dy AN (by rw [Ab]; rfl) ?_
 refine AX rfl (Bf EN AN (congrArg (List.drop 0) (Ab p0))) ?_
 refine Br rfl Dy AN (by rw [Ab]; rfl) ?_
 refine AX rfl (Bf EN AN (congrArg (List.drop 0) (Ab p1))) ?_
 refine Tz ?_
 refine Cp (b := (p0.Kind != p1.Kind)) 6 17 (.bool ((p0.Kind != p1.Kind) || (!((p0.Name.URI == p1.Name.URI) && ((p0.Name.Local == p1.Name.Local) && true))))) (fun hb1 => ?_) (fun hb1 => ?_) ?_
 ·refine WX ?_
  refine KN ?_
  exact th
 ·refine D3 ?_
  refine Br rfl E4 Bz (by rw [Ab]; rfl) ?_
  refine AF ?_
  refine AX rfl (A4 (vs := AP p0.Name) Du Bz (by rw [Ab]; rfl) (by rw [Ab]; rfl)) ?_
  refine AF ?_
  refine Br rfl E4 Bz (by rw [Ab]; rfl) ?_
  refine AF ?_
  refine AX rfl (A4 (vs := AP p1.Name) Du Bz (by rw [Ab]; rfl) (by rw [Ab]; rfl)) ?_
  refine AF ?_
  refine D4 rfl rfl (QH (b := ((p0.Name.URI == p1.Name.URI) && ((p0.Name.Local == p1.Name.Local) && true))) Fd ER (by simp only [AP, EX, FE, Ir, ER, Fd, BN, As, CB, BN, As, CB, Gl, Gj, FG, Gq, FP, FT, EV, List.drop_zero, List.drop_succ_cons, List.length_cons, List.length_nil, List.take_succ_cons, List.take_zero, Option.isSome_some, if_true, Option.bind_some, Option.map_some, Nat.reduceAdd, Nat.reduceLeDiff])) ?_
  refine EK ?_
  exact th
 refine CM ?_
 refine Cp (b := ((p0.Kind != p1.Kind) || (!((p0.Name.URI == p1.Name.URI) && ((p0.Name.Local == p1.Name.Local) && true))))) 6 24 (.bool (((p0.Kind != p1.Kind) || (!((p0.Name.URI == p1.Name.URI) && ((p0.Name.Local == p1.Name.Local) && true)))) || (!(p0.Text == p1.Text)))) (fun hb2 => ?_) (fun hb2 => ?_) ?_
 ·refine WX ?_
  refine KN ?_
  exact th
 ·refine D3 ?_
  refine Br rfl Cx As (by rw [Ab]; rfl) ?_
  refine AF ?_
  refine AX rfl (Bf BN As (congrArg (List.drop 5) (Ab p0))) ?_
  refine AF ?_
  refine Br rfl Cx As (by rw [Ab]; rfl) ?_
  refine AF ?_
  refine AX rfl (Bf BN As (congrArg (List.drop 5) (Ab p1))) ?_
  refine Uu ?_
  refine EK ?_
  exact th
 refine CM ?_
 refine Bu 7 32 hF (fun J4 hb3 hF => ?_) (fun J4 hb3 hF => ?_) (fun v5 hF => ?_)
 ·refine WG ?_
  exact tw
 ·refine D3 ?_
  refine Br rfl EH De (by rw [Ab]; rfl) ?_
  refine AF ?_
  refine AX rfl (Bf Ga De (congrArg (List.drop 3) (Ab p0))) ?_
  refine AF ?_
  refine Br rfl EH De (by rw [Ab]; rfl) ?_
  refine AF ?_
  refine AX rfl (Bf Ga De (congrArg (List.drop 3) (Ab p1))) ?_
  refine AF ?_
  refine cl (HG _ hF fun x6 _ hF => ?_)
  refine OA ?_
  refine EK ?_
  exact tw
 ·refine CM ?_
  refine Cp (b := v5) 8 41 (.bool (v5 || ((p0.Kids.length : Int) != (p1.Kids.length : Int)))) (fun hb7 => ?_) (fun hb7 => ?_) ?_
  ·refine GU ?_
   refine Od ?_
   exact th
  ·refine D3 ?_
   refine Br rfl Do Bw (by rw [Ab]; rfl) ?_
   refine AF ?_
   refine AX rfl (Bf Dl Bw (congrArg (List.drop 4) (Ab p0))) ?_
   refine AF ?_
   refine Pv ?_
   refine AF ?_
   refine Br rfl Do Bw (by rw [Ab]; rfl) ?_
   refine AF ?_
   refine AX rfl (Bf Dl Bw (congrArg (List.drop 4) (Ab p1))) ?_
   refine AF ?_
   refine Pv ?_
   refine AF ?_
   refine R4 ?_
   refine EK ?_
   exact th
  refine AY ?_
  refine Au rfl hF (fun hb8 hF => ?_) fun hb8 hF => ?_
  ·refine Ki ?_
   exact rt
  ·refine Cl ?_
   refine A5 hF (fun (_ : Unit) s' => OK h [] ∧ WS s' ⟨Al 61 [], Hp h []⟩) (fun J15 hF => ?_) ?_
   ·refine Bg ?_
    refine Br rfl Do Bw (by rw [Ab]; rfl) ?_
    refine AX rfl (Bf Dl Bw (congrArg (List.drop 4) (Ab p0))) ?_
    refine Pv ?_
    refine Ia ?_
    refine Cg (σ := Int) hF (fun (a16 : Int) s' => OK h [] ∧ WS s' ⟨Al 61 [(2, .iptr (Ae p0)), (3, .iptr (Ae p1)), (44, .int .i64 (p0.Kids.length : Int)), (45, .int .i64 a16)], Hp h []⟩) ?_ ?_
    ·exact ⟨oy ok, wy ok⟩
    ·rintro G17 hG18 rec19 a16 s' ih20 hF ⟨ok, hws⟩
     refine AO hws ?_
     clear hws s'
     rw [Dp] at hF
     refine Ih ?_
     refine Au rfl hF (fun hb21 hF => ?_) fun hb21 hF => ?_
     ·refine SQ ?_
      refine Ec ?_
      refine EW (mdl [(49, 3), (52, 3), (54, 3), (57, 3)]) (by kernel_rfl) (by kernel_rfl) ?_
      refine Br rfl Do Bw (by rw [Ab]; rfl) ?_
      refine AX rfl (Bf Dl Bw (congrArg (List.drop 4) (Ab p0))) ?_
      refine Es ?_
      refine Gh rfl rfl C7 AK hF (fun x22 _ hF => ?_)
      refine AX rfl (A4 (vs := Ae x22) CQ AK (by rw [Ab]; rfl) (by rw [Ab]; rfl)) ?_
      refine Br rfl Do Bw (by rw [Ab]; rfl) ?_
      refine AX rfl (Bf Dl Bw (congrArg (List.drop 4) (Ab p1))) ?_
      refine Es ?_
      refine Gh rfl rfl C7 AK hF (fun x23 _ hF => ?_)
      refine AX rfl (A4 (vs := Ae x23) CQ AK (by rw [Ab]; rfl) (by rw [Ab]; rfl)) ?_
      refine cl (AT (enc := fun r => .bool r) (fun G h hF => ih0 (x22, x23) G h hF) _ hF fun x24 _ hF => ?_)
      refine OC ?_
      refine Au rfl hF (fun hb25 hF => ?_) fun hb25 hF => ?_
      ·refine Ki ?_
       replace hF := hG18 _ (Ak hF)
       exact rt
      ·refine KZ ?_
       refine ih20 (IntKind.wrap .i64 (a16 + (1 : Int))) _ hF ?_
       exact ⟨oy ok, wy ok⟩
     ·refine DS ?_
      replace hF := hG18 _ (Ak hF)
      exact ⟨(), hF, oy ok, wy ok⟩
   ·rintro ⟨⟩ s' hF ⟨ok, hws⟩
    refine AO hws ?_
    clear hws s'
    refine Ki ?_
    exact rt
theorem JG (p0 : Ad) (p1 : Ad) {G : Bool → Prop} (h : Heap) (hF : Am (C0 p0 p1) G) : CallsA Tryz.prog 13 [.agg (Ae p0), .agg (Ae p1)] h fun d h' => ∃ r, G r ∧ d = .bool r ∧ h' = h := JN Ay (p0, p1) G h hF
theorem Jd {β : Type} {f : Bool → Option β} {G : β → Prop} {R : D → Heap → Prop} {p0 : Ad} {p1 : Ad} (h : Heap) (hF : Am ((C0 p0 p1).bind f) G) (hk : ∀ r, C0 p0 p1 = some r → Am (f r) G → R (.bool r) h) : CallsA Tryz.prog 13 [.agg (Ae p0), .agg (Ae p1)] h R := by
 obtain ⟨r0, hr, hF⟩ := BD hF
 refine (JG (G := fun r => r = r0) p0 p1 h ⟨r0, hr, rfl⟩).mono ?_
 rintro _ _ ⟨r, rfl, rfl, rfl⟩
 exact hk _ hr hF
theorem Pg : ∀ (N : Nat) {p0 : Ad} {p1 : List Ad} {rp1 : Nat} {G : (List Ad) → Prop} (h : Heap) (O : List (Nat × AObj)) (hrp1 : rp1 ≠ 0) (ok : OK h ((rp1, .room) :: O)) (hF : Am (iter Dn N (p0, p1)) G), CallsA Tryz.prog 38 [.agg (Ae p0), .sl 6 (List.map Ae p1) rp1] (Hp h ((rp1, .room) :: O)) fun d h' => ∃ r, G r ∧ ∃ rp1' : Nat, d = .sl 6 (List.map Ae r) rp1' ∧ rp1' ≠ 0 ∧ OK h ((rp1', .room) :: O) ∧ h' = Hp h ((rp1', .room) :: O) := by
 intro N
 induction N with
 | zero => intro p0 p1 rp1 G h O hrp1 ok hF; exact MG hF
 | succ N ih0 =>
 have self_ok : ∀ {β : Type} {f0 : (List Ad) → Option β} {G : β → Prop} {R : D → Heap → Prop} {p0 : Ad} {p1 : List Ad} {rp1 : Nat} (h : Heap) (O : List (Nat × AObj)) (hrp1 : rp1 ≠ 0) (ok : OK h ((rp1, .room) :: O)) (hF : Am ((iter Dn N (p0, p1)).bind f0) G) (hk : ∀ r rp1', iter Dn N (p0, p1) = some r → rp1' ≠ 0 → OK h ((rp1', .room) :: O) → Am (f0 r) G → R (.sl 6 (List.map Ae r) rp1') (Hp h ((rp1', .room) :: O))), CallsA Tryz.prog 38 [.agg (Ae p0), .sl 6 (List.map Ae p1) rp1] (Hp h ((rp1, .room) :: O)) R := by
  intro β f0 G R p0 p1 rp1 h O hrp1 ok hF hk
  obtain ⟨r0, hr, hF⟩ := BD hF
  refine (ih0 (G := fun r => r = r0) h O hrp1 ok ⟨r0, hr, rfl⟩).mono ?_
  rintro _ _ ⟨r, rfl, rp, rfl, y0, ok', rfl⟩
  exact hk _ _ hr y0 ok' hF
 clear ih0
 intro p0 p1 rp1 G h O hrp1 ok hF
 replace hF : Am (Dn (iter Dn N) (p0, p1)) G := hF
 refine CallsA.ret ?_
 refine CJ Tryz.func38 rfl bR Tryz.ntmps38 rfl ?_
 rw [Dn] at hF
 refine Bg ?_
 refine Dc (v := .agg (Ae p0)) (cs := Ae p0) rfl rfl rfl rfl ?_
 refine S_a (v := .snil) rfl ?_
 refine Qv 4 6 ok rfl rfl ?_
 intro r1 hr1 ok
 refine Ht ?_
 refine CR (mdl [(10, 2)]) ?_
 refine Jp ?_
 refine AX rfl (A4 (vs := Ae p0) CQ AK (by rw [Ab]; rfl) (by rw [Ab]; rfl)) ?_
 refine d6 (d := 8) (v := .agg [.int .i64 p0.Kind, .str p0.Name.URI, .str p0.Name.Local, .sl 3 (List.map Ac p0.Attrs) 0, .sl 6 (List.map Ae p0.Kids) 0, .str p0.Text]) (congrArg D.agg (Ab p0)) ?_
 refine Fq (cs := [.int .i64 p0.Kind, .str p0.Name.URI, .str p0.Name.Local, .sl 3 (List.map Ac p0.Attrs) 0, .sl 6 (List.map Ae p0.Kids) 0, .str p0.Text]) (es := (List.map Ae [p0])) rfl IP rfl (by kernel_rfl) (by simp only [List.map_cons, List.map_nil, Ab]; rfl) ?_
 refine bH (j := 1) ok rfl rfl rfl rfl hrp1 IP OD hF ?_
 intro r2 hr2 ok hF
 refine NK ?_
 refine A5 hF (fun (a11 : (List Ad)) s' => ∃ g12 : Nat, g12 ≠ 0 ∧ OK h ((g12, .room) :: O) ∧ WS s' ⟨Al 23 [(1, .sl 6 (List.map Ae a11) g12)], Hp h ((g12, .room) :: O)⟩) (fun J13 hF => ?_) ?_
 ·refine Bg ?_
  refine Br rfl Do Bw (by rw [Ab]; rfl) ?_
  refine AX rfl (Bf Dl Bw (congrArg (List.drop 4) (Ab p0))) ?_
  refine Pv ?_
  refine Ia ?_
  refine Cg (σ := (List Ad) × Int) hF (fun (v : (List Ad) × Int) s' => match v with | (a14, a16) => ∃ g15 : Nat, g15 ≠ 0 ∧ OK h ((g15, .room) :: O) ∧ WS s' ⟨Al 23 [(1, .sl 6 (List.map Ae a14) g15), (12, .sl 6 (List.map Ae p0.Kids) 0), (13, .int .i64 (p0.Kids.length : Int)), (14, .int .i64 a16)], Hp h ((g15, .room) :: O)⟩) ?_ ?_
  ·exact ⟨r2, hr2, oy ok, wy ok⟩
  ·rintro G17 hG18 rec19 ⟨a14, a16⟩ s' ih20 hF ⟨g15, hg15, ok, hws⟩
   refine AO hws ?_
   clear hws s'
   rw [FU] at hF
   refine Ih ?_
   refine Au rfl hF (fun hb21 hF => ?_) fun hb21 hF => ?_
   ·refine TG ?_
    refine CR (mdl [(6, 1)]) ?_
    refine Gh rfl rfl C7 AK hF (fun x22 _ hF => ?_)
    refine AX rfl (A4 (vs := Ae x22) CQ AK (by rw [Ab]; rfl) (by rw [Ab]; rfl)) ?_
    refine DB ok rfl DD ?_
    intro i23 hi23 ok
    refine Cv (j := 0) (cs' := [.int .i64 x22.Kind, .str x22.Name.URI, .str x22.Name.Local, .sl 3 (List.map Ac x22.Attrs) 0, .sl 6 (List.map Ae x22.Kids) 0, .str x22.Text]) ok rfl (congrArg D.agg (Ab x22)) rfl hi23 rfl AK rfl rfl (fun ok => ?_)
    refine AY ?_
    refine Hu ?_
    refine DT (j := 0) ok rfl rfl rfl hi23 (A4 (vs := Ae x22) CQ AK rfl (Ab x22).symm) ?_
    refine Jp ?_
    obtain ⟨hpe, ok⟩ := Bh 1 ok rfl
    rw [hpe]; clear hpe
    refine cl (self_ok (p0 := x22) (p1 := a14) (rp1 := g15) h ((i23, .cells [.int .i64 x22.Kind, .str x22.Name.URI, .str x22.Name.Local, .sl 3 (List.map Ac x22.Attrs) 0, .sl 6 (List.map Ae x22.Kids) 0, .str x22.Text]) :: O) hg15 ok hF fun x24 r25 _ hr25 ok hF => ?_)
    refine NK ?_
    refine R5 ?_
    refine ih20 (x24, (IntKind.wrap .i64 (a16 + (1 : Int)))) _ hF ?_
    exact ⟨r25, hr25, oy ok, wy ok⟩
   ·refine DS ?_
    replace hF := hG18 _ (Ak hF)
    exact ⟨a14, hF, g15, hg15, oy ok, wy ok⟩
 ·rintro a11 s' hF ⟨g12, hg12, ok, hws⟩
  refine AO hws ?_
  clear hws s'
  refine ET ?_
  refine NK ?_
  refine Mn ?_
  refine rr ?_
  exact ⟨_, _, (.refl _), hy ok, _, Ak hF, g12, rfl, hg12, oy ok, rfl⟩
theorem Pu (p0 : Ad) (p1 : List Ad) (rp1 : Nat) {G : (List Ad) → Prop} (h : Heap) (O : List (Nat × AObj)) (hrp1 : rp1 ≠ 0) (ok : OK h ((rp1, .room) :: O)) (hF : Am (Gu p0 p1) G) : CallsA Tryz.prog 38 [.agg (Ae p0), .sl 6 (List.map Ae p1) rp1] (Hp h ((rp1, .room) :: O)) fun d h' => ∃ r, G r ∧ ∃ rp1' : Nat, d = .sl 6 (List.map Ae r) rp1' ∧ rp1' ≠ 0 ∧ OK h ((rp1', .room) :: O) ∧ h' = Hp h ((rp1', .room) :: O) := Pg Ay h O hrp1 ok hF
theorem N9 {β : Type} {f0 : (List Ad) → Option β} {G : β → Prop} {R : D → Heap → Prop} {p0 : Ad} {p1 : List Ad} {rp1 : Nat} (h : Heap) (O : List (Nat × AObj)) (hrp1 : rp1 ≠ 0) (ok : OK h ((rp1, .room) :: O)) (hF : Am ((Gu p0 p1).bind f0) G) (hk : ∀ r rp1', Gu p0 p1 = some r → rp1' ≠ 0 → OK h ((rp1', .room) :: O) → Am (f0 r) G → R (.sl 6 (List.map Ae r) rp1') (Hp h ((rp1', .room) :: O))) : CallsA Tryz.prog 38 [.agg (Ae p0), .sl 6 (List.map Ae p1) rp1] (Hp h ((rp1, .room) :: O)) R := by
 obtain ⟨r0, hr, hF⟩ := BD hF
 refine (Pu (G := fun r => r = r0) p0 p1 rp1 h O hrp1 ok ⟨r0, hr, rfl⟩).mono ?_
 rintro _ _ ⟨r, rfl, rp, rfl, y0, ok', rfl⟩
 exact hk _ _ hr y0 ok' hF
theorem FV (p0 : List Ad) (p1 : Ad → Option Bool) (f1 : FuncId) (fi1 ca1 : List D) (hf1 : ∀ (x0 : Ad) (G : Bool → Prop) (h : Heap), Am (p1 x0) G → CallsA Tryz.prog f1 (fi1 ++ [.agg (Ae x0)] ++ ca1) h fun d h' => ∃ r, G r ∧ d = .bool r ∧ h' = h) {G : Int → Prop} (h : Heap) (hF : Am (Bt p0 p1) G) : CallsA Tryz.prog 60 [.sl 6 (List.map Ae p0) 0, .fn (.func f1) fi1 ca1] h fun d h' => ∃ r, G r ∧ d = .int .i64 r ∧ h' = h := by
 refine CallsA.ret ?_
 refine Be Tryz.func60 rfl gB Tryz.ntmps60 rfl (fun ok => ?_)
 rw [Bt] at hF
 refine HI ?_
 refine A5 hF (fun (_ : Unit) s' => OK h [] ∧ WS s' ⟨Al 19 [], Hp h []⟩) (fun J6 hF => ?_) ?_
 ·refine ET ?_
  refine Pv ?_
  refine Ia ?_
  refine Cg (σ := Int) hF (fun (a7 : Int) s' => OK h [] ∧ WS s' ⟨Al 19 [(0, .sl 6 (List.map Ae p0) 0), (1, .fn (.func f1) fi1 ca1), (7, .int .i64 (p0.length : Int)), (8, .int .i64 a7)], Hp h []⟩) ?_ ?_
  ·exact ⟨oy ok, wy ok⟩
  ·rintro G8 hG9 rec10 a7 s' ih11 hF ⟨ok, hws⟩
   refine AO hws ?_
   clear hws s'
   rw [BE] at hF
   refine Ih ?_
   refine Au rfl hF (fun hb12 hF => ?_) fun hb12 hF => ?_
   ·refine SQ ?_
    refine Bg ?_
    refine Le ?_
    refine S7 ?_
    refine Gh rfl rfl C7 AK hF (fun x13 _ hF => ?_)
    refine AX rfl (A4 (vs := Ae x13) CQ AK (by rw [Ab]; rfl) (by rw [Ab]; rfl)) ?_
    refine It rfl (AT (enc := fun r => .bool r) (fun G h hF => hf1 x13 G h hF) _ hF fun x14 _ hF => ?_) (.app (.app (.refl _) (.refl _)) (.refl _))
    refine AY ?_
    refine Au rfl hF (fun hb15 hF => ?_) fun hb15 hF => ?_
    ·refine If ?_
     replace hF := hG9 _ (Ak hF)
     exact rt
    ·refine KZ ?_
     refine ih11 (IntKind.wrap .i64 (a7 + (1 : Int))) _ hF ?_
     exact ⟨oy ok, wy ok⟩
   ·refine DS ?_
    replace hF := hG9 _ (Ak hF)
    exact ⟨(), hF, oy ok, wy ok⟩
 ·rintro ⟨⟩ s' hF ⟨ok, hws⟩
  refine AO hws ?_
  clear hws s'
  refine DI ?_
  exact rt
theorem FC {β : Type} {f : Int → Option β} {G : β → Prop} {R : D → Heap → Prop} {p0 : List Ad} {p1 : Ad → Option Bool} {f1 : FuncId} {fi1 ca1 : List D} (hf1 : ∀ (x0 : Ad) (G : Bool → Prop) (h : Heap), Am (p1 x0) G → CallsA Tryz.prog f1 (fi1 ++ [.agg (Ae x0)] ++ ca1) h fun d h' => ∃ r, G r ∧ d = .bool r ∧ h' = h) (h : Heap) (hF : Am ((Bt p0 p1).bind f) G) (hk : ∀ r, Bt p0 p1 = some r → Am (f r) G → R (.int .i64 r) h) : CallsA Tryz.prog 60 [.sl 6 (List.map Ae p0) 0, .fn (.func f1) fi1 ca1] h R := by
 obtain ⟨r0, hr, hF⟩ := BD hF
 refine (FV (G := fun r => r = r0) p0 p1 f1 fi1 ca1 hf1 h ⟨r0, hr, rfl⟩).mono ?_
 rintro _ _ ⟨r, rfl, rfl, rfl⟩
 exact hk _ hr hF
theorem Fc (p0 : List Ad) (p1 : Ad → Option Bool) (f1 : FuncId) (fi1 ca1 : List D) (hf1 : ∀ (x0 : Ad) (G : Bool → Prop) (h : Heap), Am (p1 x0) G → CallsA Tryz.prog f1 (fi1 ++ [.agg (Ae x0)] ++ ca1) h fun d h' => ∃ r, G r ∧ d = .bool r ∧ h' = h) {G : Bool → Prop} (h : Heap) (hF : Am (An p0 p1) G) : CallsA Tryz.prog 39 [.sl 6 (List.map Ae p0) 0, .fn (.func f1) fi1 ca1] h fun d h' => ∃ r, G r ∧ d = .bool r ∧ h' = h := by
 refine CallsA.ret ?_
 refine Be Tryz.func39 rfl gn Tryz.ntmps39 rfl (fun ok => ?_)
 rw [An] at hF
 refine Ic ?_
 refine ET ?_
 refine Le ?_
 refine cl (FC (f1 := f1) (fi1 := fi1) (ca1 := ca1) hf1 _ hF fun x1 _ hF => ?_)
 refine Lc ?_
 refine Ep ?_
 exact rt
theorem AI {β : Type} {f : Bool → Option β} {G : β → Prop} {R : D → Heap → Prop} {p0 : List Ad} {p1 : Ad → Option Bool} {f1 : FuncId} {fi1 ca1 : List D} (hf1 : ∀ (x0 : Ad) (G : Bool → Prop) (h : Heap), Am (p1 x0) G → CallsA Tryz.prog f1 (fi1 ++ [.agg (Ae x0)] ++ ca1) h fun d h' => ∃ r, G r ∧ d = .bool r ∧ h' = h) (h : Heap) (hF : Am ((An p0 p1).bind f) G) (hk : ∀ r, An p0 p1 = some r → Am (f r) G → R (.bool r) h) : CallsA Tryz.prog 39 [.sl 6 (List.map Ae p0) 0, .fn (.func f1) fi1 ca1] h R := by
 obtain ⟨r0, hr, hF⟩ := BD hF
 refine (Fc (G := fun r => r = r0) p0 p1 f1 fi1 ca1 hf1 h ⟨r0, hr, rfl⟩).mono ?_
 rintro _ _ ⟨r, rfl, rfl, rfl⟩
 exact hk _ hr hF
theorem QY (p0 : Int) (p1 : Int) {G : Bool → Prop} (h : Heap) (hF : Am (H9 p0 p1) G) : CallsA Tryz.prog 62 [.int .i64 p0, .int .i64 p1] h fun d h' => ∃ r, G r ∧ d = .bool r ∧ h' = h := by
 refine CallsA.ret ?_
 refine Be Tryz.func62 rfl eU Tryz.ntmps62 rfl (fun ok => ?_)
 rw [H9] at hF
 refine Ic ?_
 refine I1 ?_
 refine TF ?_
 refine Pw ?_
 refine Au rfl hF (fun hb1 hF => ?_) fun hb1 hF => ?_
 ·refine FA ?_
  refine II ?_
  refine Cp (b := (p1 == (2 : Int))) 3 13 (.bool ((p1 == (2 : Int)) || (p1 == (4 : Int)))) (fun hb2 => ?_) (fun hb2 => ?_) ?_
  ·refine Md ?_
   exact th
  ·refine RJ ?_
   exact th
  refine CM ?_
  refine Cp (b := ((p1 == (2 : Int)) || (p1 == (4 : Int)))) 3 17 (.bool (((p1 == (2 : Int)) || (p1 == (4 : Int))) || (p1 == (5 : Int)))) (fun hb3 => ?_) (fun hb3 => ?_) ?_
  ·refine Md ?_
   exact th
  ·refine RJ ?_
   exact th
  refine Ep ?_
  exact rt
 ·refine Pq ?_
  refine Au rfl hF (fun hb4 hF => ?_) fun hb4 hF => ?_
  ·refine FA ?_
   refine RE ?_
   refine Cp (b := (decide ((2 : Int) ≤ p1))) 3 25 (.bool ((decide ((2 : Int) ≤ p1)) && (decide (p1 ≤ (5 : Int))))) (fun hb5 => ?_) (fun hb5 => ?_) ?_
   ·refine TL ?_
    exact th
   ·refine IE ?_
    exact th
   refine Ep ?_
   exact rt
  ·refine VQ ?_
   exact rt
theorem NG (p0 : Ad) (p1 : Ad) {G : Bool → Prop} (h : Heap) (hF : Am (GN p0 p1) G) : CallsA Tryz.prog 61 [.agg (Ae p0), .iptr (Ae p1)] h fun d h' => ∃ r, G r ∧ d = .bool r ∧ h' = h := by
 refine CallsA.ret ?_
 refine Be Tryz.func61 rfl fy Tryz.ntmps61 rfl (fun ok => ?_)
 rw [GN] at hF
 refine Bg ?_
 refine Dc (v := .agg (Ae p0)) (cs := Ae p0) rfl rfl rfl rfl ?_
 refine KM ?_
 refine Br rfl Dy AN (by rw [Ab]; rfl) ?_
 refine AX rfl (Bf EN AN (congrArg (List.drop 0) (Ab p1))) ?_
 refine Br rfl Dy AN (by rw [Ab]; rfl) ?_
 refine AX rfl (Bf EN AN (congrArg (List.drop 0) (Ab p0))) ?_
 refine cl (AT (fun _ h hF => QY _ _ h hF) _ hF fun x1 _ hF => ?_)
 refine Nb ?_
 refine Ep ?_
 exact rt
theorem Qr (p0 : Ad) {G : Bool → Prop} (h : Heap) (hF : Am (He p0) G) : CallsA Tryz.prog 40 [.agg (Ae p0)] h fun d h' => ∃ r, G r ∧ d = .bool r ∧ h' = h := by
 refine CallsA.ret ?_
 refine Be Tryz.func40 rfl ff Tryz.ntmps40 rfl (fun ok => ?_)
 rw [He] at hF
 refine Bg ?_
 refine Dc (v := .agg (Ae p0)) (cs := Ae p0) rfl rfl rfl rfl ?_
 refine KM ?_
 refine Br rfl Dy AN (by rw [Ab]; rfl) ?_
 refine AX rfl (Bf EN AN (congrArg (List.drop 0) (Ab p0))) ?_
 refine Tz ?_
 refine Cp (b := (p0.Kind != (2 : Int))) 5 12 (.bool ((p0.Kind != (2 : Int)) && (decide ((0 : Int) < (p0.Attrs.length : Int))))) (fun hb1 => ?_) (fun hb1 => ?_) ?_
 ·refine D3 ?_
  refine Br rfl EH De (by rw [Ab]; rfl) ?_
  refine AF ?_
  refine AX rfl (Bf Ga De (congrArg (List.drop 3) (Ab p0))) ?_
  refine AF ?_
  refine Q0 ?_
  refine dL ?_
  exact th
 ·refine TE ?_
  exact th
 refine CS ?_
 refine A5 hF (fun (a9 : Bool) s' => OK h [] ∧ WS s' ⟨Al 57 [(1, .iptr (Ae p0)), (3, .bool a9)], Hp h []⟩) (fun J10 hF => ?_) ?_
 ·refine Bg ?_
  refine Br rfl Dy AN (by rw [Ab]; rfl) ?_
  refine AX rfl (Bf EN AN (congrArg (List.drop 0) (Ab p0))) ?_
  refine TF ?_
  refine Pw ?_
  refine Au rfl hF (fun hb11 hF => ?_) fun hb11 hF => ?_
  ·refine Hu ?_
   refine RB ?_
   refine Cp (b := ((p0.Kind != (2 : Int)) && (decide ((0 : Int) < (p0.Attrs.length : Int))))) 5 30 (.bool (((p0.Kind != (2 : Int)) && (decide ((0 : Int) < (p0.Attrs.length : Int)))) || (!((p0.Name.URI == (⟨([] : List UInt8), ([] : List UInt8)⟩ : Ah).URI) && ((p0.Name.Local == (⟨([] : List UInt8), ([] : List UInt8)⟩ : Ah).Local) && true))))) (fun hb12 => ?_) (fun hb12 => ?_) ?_
   ·refine Lm ?_
    exact th
   ·refine D3 ?_
    refine Br rfl E4 Bz (by rw [Ab]; rfl) ?_
    refine AF ?_
    refine AX rfl (A4 (vs := AP p0.Name) Du Bz (by rw [Ab]; rfl) (by rw [Ab]; rfl)) ?_
    refine AF ?_
    refine CN (v := .agg (AP (⟨([] : List UInt8), ([] : List UInt8)⟩ : Ah))) (Ej E9 GH rfl) ?_
    refine AF ?_
    refine D4 rfl rfl (QH (b := ((p0.Name.URI == (⟨([] : List UInt8), ([] : List UInt8)⟩ : Ah).URI) && ((p0.Name.Local == (⟨([] : List UInt8), ([] : List UInt8)⟩ : Ah).Local) && true))) Fd ER (by simp only [AP, EX, FE, Ir, ER, Fd, BN, As, CB, BN, As, CB, Gl, Gj, FG, Gq, FP, FT, EV, List.drop_zero, List.drop_succ_cons, List.length_cons, List.length_nil, List.take_succ_cons, List.take_zero, Option.isSome_some, if_true, Option.bind_some, Option.map_some, Nat.reduceAdd, Nat.reduceLeDiff])) ?_
    refine EK ?_
    exact th
   refine CM ?_
   refine Cp (b := (((p0.Kind != (2 : Int)) && (decide ((0 : Int) < (p0.Attrs.length : Int)))) || (!((p0.Name.URI == (⟨([] : List UInt8), ([] : List UInt8)⟩ : Ah).URI) && ((p0.Name.Local == (⟨([] : List UInt8), ([] : List UInt8)⟩ : Ah).Local) && true))))) 4 35 (.bool ((((p0.Kind != (2 : Int)) && (decide ((0 : Int) < (p0.Attrs.length : Int)))) || (!((p0.Name.URI == (⟨([] : List UInt8), ([] : List UInt8)⟩ : Ah).URI) && ((p0.Name.Local == (⟨([] : List UInt8), ([] : List UInt8)⟩ : Ah).Local) && true)))) || (!(p0.Text == ([] : List UInt8))))) (fun hb13 => ?_) (fun hb13 => ?_) ?_
   ·refine Od ?_
    exact th
   ·refine D3 ?_
    refine Br rfl Cx As (by rw [Ab]; rfl) ?_
    refine AF ?_
    refine AX rfl (Bf BN As (congrArg (List.drop 5) (Ab p0))) ?_
    refine Uu ?_
    refine EK ?_
    exact th
   refine CS ?_
   exact ⟨((((p0.Kind != (2 : Int)) && (decide ((0 : Int) < (p0.Attrs.length : Int)))) || (!((p0.Name.URI == (⟨([] : List UInt8), ([] : List UInt8)⟩ : Ah).URI) && ((p0.Name.Local == (⟨([] : List UInt8), ([] : List UInt8)⟩ : Ah).Local) && true)))) || (!(p0.Text == ([] : List UInt8)))), hF, oy ok, wy ok⟩
  ·refine Pq ?_
   refine Au rfl hF (fun hb14 hF => ?_) fun hb14 hF => ?_
   ·refine Hu ?_
    refine Br rfl Cx As (by rw [Ab]; rfl) ?_
    refine AX rfl (Bf BN As (congrArg (List.drop 5) (Ab p0))) ?_
    refine RA ?_
    refine CS ?_
    exact ⟨(!(p0.Text == ([] : List UInt8))), hF, oy ok, wy ok⟩
   ·refine Pq ?_
    refine Au rfl hF (fun hb15 hF => ?_) fun hb15 hF => ?_
    ·refine Hu ?_
     refine RB ?_
     refine Cp (b := ((p0.Kind != (2 : Int)) && (decide ((0 : Int) < (p0.Attrs.length : Int))))) 5 49 (.bool (((p0.Kind != (2 : Int)) && (decide ((0 : Int) < (p0.Attrs.length : Int)))) || (!(p0.Name.URI == ([] : List UInt8))))) (fun hb16 => ?_) (fun hb16 => ?_) ?_
     ·refine Lm ?_
      exact th
     ·refine D3 ?_
      refine Br rfl E4 Bz (by rw [Ab]; rfl) ?_
      refine AF ?_
      refine Br rfl K8 As (by rw [Ab]; rfl) ?_
      refine AF ?_
      refine AX rfl (Bf BN As (congrArg (List.drop 0) (congrArg (List.drop 1) (Ab p0)))) ?_
      refine Uu ?_
      refine EK ?_
      exact th
     refine CS ?_
     exact ⟨(((p0.Kind != (2 : Int)) && (decide ((0 : Int) < (p0.Attrs.length : Int)))) || (!(p0.Name.URI == ([] : List UInt8)))), hF, oy ok, wy ok⟩
    ·refine Hu ?_
     refine RB ?_
     refine Cp (b := ((p0.Kind != (2 : Int)) && (decide ((0 : Int) < (p0.Attrs.length : Int))))) 5 21 (.bool (((p0.Kind != (2 : Int)) && (decide ((0 : Int) < (p0.Attrs.length : Int)))) || (!((p0.Name.URI == (⟨([] : List UInt8), ([] : List UInt8)⟩ : Ah).URI) && ((p0.Name.Local == (⟨([] : List UInt8), ([] : List UInt8)⟩ : Ah).Local) && true))))) (fun hb17 => ?_) (fun hb17 => ?_) ?_
     ·refine Lm ?_
      exact th
     ·refine D3 ?_
      refine Br rfl E4 Bz (by rw [Ab]; rfl) ?_
      refine AF ?_
      refine AX rfl (A4 (vs := AP p0.Name) Du Bz (by rw [Ab]; rfl) (by rw [Ab]; rfl)) ?_
      refine AF ?_
      refine CN (v := .agg (AP (⟨([] : List UInt8), ([] : List UInt8)⟩ : Ah))) (Ej E9 GH rfl) ?_
      refine AF ?_
      refine D4 rfl rfl (QH (b := ((p0.Name.URI == (⟨([] : List UInt8), ([] : List UInt8)⟩ : Ah).URI) && ((p0.Name.Local == (⟨([] : List UInt8), ([] : List UInt8)⟩ : Ah).Local) && true))) Fd ER (by simp only [AP, EX, FE, Ir, ER, Fd, BN, As, CB, BN, As, CB, Gl, Gj, FG, Gq, FP, FT, EV, List.drop_zero, List.drop_succ_cons, List.length_cons, List.length_nil, List.take_succ_cons, List.take_zero, Option.isSome_some, if_true, Option.bind_some, Option.map_some, Nat.reduceAdd, Nat.reduceLeDiff])) ?_
      refine EK ?_
      exact th
     refine CS ?_
     exact ⟨(((p0.Kind != (2 : Int)) && (decide ((0 : Int) < (p0.Attrs.length : Int)))) || (!((p0.Name.URI == (⟨([] : List UInt8), ([] : List UInt8)⟩ : Ah).URI) && ((p0.Name.Local == (⟨([] : List UInt8), ([] : List UInt8)⟩ : Ah).Local) && true)))), hF, oy ok, wy ok⟩
 ·rintro a9 s' hF ⟨ok, hws⟩
  refine AO hws ?_
  clear hws s'
  refine Bg ?_
  refine RB ?_
  refine Bu 5 56 hF (fun J19 hb18 hF => ?_) (fun J19 hb18 hF => ?_) (fun v20 hF => ?_)
  ·refine Lm ?_
   exact tw
  ·refine D3 ?_
   refine Br rfl Do Bw (by rw [Ab]; rfl) ?_
   refine AF ?_
   refine AX rfl (Bf Dl Bw (congrArg (List.drop 4) (Ab p0))) ?_
   refine AF ?_
   refine Y4 (ca := [.iptr (Ae p0)]) rfl ?_
   refine AF ?_
   refine cl (AI (f1 := 61) (fi1 := []) (ca1 := [.iptr (Ae p0)]) (fun z0 G h hF => NG z0 p0 h hF) _ hF fun x21 _ hF => ?_)
   refine EK ?_
   exact tw
  ·refine Ep ?_
   exact rt
theorem M7 (rec0 : Ad × Int → Option Bool) (hrec : ∀ (v : Ad × Int) (G : Bool → Prop) (h : Heap), Am (rec0 v) G → CallsA Tryz.prog 41 [.agg (Ae v.1), .int .i64 v.2] h fun d h' => ∃ r, G r ∧ d = .bool r ∧ h' = h) (p0 : Ad) (p1 : Int) {G : Bool → Prop} (h : Heap) (hF : Am (Gb rec0 p0 p1) G) : CallsA Tryz.prog 63 [.agg (Ae p0), .iptr [.int .i64 p1]] h fun d h' => ∃ r, G r ∧ d = .bool r ∧ h' = h := by
 refine CallsA.ret ?_
 refine Be Tryz.func63 rfl fJ Tryz.ntmps63 rfl (fun ok => ?_)
 rw [Gb] at hF
 refine Bg ?_
 refine Dc (v := .agg (Ae p0)) (cs := Ae p0) rfl rfl rfl rfl ?_
 refine KM ?_
 refine AX rfl (A4 (vs := Ae p0) CQ AK (by rw [Ab]; rfl) (by rw [Ab]; rfl)) ?_
 refine Zn ?_
 refine cl (AT (enc := fun r => .bool r) (fun G h hF => hrec (p0, p1) G h hF) _ hF fun x1 _ hF => ?_)
 refine Ep ?_
 exact rt
theorem O7 : ∀ (N : Nat) (v : Ad × Int) (G : Bool → Prop) (h : Heap), Am (iter DM N v) G → CallsA Tryz.prog 41 [.agg (Ae v.1), .int .i64 v.2] h fun d h' => ∃ r, G r ∧ d = .bool r ∧ h' = h := by
 intro N
 induction N with
 | zero => intro v G h hF; exact MG hF
 | succ N ih0 =>
 rintro ⟨p0, p1⟩ G h hF
 show CallsA Tryz.prog 41 [.agg (Ae p0), .int .i64 p1] h fun d h' => ∃ r, G r ∧ d = .bool r ∧ h' = h
 replace hF : Am (DM (iter DM N) (p0, p1)) G := hF
 refine CallsA.ret ?_
 refine Be Tryz.func41 rfl fr Tryz.ntmps41 rfl (fun ok => ?_)
 rw [DM] at hF
 refine Ec ?_
 refine CR (mdl [(3, 1)]) ?_
 refine Dc (v := .agg (Ae p0)) (cs := Ae p0) rfl rfl rfl rfl ?_
 refine Uz (cs := [.int .i64 p1]) ok rfl rfl rfl rfl ?_
 intro i1 hi1 ok
 refine CS ?_
 refine A5 hF (fun (a4 : Int) s' => OK h [(i1, .cells [.int .i64 a4])] ∧ WS s' ⟨Al 16 [(2, .iptr (Ae p0)), (3, .ptr i1 0)], Hp h [(i1, .cells [.int .i64 a4])]⟩) (fun J5 hF => ?_) ?_
 ·refine Bg ?_
  refine Br rfl Dy AN (by rw [Ab]; rfl) ?_
  refine AX rfl (Bf EN AN (congrArg (List.drop 0) (Ab p0))) ?_
  refine LY ?_
  refine Au rfl hF (fun hb6 hF => ?_) fun hb6 hF => ?_
  ·refine Nc ?_
   refine T3 ?_
   refine Tm ?_
   refine Au rfl hF (fun hb7 hF => ?_) fun hb7 hF => ?_
   ·refine Ki ?_
    exact rt
   ·refine Cl ?_
    refine Hu ?_
    refine T3 ?_
    refine I6 ?_
    refine Cv (j := 0) (cs' := [.int .i64 (IntKind.wrap .i64 (p1 + (1 : Int)))]) ok rfl rfl rfl hi1 rfl AN rfl rfl (fun ok => ?_)
    refine AY ?_
    exact ⟨(IntKind.wrap .i64 (p1 + (1 : Int))), hF, oy ok, wy ok⟩
  ·refine Cl ?_
   exact ⟨p1, hF, oy ok, wy ok⟩
 ·rintro a4 s' hF ⟨ok, hws⟩
  refine AO hws ?_
  clear hws s'
  refine Bg ?_
  refine Uc 0 3 ok rfl rfl hi1 (fun ok => ?_)
  refine Br rfl Do Bw (by rw [Ab]; rfl) ?_
  refine AX rfl (Bf Dl Bw (congrArg (List.drop 4) (Ab p0))) ?_
  refine Y4 (ca := [.iptr (Pz a4)]) rfl ?_
  refine cl (AI (f1 := 63) (fi1 := []) (ca1 := [.iptr (Pz a4)]) (fun z0 G h hF => M7 (iter DM N) ih0 z0 a4 h hF) _ hF fun x10 _ hF => ?_)
  refine Ep ?_
  exact rt
theorem O6 (p0 : Ad) (p1 : Int) {G : Bool → Prop} (h : Heap) (hF : Am (Iq p0 p1) G) : CallsA Tryz.prog 41 [.agg (Ae p0), .int .i64 p1] h fun d h' => ∃ r, G r ∧ d = .bool r ∧ h' = h := O7 Ay (p0, p1) G h hF
theorem Mz (p0 : Aa) {G : Bool → Prop} (h : Heap) (hF : Am (GR p0) G) : CallsA Tryz.prog 64 [.agg (Ac p0)] h fun d h' => ∃ r, G r ∧ d = .bool r ∧ h' = h := by
 refine CallsA.ret ?_
 refine Be Tryz.func64 rfl fD Tryz.ntmps64 rfl (fun ok => ?_)
 rw [GR] at hF
 refine Bg ?_
 refine Dc rfl rfl rfl rfl ?_
 refine KM ?_
 refine Br rfl JR As rfl ?_
 refine F7 ?_
 refine Mv ?_
 refine Sk ?_
 refine Ep ?_
 exact rt
theorem FL (p0 : List Aa) (p1 : Aa → Option Bool) (f1 : FuncId) (fi1 ca1 : List D) (hf1 : ∀ (x0 : Aa) (G : Bool → Prop) (h : Heap), Am (p1 x0) G → CallsA Tryz.prog f1 (fi1 ++ [.agg (Ac x0)] ++ ca1) h fun d h' => ∃ r, G r ∧ d = .bool r ∧ h' = h) {G : Int → Prop} (h : Heap) (hF : Am (Bs p0 p1) G) : CallsA Tryz.prog 101 [.sl 3 (List.map Ac p0) 0, .fn (.func f1) fi1 ca1] h fun d h' => ∃ r, G r ∧ d = .int .i64 r ∧ h' = h := by
 refine CallsA.ret ?_
 refine Be Tryz.func101 rfl d7 Tryz.ntmps101 rfl (fun ok => ?_)
 rw [Bs] at hF
 refine HI ?_
 refine A5 hF (fun (_ : Unit) s' => OK h [] ∧ WS s' ⟨Al 19 [], Hp h []⟩) (fun J6 hF => ?_) ?_
 ·refine ET ?_
  refine Q0 ?_
  refine Ia ?_
  refine Cg (σ := Int) hF (fun (a7 : Int) s' => OK h [] ∧ WS s' ⟨Al 19 [(0, .sl 3 (List.map Ac p0) 0), (1, .fn (.func f1) fi1 ca1), (7, .int .i64 (p0.length : Int)), (8, .int .i64 a7)], Hp h []⟩) ?_ ?_
  ·exact ⟨oy ok, wy ok⟩
  ·rintro G8 hG9 rec10 a7 s' ih11 hF ⟨ok, hws⟩
   refine AO hws ?_
   clear hws s'
   rw [BF] at hF
   refine Ih ?_
   refine Au rfl hF (fun hb12 hF => ?_) fun hb12 hF => ?_
   ·refine SQ ?_
    refine Bg ?_
    refine Le ?_
    refine S7 ?_
    refine Gh rfl rfl BK Ax hF (fun x13 _ hF => ?_)
    refine AX rfl (A4 (vs := Ac x13) CO Ax rfl rfl) ?_
    refine It rfl (AT (enc := fun r => .bool r) (fun G h hF => hf1 x13 G h hF) _ hF fun x14 _ hF => ?_) (.app (.app (.refl _) (.refl _)) (.refl _))
    refine AY ?_
    refine Au rfl hF (fun hb15 hF => ?_) fun hb15 hF => ?_
    ·refine If ?_
     replace hF := hG9 _ (Ak hF)
     exact rt
    ·refine KZ ?_
     refine ih11 (IntKind.wrap .i64 (a7 + (1 : Int))) _ hF ?_
     exact ⟨oy ok, wy ok⟩
   ·refine DS ?_
    replace hF := hG9 _ (Ak hF)
    exact ⟨(), hF, oy ok, wy ok⟩
 ·rintro ⟨⟩ s' hF ⟨ok, hws⟩
  refine AO hws ?_
  clear hws s'
  refine DI ?_
  exact rt
theorem Fy {β : Type} {f : Int → Option β} {G : β → Prop} {R : D → Heap → Prop} {p0 : List Aa} {p1 : Aa → Option Bool} {f1 : FuncId} {fi1 ca1 : List D} (hf1 : ∀ (x0 : Aa) (G : Bool → Prop) (h : Heap), Am (p1 x0) G → CallsA Tryz.prog f1 (fi1 ++ [.agg (Ac x0)] ++ ca1) h fun d h' => ∃ r, G r ∧ d = .bool r ∧ h' = h) (h : Heap) (hF : Am ((Bs p0 p1).bind f) G) (hk : ∀ r, Bs p0 p1 = some r → Am (f r) G → R (.int .i64 r) h) : CallsA Tryz.prog 101 [.sl 3 (List.map Ac p0) 0, .fn (.func f1) fi1 ca1] h R := by
 obtain ⟨r0, hr, hF⟩ := BD hF
 refine (FL (G := fun r => r = r0) p0 p1 f1 fi1 ca1 hf1 h ⟨r0, hr, rfl⟩).mono ?_
 rintro _ _ ⟨r, rfl, rfl, rfl⟩
 exact hk _ hr hF
theorem Fa (p0 : List Aa) (p1 : Aa → Option Bool) (f1 : FuncId) (fi1 ca1 : List D) (hf1 : ∀ (x0 : Aa) (G : Bool → Prop) (h : Heap), Am (p1 x0) G → CallsA Tryz.prog f1 (fi1 ++ [.agg (Ac x0)] ++ ca1) h fun d h' => ∃ r, G r ∧ d = .bool r ∧ h' = h) {G : Bool → Prop} (h : Heap) (hF : Am (AE p0 p1) G) : CallsA Tryz.prog 65 [.sl 3 (List.map Ac p0) 0, .fn (.func f1) fi1 ca1] h fun d h' => ∃ r, G r ∧ d = .bool r ∧ h' = h := by
 refine CallsA.ret ?_
 refine Be Tryz.func65 rfl gf Tryz.ntmps65 rfl (fun ok => ?_)
 rw [AE] at hF
 refine Ic ?_
 refine ET ?_
 refine Le ?_
 refine cl (Fy (f1 := f1) (fi1 := fi1) (ca1 := ca1) hf1 _ hF fun x1 _ hF => ?_)
 refine Lc ?_
 refine Ep ?_
 exact rt
theorem Cy {β : Type} {f : Bool → Option β} {G : β → Prop} {R : D → Heap → Prop} {p0 : List Aa} {p1 : Aa → Option Bool} {f1 : FuncId} {fi1 ca1 : List D} (hf1 : ∀ (x0 : Aa) (G : Bool → Prop) (h : Heap), Am (p1 x0) G → CallsA Tryz.prog f1 (fi1 ++ [.agg (Ac x0)] ++ ca1) h fun d h' => ∃ r, G r ∧ d = .bool r ∧ h' = h) (h : Heap) (hF : Am ((AE p0 p1).bind f) G) (hk : ∀ r, AE p0 p1 = some r → Am (f r) G → R (.bool r) h) : CallsA Tryz.prog 65 [.sl 3 (List.map Ac p0) 0, .fn (.func f1) fi1 ca1] h R := by
 obtain ⟨r0, hr, hF⟩ := BD hF
 refine (Fa (G := fun r => r = r0) p0 p1 f1 fi1 ca1 hf1 h ⟨r0, hr, rfl⟩).mono ?_
 rintro _ _ ⟨r, rfl, rfl, rfl⟩
 exact hk _ hr hF
theorem N6 (p0 : Ad) {G : Bool → Prop} (h : Heap) (hF : Am (F1 p0) G) : CallsA Tryz.prog 42 [.agg (Ae p0)] h fun d h' => ∃ r, G r ∧ d = .bool r ∧ h' = h := by
 refine CallsA.ret ?_
 refine Be Tryz.func42 rfl gm Tryz.ntmps42 rfl (fun ok => ?_)
 rw [F1] at hF
 refine Bg ?_
 refine Dc (v := .agg (Ae p0)) (cs := Ae p0) rfl rfl rfl rfl ?_
 refine KM ?_
 refine S_a (v := .fn (.func 64) [] []) rfl ?_
 refine Ms ?_
 refine Br rfl EH De (by rw [Ab]; rfl) ?_
 refine AX rfl (Bf Ga De (congrArg (List.drop 3) (Ab p0))) ?_
 refine Q0 ?_
 refine UA ?_
 refine Cp (b := (decide ((64 : Int) < (p0.Attrs.length : Int)))) 5 13 (.bool ((decide ((64 : Int) < (p0.Attrs.length : Int))) || (decide ((8192 : Int) < (p0.Text.length : Int))))) (fun hb1 => ?_) (fun hb1 => ?_) ?_
 ·refine Lm ?_
  exact th
 ·refine D3 ?_
  refine Br rfl Cx As (by rw [Ab]; rfl) ?_
  refine AF ?_
  refine AX rfl (Bf BN As (congrArg (List.drop 5) (Ab p0))) ?_
  refine AF ?_
  refine Mv ?_
  refine W3 ?_
  refine EK ?_
  exact th
 refine CM ?_
 refine Bu 5 19 hF (fun J3 hb2 hF => ?_) (fun J3 hb2 hF => ?_) (fun v4 hF => ?_)
 ·refine Lm ?_
  exact tw
 ·refine D3 ?_
  refine Br rfl EH De (by rw [Ab]; rfl) ?_
  refine AF ?_
  refine AX rfl (Bf Ga De (congrArg (List.drop 3) (Ab p0))) ?_
  refine AF ?_
  refine S_m (v := .fn (.func 64) [] []) rfl ?_
  refine AF ?_
  refine cl (Cy (f1 := 64) (fi1 := []) (ca1 := []) (fun z0 G h hF => Mz z0 h hF) _ hF fun x5 _ hF => ?_)
  refine EK ?_
  exact tw
 ·refine Ep ?_
  exact rt
theorem Jc (p0 : List UInt8) {G : Bool → Prop} (h : Heap) (hF : Am (Gi p0) G) : CallsA Tryz.prog 70 [.str p0] h fun d h' => ∃ r, G r ∧ d = .bool r ∧ h' = h := by
 refine CallsA.ret ?_
 refine Be Tryz.func70 rfl fL Tryz.ntmps70 rfl (fun ok => ?_)
 rw [Gi] at hF
 refine Ic ?_
 refine Fz ?_
 refine ZN ?_
 refine cl (AT (fun _ h hF => JT _ h hF) _ hF fun x1 _ hF => ?_)
 refine I7 ?_
 refine V4 ?_
 refine R4 ?_
 refine Ep ?_
 exact rt
theorem HV (p0 : Ah) {G : Bool → Prop} (h : Heap) (hF : Am (Ek p0) G) : CallsA Tryz.prog 67 [.agg (AP p0)] h fun d h' => ∃ r, G r ∧ d = .bool r ∧ h' = h := by
 refine CallsA.ret ?_
 refine Be Tryz.func67 rfl gy Tryz.ntmps67 rfl (fun ok => ?_)
 rw [Ek] at hF
 refine Bg ?_
 refine Dc rfl rfl rfl rfl ?_
 refine KM ?_
 refine ZS ?_
 refine F7 ?_
 refine cl (AT (fun _ h hF => Fh _ h hF) _ hF fun x1 _ hF => ?_)
 refine Nb ?_
 refine CM ?_
 refine Cp (b := (!x1)) 5 12 (.bool ((!x1) || (decide ((100 : Int) < (p0.URI.length : Int))))) (fun hb2 => ?_) (fun hb2 => ?_) ?_
 ·refine Lm ?_
  exact th
 ·refine D3 ?_
  refine UC ?_
  refine AF ?_
  refine F7 ?_
  refine AF ?_
  refine Mv ?_
  refine W3 ?_
  refine EK ?_
  exact th
 refine CM ?_
 refine Bu 4 17 hF (fun J4 hb3 hF => ?_) (fun J4 hb3 hF => ?_) (fun v5 hF => ?_)
 ·refine Od ?_
  exact tw
 ·refine D3 ?_
  refine UC ?_
  refine AF ?_
  refine F7 ?_
  refine AF ?_
  refine cl (AT (fun _ h hF => Jc _ h hF) _ hF fun x6 _ hF => ?_)
  refine EK ?_
  exact tw
 ·refine CM ?_
  refine Cp (b := v5) 4 22 (.bool (v5 || (p0.URI == ([104, 116, 116, 112, 58, 47, 47, 119, 119, 119, 46, 119, 51, 46, 111, 114, 103, 47, 50, 48, 48, 48, 47, 120, 109, 108, 110, 115, 47] : List UInt8)))) (fun hb7 => ?_) (fun hb7 => ?_) ?_
  ·refine Od ?_
   exact th
  ·refine D3 ?_
   refine UC ?_
   refine AF ?_
   refine F7 ?_
   refine AF ?_
   refine LK ?_
   refine EK ?_
   exact th
  refine Ep ?_
  exact rt
theorem KJ (p0 : Aa) {G : Bool → Prop} (h : Heap) (hF : Am (Ft p0) G) : CallsA Tryz.prog 66 [.agg (Ac p0)] h fun d h' => ∃ r, G r ∧ d = .bool r ∧ h' = h := by
 refine CallsA.ret ?_
 refine Be Tryz.func66 rfl gC Tryz.ntmps66 rfl (fun ok => ?_)
 rw [Ft] at hF
 refine Bg ?_
 refine Dc rfl rfl rfl rfl ?_
 refine KM ?_
 refine SV ?_
 refine AX rfl (A4 (vs := AP p0.Name) Du Bz rfl rfl) ?_
 refine cl (AT (fun _ h hF => HV _ h hF) _ hF fun x1 _ hF => ?_)
 refine CM ?_
 refine Cp (b := x1) 5 11 (.bool (x1 || ((p0.Name.URI == (⟨([] : List UInt8), ([120, 109, 108, 110, 115] : List UInt8)⟩ : Ah).URI) && ((p0.Name.Local == (⟨([] : List UInt8), ([120, 109, 108, 110, 115] : List UInt8)⟩ : Ah).Local) && true)))) (fun hb2 => ?_) (fun hb2 => ?_) ?_
 ·refine Lm ?_
  exact th
 ·refine D3 ?_
  refine SV ?_
  refine AF ?_
  refine AX rfl (A4 (vs := AP p0.Name) Du Bz rfl rfl) ?_
  refine AF ?_
  refine CN (v := .agg (AP (⟨([] : List UInt8), ([120, 109, 108, 110, 115] : List UInt8)⟩ : Ah))) (Ej E9 GH rfl) ?_
  refine AF ?_
  refine D4 rfl rfl (Yi (b := ((p0.Name.URI == (⟨([] : List UInt8), ([120, 109, 108, 110, 115] : List UInt8)⟩ : Ah).URI) && ((p0.Name.Local == (⟨([] : List UInt8), ([120, 109, 108, 110, 115] : List UInt8)⟩ : Ah).Local) && true))) Fd ER (by simp only [AP, EX, FE, Ir, ER, Fd, BN, As, CB, BN, As, CB, Gl, Gj, FG, Gq, FP, FT, EV, List.drop_zero, List.drop_succ_cons, List.length_cons, List.length_nil, List.take_succ_cons, List.take_zero, Option.isSome_some, if_true, Option.bind_some, Option.map_some, Nat.reduceAdd, Nat.reduceLeDiff])) ?_
  refine EK ?_
  exact th
 refine Ep ?_
 exact rt
theorem LH (p0 : Ad) {G : Bool → Prop} (h : Heap) (hF : Am (EA p0) G) : CallsA Tryz.prog 43 [.agg (Ae p0)] h fun d h' => ∃ r, G r ∧ d = .bool r ∧ h' = h := by
 refine CallsA.ret ?_
 refine Be Tryz.func43 rfl fC Tryz.ntmps43 rfl (fun ok => ?_)
 rw [EA] at hF
 refine Bg ?_
 refine Dc (v := .agg (Ae p0)) (cs := Ae p0) rfl rfl rfl rfl ?_
 refine KM ?_
 refine S_a (v := .fn (.func 66) [] []) rfl ?_
 refine Ht ?_
 refine Bg ?_
 refine Br rfl Dy AN (by rw [Ab]; rfl) ?_
 refine AX rfl (Bf EN AN (congrArg (List.drop 0) (Ab p0))) ?_
 refine TF ?_
 refine Pw ?_
 refine Au rfl hF (fun hb1 hF => ?_) fun hb1 hF => ?_
 ·refine Bg ?_
  refine Br rfl E4 Bz (by rw [Ab]; rfl) ?_
  refine AX rfl (A4 (vs := AP p0.Name) Du Bz (by rw [Ab]; rfl) (by rw [Ab]; rfl)) ?_
  refine cl (AT (fun _ h hF => HV _ h hF) _ hF fun x2 _ hF => ?_)
  refine CM ?_
  refine Bu 5 16 hF (fun J4 hb3 hF => ?_) (fun J4 hb3 hF => ?_) (fun v5 hF => ?_)
  ·refine Lm ?_
   exact tw
  ·refine D3 ?_
   refine Br rfl EH De (by rw [Ab]; rfl) ?_
   refine AF ?_
   refine AX rfl (Bf Ga De (congrArg (List.drop 3) (Ab p0))) ?_
   refine AF ?_
   refine S_m (v := .fn (.func 66) [] []) rfl ?_
   refine AF ?_
   refine cl (Cy (f1 := 66) (fi1 := []) (ca1 := []) (fun z0 G h hF => KJ z0 h hF) _ hF fun x6 _ hF => ?_)
   refine EK ?_
   exact tw
  ·refine Ep ?_
   exact rt
 ·refine Pq ?_
  refine Au rfl hF (fun hb7 hF => ?_) fun hb7 hF => ?_
  ·refine Bg ?_
   refine Br rfl E4 Bz (by rw [Ab]; rfl) ?_
   refine Br rfl K6 As (by rw [Ab]; rfl) ?_
   refine AX rfl (Bf BN As (congrArg (List.drop 1) (congrArg (List.drop 1) (Ab p0)))) ?_
   refine cl (AT (fun _ h hF => Fh _ h hF) _ hF fun x8 _ hF => ?_)
   refine Nb ?_
   refine CM ?_
   refine Bu 5 29 hF (fun J10 hb9 hF => ?_) (fun J10 hb9 hF => ?_) (fun v11 hF => ?_)
   ·refine Lm ?_
    exact tw
   ·refine D3 ?_
    refine Br rfl E4 Bz (by rw [Ab]; rfl) ?_
    refine AF ?_
    refine Br rfl K6 As (by rw [Ab]; rfl) ?_
    refine AF ?_
    refine AX rfl (Bf BN As (congrArg (List.drop 1) (congrArg (List.drop 1) (Ab p0)))) ?_
    refine AF ?_
    refine cl (AT (fun _ h hF => Fs _ _ h hF) _ hF fun x12 _ hF => ?_)
    refine EK ?_
    exact tw
   ·refine Ep ?_
    exact rt
  ·refine VQ ?_
   exact rt
theorem Lx (p0 : Aa) {G : Bool → Prop} (h : Heap) (hF : Am (Ge p0) G) : CallsA Tryz.prog 71 [.agg (Ac p0)] h fun d h' => ∃ r, G r ∧ d = .bool r ∧ h' = h := by
 refine CallsA.ret ?_
 refine Be Tryz.func71 rfl fx Tryz.ntmps71 rfl (fun ok => ?_)
 rw [Ge] at hF
 refine Bg ?_
 refine Dc rfl rfl rfl rfl ?_
 refine KM ?_
 refine Br rfl JR As rfl ?_
 refine F7 ?_
 refine cl (AT (fun _ h hF => Jc _ h hF) _ hF fun x1 _ hF => ?_)
 refine Ep ?_
 exact rt
theorem Na (p0 : Ad) {G : Bool → Prop} (h : Heap) (hF : Am (Fi p0) G) : CallsA Tryz.prog 44 [.agg (Ae p0)] h fun d h' => ∃ r, G r ∧ d = .bool r ∧ h' = h := by
 refine CallsA.ret ?_
 refine Be Tryz.func44 rfl gx Tryz.ntmps44 rfl (fun ok => ?_)
 rw [Fi] at hF
 refine Bg ?_
 refine Dc (v := .agg (Ae p0)) (cs := Ae p0) rfl rfl rfl rfl ?_
 refine KM ?_
 refine Br rfl Cx As (by rw [Ab]; rfl) ?_
 refine AX rfl (Bf BN As (congrArg (List.drop 5) (Ab p0))) ?_
 refine cl (AT (fun _ h hF => Jc _ h hF) _ hF fun x1 _ hF => ?_)
 refine CM ?_
 refine Bu 4 10 hF (fun J3 hb2 hF => ?_) (fun J3 hb2 hF => ?_) (fun v4 hF => ?_)
 ·refine Od ?_
  exact tw
 ·refine D3 ?_
  refine Br rfl EH De (by rw [Ab]; rfl) ?_
  refine AF ?_
  refine AX rfl (Bf Ga De (congrArg (List.drop 3) (Ab p0))) ?_
  refine AF ?_
  refine cl (Cy (f1 := 71) (fi1 := []) (ca1 := []) (fun z0 G h hF => Lx z0 h hF) _ hF fun x5 _ hF => ?_)
  refine EK ?_
  exact tw
 ·refine Ep ?_
  exact rt
theorem N8 (p0 : Ah) (p1 : Ah) {G : Int → Prop} (h : Heap) (hF : Am (FW p0 p1) G) : CallsA Tryz.prog 72 [.agg (AP p0), .agg (AP p1)] h fun d h' => ∃ r, G r ∧ d = .int .i64 r ∧ h' = h := by
 refine CallsA.ret ?_
 refine Be Tryz.func72 rfl eP Tryz.ntmps72 rfl (fun ok => ?_)
 rw [FW] at hF
 refine Bg ?_
 refine Dc rfl rfl rfl rfl ?_
 refine Dc rfl rfl rfl rfl ?_
 refine Mt ?_
 refine UI (mdl [(6, 3), (8, 3), (11, 3), (13, 3)]) [0, 1, 2, 3, 5, 6, 7, 8, 4, 9, 10, 11, 12] [_, _, _, _, _, _, _, _, _, _, _, _, _] (by kernel_rfl) rfl rfl (by kernel_rfl) ?_
 refine UC ?_
 refine F7 ?_
 refine UC ?_
 refine F7 ?_
 refine ZS ?_
 refine F7 ?_
 refine ZS ?_
 refine F7 ?_
 refine cl (AT (fun _ h hF => Ed _ _ h hF) _ hF fun x1 _ hF => ?_)
 refine cl (AT (fun _ h hF => Ed _ _ h hF) _ hF fun x2 _ hF => ?_)
 refine Fq (cs := [.int .i64 x1, .int .i64 x2]) (es := (List.map Pz [x1, x2])) rfl PC rfl (by kernel_rfl) (by kernel_rfl) ?_
 refine cl (AT (fun _ h hF => JV _ h hF) _ hF fun x3 _ hF => ?_)
 refine Fp ?_
 exact rt
theorem Ll (p0 : Ad) {G : Bool → Prop} (h : Heap) (hF : Am (Em p0) G) : CallsA Tryz.prog 45 [.agg (Ae p0)] h fun d h' => ∃ r, G r ∧ d = .bool r ∧ h' = h := by
 refine CallsA.ret ?_
 refine Be Tryz.func45 rfl eR Tryz.ntmps45 rfl (fun ok => ?_)
 rw [Em] at hF
 refine Bg ?_
 refine Dc (v := .agg (Ae p0)) (cs := Ae p0) rfl rfl rfl rfl ?_
 refine CS ?_
 refine A5 hF (fun (_ : Unit) s' => OK h [] ∧ WS s' ⟨Al 30 [], Hp h []⟩) (fun J15 hF => ?_) ?_
 ·refine Bg ?_
  refine Br rfl EH De (by rw [Ab]; rfl) ?_
  refine AX rfl (Bf Ga De (congrArg (List.drop 3) (Ab p0))) ?_
  refine Q0 ?_
  refine Ia ?_
  refine Cg (σ := Int) hF (fun (a16 : Int) s' => OK h [] ∧ WS s' ⟨Al 30 [(1, .iptr (Ae p0)), (6, .int .i64 (p0.Attrs.length : Int)), (7, .int .i64 a16)], Hp h []⟩) ?_ ?_
  ·exact ⟨oy ok, wy ok⟩
  ·rintro G17 hG18 rec19 a16 s' ih20 hF ⟨ok, hws⟩
   refine AO hws ?_
   clear hws s'
   rw [D8] at hF
   refine Ih ?_
   refine Au rfl hF (fun hb21 hF => ?_) fun hb21 hF => ?_
   ·refine SQ ?_
    refine A5 hF (fun (a27 : Bool) s' => OK h [] ∧ WS s' ⟨Al 30 [(1, .iptr (Ae p0)), (6, .int .i64 (p0.Attrs.length : Int)), (7, .int .i64 a16), (28, .bool a27)], Hp h []⟩) (fun J28 hF => ?_) ?_
    ·refine EW (mdl [(14, 3), (19, 3), (21, 3), (25, 3)]) (by kernel_rfl) (by kernel_rfl) ?_
     refine Es ?_
     refine UA ?_
     refine Wi (b := (decide ((0 : Int) < a16))) hF (fun hb29 hF => ?_) (fun hb30 hF => ?_)
     ·refine D3 ?_
      refine Br rfl EH De (by rw [Ab]; rfl) ?_
      refine AF ?_
      refine AX rfl (Bf Ga De (congrArg (List.drop 3) (Ab p0))) ?_
      refine Ps ?_
      refine Wl ?_
      refine Gh rfl rfl BK Ax hF (fun x31 _ hF => ?_)
      refine AF ?_
      refine SV ?_
      refine AF ?_
      refine AX rfl (A4 (vs := AP x31.Name) Du Bz rfl rfl) ?_
      refine AF ?_
      refine Br rfl EH De (by rw [Ab]; rfl) ?_
      refine AF ?_
      refine AX rfl (Bf Ga De (congrArg (List.drop 3) (Ab p0))) ?_
      refine Ps ?_
      refine Gh rfl rfl BK Ax hF (fun x32 _ hF => ?_)
      refine AF ?_
      refine SV ?_
      refine AF ?_
      refine AX rfl (A4 (vs := AP x32.Name) Du Bz rfl rfl) ?_
      refine AF ?_
      refine cl (AT (fun _ h hF => N8 _ _ h hF) _ hF fun x33 _ hF => ?_)
      refine AF ?_
      refine Lc ?_
      refine Hv ?_
      exact ⟨(decide ((0 : Int) ≤ x33)), hF, oy ok, wy ok⟩
     ·refine GU ?_
      refine GU ?_
      refine GU ?_
      refine KK ?_
      exact ⟨false, hF, oy ok, wy ok⟩
    ·rintro a27 s' hF ⟨ok, hws⟩
     refine AO hws ?_
     clear hws s'
     refine Au rfl hF (fun hb34 hF => ?_) fun hb34 hF => ?_
     ·refine Ki ?_
      replace hF := hG18 _ (Ak hF)
      exact rt
     ·refine KZ ?_
      refine ih20 (IntKind.wrap .i64 (a16 + (1 : Int))) _ hF ?_
      exact ⟨oy ok, wy ok⟩
   ·refine DS ?_
    replace hF := hG18 _ (Ak hF)
    exact ⟨(), hF, oy ok, wy ok⟩
 ·rintro ⟨⟩ s' hF ⟨ok, hws⟩
  refine AO hws ?_
  clear hws s'
  refine Ki ?_
  exact rt
theorem Ie (p0 : List UInt8) (p1 : List UInt8) {G : Bool → Prop} (h : Heap) (hF : Am (D0 p0 p1) G) : CallsA Tryz.prog 110 [.str p0, .str p1] h fun d h' => ∃ r, G r ∧ d = .bool r ∧ h' = h := by
 refine CallsA.ret ?_
 refine Be Tryz.func110 rfl dH Tryz.ntmps110 rfl (fun ok => ?_)
 rw [D0] at hF
 refine Ic ?_
 refine T7 ?_
 refine TJ ?_
 refine RE ?_
 refine Bu 10 20 hF (fun J2 hb1 hF => ?_) (fun J2 hb1 hF => ?_) (fun v3 hF => ?_)
 ·refine Kp ?_
  refine Ul ?_
  refine Mv ?_
  refine AF ?_
  refine Ul ?_
  refine Mv ?_
  refine AF ?_
  refine Wl ?_
  refine PP rfl CB (EY rfl) JA hF (fun x4 _ hF => ?_)
  refine AF ?_
  refine Ul ?_
  refine Up ?_
  exact tw
 ·refine GU ?_
  refine MA ?_
  exact tw
 ·refine Ep ?_
  exact rt
theorem JI (p0 : List UInt8) (p1 : List UInt8) {G : Bool → Prop} (h : Heap) (hF : Am (D6 p0 p1) G) : CallsA Tryz.prog 74 [.str p0, .str p1] h fun d h' => ∃ r, G r ∧ d = .bool r ∧ h' = h := by
 refine CallsA.ret ?_
 refine Be Tryz.func74 rfl gc Tryz.ntmps74 rfl (fun ok => ?_)
 rw [D6] at hF
 refine Ic ?_
 refine Q1 ?_
 refine cl (AT (fun _ h hF => Ie _ _ h hF) _ hF fun x1 _ hF => ?_)
 refine Ep ?_
 exact rt
theorem K7 (p0 : Ad) {G : Bool → Prop} (h : Heap) (hF : Am (El p0) G) : CallsA Tryz.prog 46 [.agg (Ae p0)] h fun d h' => ∃ r, G r ∧ d = .bool r ∧ h' = h := by
 refine CallsA.ret ?_
 refine Be Tryz.func46 rfl fh Tryz.ntmps46 rfl (fun ok => ?_)
 rw [El] at hF
 refine Bg ?_
 refine Dc (v := .agg (Ae p0)) (cs := Ae p0) rfl rfl rfl rfl ?_
 refine CS ?_
 refine A5 hF (fun (_ : Unit) s' => OK h [] ∧ WS s' ⟨Al 71 [(1, .iptr (Ae p0))], Hp h []⟩) (fun J11 hF => ?_) ?_
 ·refine Bg ?_
  refine Br rfl Do Bw (by rw [Ab]; rfl) ?_
  refine AX rfl (Bf Dl Bw (congrArg (List.drop 4) (Ab p0))) ?_
  refine Pv ?_
  refine Ia ?_
  refine Cg (σ := Int) hF (fun (a12 : Int) s' => OK h [] ∧ WS s' ⟨Al 71 [(1, .iptr (Ae p0)), (6, .sl 6 (List.map Ae p0.Kids) 0), (7, .int .i64 (p0.Kids.length : Int)), (8, .int .i64 a12)], Hp h []⟩) ?_ ?_
  ·exact ⟨oy ok, wy ok⟩
  ·rintro G13 hG14 rec15 a12 s' ih16 hF ⟨ok, hws⟩
   refine AO hws ?_
   clear hws s'
   rw [D5] at hF
   refine Ih ?_
   refine Au rfl hF (fun hb17 hF => ?_) fun hb17 hF => ?_
   ·refine TG ?_
    refine CR (mdl [(4, 1)]) ?_
    refine Es ?_
    refine Gh rfl rfl C7 AK hF (fun x18 _ hF => ?_)
    refine AX rfl (A4 (vs := Ae x18) CQ AK (by rw [Ab]; rfl) (by rw [Ab]; rfl)) ?_
    refine DB ok rfl DD ?_
    intro i19 hi19 ok
    refine O8 ?_
    refine Cv (j := 0) (cs' := [.int .i64 x18.Kind, .str x18.Name.URI, .str x18.Name.Local, .sl 3 (List.map Ac x18.Attrs) 0, .sl 6 (List.map Ae x18.Kids) 0, .str x18.Text]) ok rfl (congrArg D.agg (Ab x18)) rfl hi19 rfl AK rfl rfl (fun ok => ?_)
    refine AY ?_
    refine FA ?_
    refine UA ?_
    refine Cp (b := (decide ((0 : Int) < a12))) 4 19 (.bool ((decide ((0 : Int) < a12)) && (x18.Kind == (3 : Int)))) (fun hb20 => ?_) (fun hb20 => ?_) ?_
    ·refine D3 ?_
     refine DF rfl Dy AN ?_
     refine dW ?_
     refine Tq ?_
     exact th
    ·refine KK ?_
     exact th
    refine CM ?_
    refine Bu 9 29 hF (fun J22 hb21 hF => ?_) (fun J22 hb21 hF => ?_) (fun v23 hF => ?_)
    ·refine D3 ?_
     refine Br rfl Do Bw (by rw [Ab]; rfl) ?_
     refine AF ?_
     refine AX rfl (Bf Dl Bw (congrArg (List.drop 4) (Ab p0))) ?_
     refine Ps ?_
     refine Wl ?_
     refine Gh rfl rfl C7 AK hF (fun x24 _ hF => ?_)
     refine AF ?_
     refine Br rfl Dy AN (by rw [Ab]; rfl) ?_
     refine AF ?_
     refine AX rfl (Bf EN AN (congrArg (List.drop 0) (Ab x24))) ?_
     refine Tq ?_
     exact tw
    ·refine GU ?_
     refine TE ?_
     exact tw
    ·refine AY ?_
     refine Au rfl hF (fun hb25 hF => ?_) fun hb25 hF => ?_
     ·refine Ki ?_
      replace hF := hG14 _ (Ak hF)
      exact rt
     ·refine KZ ?_
      refine ih16 (IntKind.wrap .i64 (a12 + (1 : Int))) _ hF ?_
      exact ⟨oy ok, wy ok⟩
   ·refine DS ?_
    replace hF := hG14 _ (Ak hF)
    exact ⟨(), hF, oy ok, wy ok⟩
 ·rintro ⟨⟩ s' hF ⟨ok, hws⟩
  refine AO hws ?_
  clear hws s'
  refine Nc ?_
  refine Br rfl Dy AN (by rw [Ab]; rfl) ?_
  refine AX rfl (Bf EN AN (congrArg (List.drop 0) (Ab p0))) ?_
  refine TF ?_
  refine Pw ?_
  refine Au rfl hF (fun hb26 hF => ?_) fun hb26 hF => ?_
  ·refine Bg ?_
   refine Br rfl Cx As (by rw [Ab]; rfl) ?_
   refine AX rfl (Bf BN As (congrArg (List.drop 5) (Ab p0))) ?_
   refine LK ?_
   refine Ep ?_
   exact rt
  ·refine Pq ?_
   refine Au rfl hF (fun hb27 hF => ?_) fun hb27 hF => ?_
   ·refine Bg ?_
    refine Br rfl Cx As (by rw [Ab]; rfl) ?_
    refine AX rfl (Bf BN As (congrArg (List.drop 5) (Ab p0))) ?_
    refine cl (Hj _ hF fun x28 _ hF => ?_)
    refine CM ?_
    refine Bu 4 47 hF (fun J30 hb29 hF => ?_) (fun J30 hb29 hF => ?_) (fun v31 hF => ?_)
    ·refine Od ?_
     exact tw
    ·refine D3 ?_
     refine Br rfl Cx As (by rw [Ab]; rfl) ?_
     refine AF ?_
     refine AX rfl (Bf BN As (congrArg (List.drop 5) (Ab p0))) ?_
     refine AF ?_
     refine cl (AT (fun _ h hF => JI _ _ h hF) _ hF fun x32 _ hF => ?_)
     refine EK ?_
     exact tw
    ·refine CM ?_
     refine Bu 4 52 hF (fun J34 hb33 hF => ?_) (fun J34 hb33 hF => ?_) (fun v35 hF => ?_)
     ·refine Od ?_
      exact tw
     ·refine D3 ?_
      refine Br rfl Cx As (by rw [Ab]; rfl) ?_
      refine AF ?_
      refine AX rfl (Bf BN As (congrArg (List.drop 5) (Ab p0))) ?_
      refine AF ?_
      refine cl (Hj _ hF fun x36 _ hF => ?_)
      refine EK ?_
      exact tw
     ·refine Ep ?_
      exact rt
   ·refine Pq ?_
    refine Au rfl hF (fun hb37 hF => ?_) fun hb37 hF => ?_
    ·refine A5 hF (fun (a45 : Bool) s' => OK h [] ∧ WS s' ⟨Al 71 [(2, .bool a45)], Hp h []⟩) (fun J46 hF => ?_) ?_
     ·refine EW (mdl [(56, 3), (60, 3), (65, 3), (67, 3)]) (by kernel_rfl) (by kernel_rfl) ?_
      refine Br rfl Cx As (by rw [Ab]; rfl) ?_
      refine AX rfl (Bf BN As (congrArg (List.drop 5) (Ab p0))) ?_
      refine cl (Hj _ hF fun x47 _ hF => ?_)
      refine CM ?_
      refine Wi (b := x47) hF (fun hb48 hF => ?_) (fun hb49 hF => ?_)
      ·refine Wp ?_
       refine ek ?_
       refine CM ?_
       refine Ym rfl rfl rfl ?_
       refine Yb ?_
       refine Yb ?_
       refine Yb ?_
       refine Yb ?_
       refine Yb ?_
       refine Z5 ?_
       refine UV (v := .bool _) rfl rfl rfl ?_
       refine CS ?_
       exact ⟨true, hF, oy ok, wy ok⟩
      ·refine D3 ?_
       refine Br rfl Cx As (by rw [Ab]; rfl) ?_
       refine AF ?_
       refine AX rfl (Bf BN As (congrArg (List.drop 5) (Ab p0))) ?_
       refine AF ?_
       refine cl (Hj _ hF fun x50 _ hF => ?_)
       refine AY ?_
       refine da ?_
       refine CM ?_
       refine Wi (b := x50) hF (fun hb51 hF => ?_) (fun hb52 hF => ?_)
       ·refine GU ?_
        refine M9 ?_
        refine ek ?_
        refine CS ?_
        exact ⟨true, hF, oy ok, wy ok⟩
       ·refine D3 ?_
        refine Br rfl Cx As (by rw [Ab]; rfl) ?_
        refine AF ?_
        refine AX rfl (Bf BN As (congrArg (List.drop 5) (Ab p0))) ?_
        refine AF ?_
        refine Br rfl Cx As (by rw [Ab]; rfl) ?_
        refine AF ?_
        refine AX rfl (Bf BN As (congrArg (List.drop 5) (Ab p0))) ?_
        refine AF ?_
        refine cl (Pk _ hF fun x53 _ hF => ?_)
        refine Uu ?_
        refine AY ?_
        refine da ?_
        refine CS ?_
        exact ⟨(!(p0.Text == x53)), hF, oy ok, wy ok⟩
     ·rintro a45 s' hF ⟨ok, hws⟩
      refine AO hws ?_
      clear hws s'
      refine Mn ?_
      exact rt
    ·refine VQ ?_
     exact rt
theorem OG (p0 : Ad) {G : Int → Prop} (h : Heap) (hF : Am (F2 p0) G) : CallsA Tryz.prog 21 [.agg (Ae p0)] h fun d h' => ∃ r, G r ∧ d = .int .i64 r ∧ h' = h := by
 refine CallsA.ret ?_
 refine Be Tryz.func21 rfl fV Tryz.ntmps21 rfl (fun ok => ?_)
 rw [F2] at hF
 refine Bg ?_
 refine Dc (v := .agg (Ae p0)) (cs := Ae p0) rfl rfl rfl rfl ?_
 refine Fx ?_
 refine Bg ?_
 refine AX rfl (A4 (vs := Ae p0) CQ AK (by rw [Ab]; rfl) (by rw [Ab]; rfl)) ?_
 refine cl (CallsA.ghost (ds := [.agg (Ae p0), .snil]) 1 6 bR ok rfl fun r3 hr3 ok => N9 (p0 := p0) (p1 := ([] : List Ad)) (rp1 := r3) h [] hr3 ok hF fun x1 r2 _ hr2 ok hF => ?_)
 refine Sd ?_
 refine Eg 3 (v := .sl 6 (List.map Ae x1) 0) (.zero _ _ _) ?_
 refine Ht ?_
 refine NU ?_
 refine Br rfl Dy AN (by rw [Ab]; rfl) ?_
 refine AX rfl (Bf EN AN (congrArg (List.drop 0) (Ab p0))) ?_
 refine Tz ?_
 refine Bu 3 16 hF (fun J5 hb4 hF => ?_) (fun J5 hb4 hF => ?_) (fun v6 hF => ?_)
 ·refine Md ?_
  exact tw
 ·refine Xf ?_
  refine cl (AI (f1 := 40) (fi1 := []) (ca1 := []) (fun z0 G h hF => Qr z0 h hF) _ hF fun x7 _ hF => ?_)
  refine EK ?_
  exact tw
 ·refine CS ?_
  refine Au rfl hF (fun hb8 hF => ?_) fun hb8 hF => ?_
  ·refine DI ?_
   exact rt
  ·refine Bg ?_
   refine AX rfl (A4 (vs := Ae p0) CQ AK (by rw [Ab]; rfl) (by rw [Ab]; rfl)) ?_
   refine cl (AT (fun _ h hF => O6 _ _ h hF) _ hF fun x9 _ hF => ?_)
   refine CS ?_
   refine Au rfl hF (fun hb10 hF => ?_) fun hb10 hF => ?_
   ·refine DI ?_
    exact rt
   ·refine ET ?_
    refine Pv ?_
    refine Ix ?_
    refine UA ?_
    refine Bu 3 28 hF (fun J12 hb11 hF => ?_) (fun J12 hb11 hF => ?_) (fun v13 hF => ?_)
    ·refine Md ?_
     exact tw
    ·refine Xf ?_
     refine cl (AI (f1 := 42) (fi1 := []) (ca1 := []) (fun z0 G h hF => N6 z0 h hF) _ hF fun x14 _ hF => ?_)
     refine EK ?_
     exact tw
    ·refine CS ?_
     refine Au rfl hF (fun hb15 hF => ?_) fun hb15 hF => ?_
     ·refine DI ?_
      exact rt
     ·refine ET ?_
      refine cl (AI (f1 := 43) (fi1 := []) (ca1 := []) (fun z0 G h hF => LH z0 h hF) _ hF fun x16 _ hF => ?_)
      refine CS ?_
      refine Au rfl hF (fun hb17 hF => ?_) fun hb17 hF => ?_
      ·refine DI ?_
       exact rt
      ·refine ET ?_
       refine cl (AI (f1 := 44) (fi1 := []) (ca1 := []) (fun z0 G h hF => Na z0 h hF) _ hF fun x18 _ hF => ?_)
       refine CS ?_
       refine Au rfl hF (fun hb19 hF => ?_) fun hb19 hF => ?_
       ·refine DI ?_
        exact rt
       ·refine ET ?_
        refine cl (AI (f1 := 45) (fi1 := []) (ca1 := []) (fun z0 G h hF => Ll z0 h hF) _ hF fun x20 _ hF => ?_)
        refine CS ?_
        refine Au rfl hF (fun hb21 hF => ?_) fun hb21 hF => ?_
        ·refine DI ?_
         exact rt
        ·refine ET ?_
         refine cl (AI (f1 := 46) (fi1 := []) (ca1 := []) (fun z0 G h hF => K7 z0 h hF) _ hF fun x22 _ hF => ?_)
         refine CS ?_
         refine Au rfl hF (fun hb23 hF => ?_) fun hb23 hF => ?_
         ·refine DI ?_
          exact rt
         ·refine Cl ?_
          refine HI ?_
          refine A5 hF (fun (a34 : Int) s' => OK h [] ∧ WS s' ⟨Al 56 [(4, .int .i64 a34)], Hp h []⟩) (fun J35 hF => ?_) ?_
          ·refine Bg ?_
           refine Br rfl Do Bw (by rw [Ab]; rfl) ?_
           refine AX rfl (Bf Dl Bw (congrArg (List.drop 4) (Ab p0))) ?_
           refine Pv ?_
           refine Ia ?_
           refine Cg (σ := Int × Int) hF (fun (v : Int × Int) s' => match v with | (a36, a37) => OK h [] ∧ WS s' ⟨Al 56 [(4, .int .i64 a36), (42, .sl 6 (List.map Ae p0.Kids) 0), (43, .int .i64 (p0.Kids.length : Int)), (44, .int .i64 a37)], Hp h []⟩) ?_ ?_
           ·exact ⟨oy ok, wy ok⟩
           ·rintro G38 hG39 rec40 ⟨a36, a37⟩ s' ih41 hF ⟨ok, hws⟩
            refine AO hws ?_
            clear hws s'
            rw [Ff] at hF
            refine Ih ?_
            refine Au rfl hF (fun hb42 hF => ?_) fun hb42 hF => ?_
            ·refine Cl ?_
             refine A5 hF (fun (a46 : Int) s' => OK h [] ∧ WS s' ⟨Al 56 [(4, .int .i64 a46), (42, .sl 6 (List.map Ae p0.Kids) 0), (43, .int .i64 (p0.Kids.length : Int)), (44, .int .i64 a37)], Hp h []⟩) (fun J47 hF => ?_) ?_
             ·refine FB ?_
              refine Ec ?_
              refine CR (mdl [(6, 1)]) ?_
              refine Gh rfl rfl C7 AK hF (fun x48 _ hF => ?_)
              refine AX rfl (A4 (vs := Ae x48) CQ AK (by rw [Ab]; rfl) (by rw [Ab]; rfl)) ?_
              refine DB ok rfl DD ?_
              intro i49 hi49 ok
              refine Cv (j := 0) (cs' := [.int .i64 x48.Kind, .str x48.Name.URI, .str x48.Name.Local, .sl 3 (List.map Ac x48.Attrs) 0, .sl 6 (List.map Ae x48.Kids) 0, .str x48.Text]) ok rfl (congrArg D.agg (Ab x48)) rfl hi49 rfl AK rfl rfl (fun ok => ?_)
              refine Ms ?_
              refine DF rfl Dy AN ?_
              refine T3 ?_
              refine LY ?_
              refine Au rfl hF (fun hb50 hF => ?_) fun hb50 hF => ?_
              ·refine O4 ?_
               exact ⟨(IntKind.wrap .i64 (a36 + (1 : Int))), hF, oy ok, wy ok⟩
              ·refine Cl ?_
               exact ⟨a36, hF, oy ok, wy ok⟩
             ·rintro a46 s' hF ⟨ok, hws⟩
              refine AO hws ?_
              clear hws s'
              refine R5 ?_
              refine ih41 (a46, (IntKind.wrap .i64 (a37 + (1 : Int)))) _ hF ?_
              exact ⟨oy ok, wy ok⟩
            ·refine DS ?_
             replace hF := hG39 _ (Ak hF)
             exact ⟨a36, hF, oy ok, wy ok⟩
          ·rintro a34 s' hF ⟨ok, hws⟩
           refine AO hws ?_
           clear hws s'
           refine I1 ?_
           refine MB ?_
           refine Au rfl hF (fun hb51 hF => ?_) fun hb51 hF => ?_
           ·refine DI ?_
            exact rt
           ·refine SN ?_
            exact rt
theorem HH (p0 : List UInt8) {G : Bool → Prop} (h : Heap) (hF : Am (DC p0) G) : CallsA Tryz.prog 8 [.sl 1 (List.map AL p0) 0] h fun d h' => ∃ r, G r ∧ d = .bool r := by
 refine CallsA.ret ?_
 refine Be Tryz.func8 rfl gR Tryz.ntmps8 rfl (fun ok => ?_)
 rw [DC] at hF
 refine Ic ?_
 refine Nc ?_
 refine cl (AT (fun _ h hF => Jo h hF) _ hF fun x1 _ hF => ?_)
 refine OC ?_
 refine Au rfl hF (fun hb2 hF => ?_) fun hb2 hF => ?_
 ·refine Ki ?_
  exact rt
 ·refine HE ?_
  refine CR (mdl [(3, 1)]) ?_
  refine Jp ?_
  refine cl (AT (fun _ h hF => Hx _ h hF) _ hF fun x3 _ hF => ?_)
  refine Qj ?_
  refine DB ok rfl DD ?_
  intro i4 hi4 ok
  refine Cv (j := 0) (cs' := [.int .i64 x3.1.Kind, .str x3.1.Name.URI, .str x3.1.Name.Local, .sl 3 (List.map Ac x3.1.Attrs) 0, .sl 6 (List.map Ae x3.1.Kids) 0, .str x3.1.Text]) ok rfl (congrArg D.agg (Ab x3.1)) rfl hi4 rfl AK rfl rfl (fun ok => ?_)
  refine V4 ?_
  refine Tz ?_
  refine Bu 4 20 hF (fun J6 hb5 hF => ?_) (fun J6 hb5 hF => ?_) (fun v7 hF => ?_)
  ·refine D3 ?_
   refine DT (j := 0) ok rfl rfl rfl hi4 (A4 (vs := Ae x3.1) CQ AK rfl (Ab x3.1).symm) ?_
   refine AF ?_
   refine CN (v := .agg [.int .i64 (0 : Int), .str ([] : List UInt8), .str ([] : List UInt8), .snil, .snil, .str ([] : List UInt8)]) (Ej DD F5 rfl) ?_
   refine AY ?_
   refine Eg 18 (v := .agg (Ae (⟨(0 : Int), (⟨([] : List UInt8), ([] : List UInt8)⟩ : Ah), ([] : List Aa), ([] : List Ad), ([] : List UInt8)⟩ : Ad))) (Wd.toE (.aggC (.cons (.refl _) (.cons (.refl _) (.cons (.refl _) (.cons (.nil _) (.cons (.nil _) (.refl _))))))) (Ab _)) ?_
   refine D3 ?_
   refine cl (Jd _ hF fun x8 _ hF => ?_)
   refine Hv ?_
   exact tw
  ·refine KK ?_
   exact tw
  ·refine CM ?_
   refine Bu 8 29 hF (fun J10 hb9 hF => ?_) (fun J10 hb9 hF => ?_) (fun v11 hF => ?_)
   ·refine XB ?_
    refine Za ?_
    refine Ov ?_
    refine KN ?_
    exact tw
   ·refine Tv ?_
    refine TA ?_
    refine Bu 4 28 hF (fun J13 hb12 hF => ?_) (fun J13 hb12 hF => ?_) (fun v14 hF => ?_)
    ·refine D3 ?_
     refine DT (j := 0) ok rfl rfl rfl hi4 (A4 (vs := Ae x3.1) CQ AK rfl (Ab x3.1).symm) ?_
     refine AF ?_
     refine cl (AT (fun _ h hF => OG _ h hF) _ hF fun x15 _ hF => ?_)
     refine Zh ?_
     refine AF ?_
     refine SB ?_
     exact tw
    ·refine Wp ?_
     refine Xr ?_
     exact tw
    ·refine M6 ?_
     exact tw
   ·refine Ep ?_
    exact rt
end Go.Proofs.YtilhbalhkljanaaGreatDoor
