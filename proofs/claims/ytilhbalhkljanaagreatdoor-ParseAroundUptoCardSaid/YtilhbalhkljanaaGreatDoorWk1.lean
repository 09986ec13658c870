/- The walks. No condition. -/
import Derived.Test.YtilhbalhkljanaaGreatDoorWs
import Derived.Test.YtilhbalhkljanaaGreatDoorQz
import Derived.Test.YtilhbalhkljanaaGreatDoorPf
import Derived.Test.YtilhbalhkljanaaGreatDoorTy
import Derived.Test.YtilhbalhkljanaaGreatDoorRk
set_option linter.unusedVariables false
set_option linter.unusedSimpArgs false
set_option maxRecDepth 20000
set_option maxHeartbeats 8000000
namespace Go.Proofs.YtilhbalhkljanaaGreatDoor
theorem Mo (p0 : List UInt8) (p1 : List UInt8) {G : Bool → Prop} (h : Heap) (hF : Ap (Gt p0 p1) G) : CallsA Tryz.prog 140 [.sl 1 (List.map AH p0) 0, .sl 1 (List.map AH p1) 0] h fun d h' => ∃ r, G r ∧ d = .bool r ∧ h' = h := by
 refine CallsA.ret ?_
 refine B2 Tryz.func140 rfl aD Tryz.ntmps140 rfl (fun ok => ?_)
 rw [Gt] at hF
 refine Nq ?_
 refine Gm ?_
 refine Rz ?_
 refine UE ?_
 refine Lr ?_
 refine GM ?_
 exact rt
theorem Ev (p0 : List UInt8) (p1 : List UInt8) {G : Bool → Prop} (h : Heap) (hF : Ap (CR p0 p1) G) : CallsA Tryz.prog 90 [.sl 1 (List.map AH p0) 0, .sl 1 (List.map AH p1) 0] h fun d h' => ∃ r, G r ∧ d = .bool r ∧ h' = h := by
 refine CallsA.ret ?_
 refine B2 Tryz.func90 rfl cZ Tryz.ntmps90 rfl (fun ok => ?_)
 rw [CR] at hF
 refine Nq ?_
 refine Gm ?_
 refine JV ?_
 refine U9 ?_
 refine UR ?_
 refine BH 7 17 hF (fun J2 hb1 hF => ?_) (fun J2 hb1 hF => ?_) (fun v3 hF => ?_)
 ·refine PI ?_
  refine VA ?_
  refine JV ?_
  refine A2 ?_
  refine Gy rfl BQ C0 I5 (ED rfl) hF (fun x4 _ hF => ?_)
  refine A2 ?_
  refine VA ?_
  refine cl (A4 (fun _ h hF => Mo _ _ h hF) _ hF fun x5 _ hF => ?_)
  refine Hh ?_
  exact tw
 ·refine FA ?_
  refine H0 ?_
  exact tw
 ·refine GM ?_
  exact rt
theorem Jl (p0 : List UInt8) (p1 : List UInt8) {G : (List UInt8) → Prop} (h : Heap) (hF : Ap (C2 p0 p1) G) : CallsA Tryz.prog 55 [.sl 1 (List.map AH p0) 0, .sl 1 (List.map AH p1) 0] h fun d h' => ∃ r, G r ∧ d = .sl 1 (List.map AH r) 0 ∧ h' = h := by
 refine CallsA.ret ?_
 refine B2 Tryz.func55 rfl cx Tryz.ntmps55 rfl (fun ok => ?_)
 rw [C2] at hF
 refine Bz ?_
 refine S_a (v := .snil) rfl ?_
 refine Ed 4 (v := .sl 1 (List.map AH ([] : List UInt8)) 0) (.nil _) ?_
 refine GQ ?_
 refine Gm ?_
 refine Kr ?_
 refine cl (A4 (fun _ h hF => Ev _ _ h hF) _ hF fun x1 _ hF => ?_)
 refine AV ?_
 refine Az rfl hF (fun hb2 hF => ?_) fun hb2 hF => ?_
 ·refine Gm ?_
  refine U9 ?_
  refine Gy rfl BQ C0 (ED rfl) HM hF (fun x3 _ hF => ?_)
  refine RU ?_
  refine MP ?_
  exact rt
 ·refine Co ?_
  refine Gm ?_
  refine RU ?_
  refine MP ?_
  exact rt
theorem M5 (p0 : List UInt8) {G : (List UInt8) → Prop} (h : Heap) (hF : Ap (EH p0) G) : CallsA Tryz.prog 54 [.sl 1 (List.map AH p0) 0] h fun d h' => ∃ r, G r ∧ d = .sl 1 (List.map AH r) 0 ∧ h' = h := by
 refine CallsA.ret ?_
 refine B2 Tryz.func54 rfl dv Tryz.ntmps54 rfl (fun ok => ?_)
 rw [EH] at hF
 refine Bz ?_
 refine S_a (v := .snil) rfl ?_
 refine Ed 2 (v := .sl 1 (List.map AH ([] : List UInt8)) 0) (.nil _) ?_
 refine GQ ?_
 refine CF (mdl [(8, 1)]) ?_
 refine U9 ?_
 refine Z0 (c := AH) (z0 := (0 : UInt8)) ok rfl FU rfl rfl rfl hF ?_
 intro u1 zu1 ok hF
 obtain ⟨a2, ha2, hF⟩ := DQ hF
 rw [← ha2] at ok zu1
 rw [← ha2]
 refine RB ?_
 refine Bf hF (fun (a48 : (List UInt8)) s' => ∃ g47 : Nat, (g47 = 0 → a48 = []) ∧ OK h [mo g47 AH a48] ∧ WS s' ⟨Ak 40 [(3, As 1 g47 a48)], Hp h [mo g47 AH a48]⟩) (fun J49 hF => ?_) ?_
 ·refine Gm ?_
  refine JV ?_
  refine Jb ?_
  refine Cp (σ := (List UInt8) × Int) hF (fun (v : (List UInt8) × Int) s' => match v with | (a51, a52) => ∃ g50 : Nat, (g50 = 0 → a51 = []) ∧ OK h [mo g50 AH a51] ∧ WS s' ⟨Ak 40 [(0, .sl 1 (List.map AH p0) 0), (3, As 1 g50 a51), (9, .sl 1 (List.map AH p0) 0), (10, .int .i64 (p0.length : Int)), (11, .int .i64 a52)], Hp h [mo g50 AH a51]⟩) ?_ ?_
  ·exact ⟨u1, zu1, oy ok, wy ok⟩
  ·rintro G53 hG54 rec55 ⟨a51, a52⟩ s' ih56 hF ⟨g50, zg50, ok, hws⟩
   refine AQ hws ?_
   clear hws s'
   rw [Dm] at hF
   refine Jg ?_
   refine Az rfl hF (fun hb57 hF => ?_) fun hb57 hF => ?_
   ·refine Co ?_
    refine Bf hF (fun (a78 : (List UInt8)) s' => ∃ g77 : Nat, (g77 = 0 → a78 = []) ∧ OK h [mo g77 AH a78] ∧ WS s' ⟨Ak 40 [(0, .sl 1 (List.map AH p0) 0), (3, As 1 g77 a78), (9, .sl 1 (List.map AH p0) 0), (10, .int .i64 (p0.length : Int)), (11, .int .i64 a52)], Hp h [mo g77 AH a78]⟩) (fun J79 hF => ?_) ?_
    ·refine Fe ?_
     refine Eh ?_
     refine Fz rfl rfl BQ C0 hF (fun x80 _ hF => ?_)
     refine Yz ?_
     refine HX ?_
     refine Bf hF (fun (a88 : Int) s' => OK h [mo g50 AH a51] ∧ WS s' ⟨Ak 40 [(0, .sl 1 (List.map AH p0) 0), (3, As 1 g50 a51), (5, .int .u8 a88), (9, .sl 1 (List.map AH p0) 0), (10, .int .i64 (p0.length : Int)), (11, .int .i64 a52)], Hp h [mo g50 AH a51]⟩) (fun J89 hF => ?_) ?_
     ·refine Fe ?_
      refine Eh ?_
      refine Ib ?_
      refine Cu (b := ((x80.toNat : Int) == (10 : Int))) 3 22 (.bool (((x80.toNat : Int) == (10 : Int)) && (decide ((0 : Int) < a52)))) (fun hb90 => ?_) (fun hb90 => ?_) ?_
      ·refine Ja ?_
       refine Qj ?_
       refine Hh ?_
       exact th
      ·refine H0 ?_
       exact th
      refine CZ ?_
      refine BH 7 30 hF (fun J92 hb91 hF => ?_) (fun J92 hb91 hF => ?_) (fun v93 hF => ?_)
      ·refine PI ?_
       refine Um ?_
       refine Hc ?_
       refine A2 ?_
       refine Fz rfl rfl BQ C0 hF (fun x94 _ hF => ?_)
       refine YI ?_
       refine Xw ?_
       exact tw
      ·refine FA ?_
       refine H0 ?_
       exact tw
      ·refine D7 ?_
       refine Az rfl hF (fun hb95 hF => ?_) fun hb95 hF => ?_
       ·refine DT ?_
        exact ⟨a51, hF, g50, zg50, oy ok, wy ok⟩
       ·refine Eh ?_
        refine YQ ?_
        refine Az rfl hF (fun hb96 hF => ?_) fun hb96 hF => ?_
        ·refine IK ?_
         refine EV ?_
         exact ⟨(10 : Int), hF, oy ok, wy ok⟩
        ·refine Co ?_
         exact ⟨(x80.toNat : Int), hF, oy ok, wy ok⟩
     ·rintro a88 s' hF ⟨ok, hws⟩
      refine AQ hws ?_
      clear hws s'
      refine CF (mdl [(37, 1)]) ?_
      refine Gb ?_
      obtain ⟨b97, hb97, hF⟩ := BT hF
      replace hb97 := MA hb97
      refine Fk (es := List.map AH [b97]) rfl FU rfl rfl (by simp only [List.map_cons, List.map_nil, AH, hb97]; rfl) ?_
      refine II (j := 0) (M := [b97]) ok zg50 rfl rfl Jy (fun _ => rfl) rfl FU Wn hF ?_
      intro u98 zu98 ok hF
      obtain ⟨a99, ha99, hF⟩ := DQ hF
      rw [← ha99] at ok zu98
      rw [← ha99]
      refine RB ?_
      exact ⟨a99, hF, u98, zu98, oy ok, wy ok⟩
    ·rintro a78 s' hF ⟨g77, zg77, ok, hws⟩
     refine AQ hws ?_
     clear hws s'
     refine SO ?_
     refine ih56 (a78, (IntKind.wrap .i64 (a52 + (1 : Int)))) _ hF ?_
     exact ⟨g77, zg77, oy ok, wy ok⟩
   ·refine DT ?_
    replace hF := hG54 _ (Aj hF)
    exact ⟨a51, hF, g50, zg50, oy ok, wy ok⟩
 ·rintro a48 s' hF ⟨g47, zg47, ok, hws⟩
  refine AQ hws ?_
  clear hws s'
  refine Ra ?_
  refine Xm ?_
  refine PH 0 2 ok zg47 rfl rfl (fun _ => rfl) (fun ok => ?_)
  refine AV ?_
  refine MP ?_
  exact rt
theorem Ht (p0 : List UInt8) {G : (List UInt8) → Prop} (h : Heap) (hF : Ap (Cl p0) G) : CallsA Tryz.prog 25 [.sl 1 (List.map AH p0) 0] h fun d h' => ∃ r, G r ∧ d = .sl 1 (List.map AH r) 0 ∧ h' = h := by
 refine CallsA.ret ?_
 refine B2 Tryz.func25 rfl cp Tryz.ntmps25 rfl (fun ok => ?_)
 rw [Cl] at hF
 refine Bz ?_
 refine S_a (v := .snil) rfl ?_
 refine Ed 2 (v := .sl 1 (List.map AH ([] : List UInt8)) 0) (.nil _) ?_
 refine AV ?_
 refine Gm ?_
 obtain ⟨b1, hb1, hF⟩ := BT hF
 replace hb1 := MA hb1
 obtain ⟨b2, hb2, hF⟩ := BT hF
 replace hb2 := MA hb2
 obtain ⟨b3, hb3, hF⟩ := BT hF
 replace hb3 := MA hb3
 refine Fk (es := List.map AH [b1, b2, b3]) rfl FU rfl rfl (by simp only [List.map_cons, List.map_nil, AH, hb1, hb2, hb3]; rfl) ?_
 refine cl (A4 (fun _ h hF => Jl _ _ h hF) _ hF fun x4 _ hF => ?_)
 refine cl (A4 (fun _ h hF => M5 _ h hF) _ hF fun x5 _ hF => ?_)
 refine RU ?_
 refine MP ?_
 exact rt
theorem Jo (p0 : Int) (p1 : List Ah) {G : Bool → Prop} (h : Heap) (hF : Ap (FI p0 p1) G) : CallsA Tryz.prog 150 [.int .i32 p0, .sl 2 (List.map A3 p1) 0] h fun d h' => ∃ r, G r ∧ d = .bool r ∧ h' = h := by
 refine CallsA.ret ?_
 refine B2 Tryz.func150 rfl aB Tryz.ntmps150 rfl (fun ok => ?_)
 rw [FI] at hF
 refine Nq ?_
 refine Bf hF (fun (_ : Unit) s' => OK h [] ∧ WS s' ⟨Ak 22 [], Hp h []⟩) (fun J6 hF => ?_) ?_
 ·refine Gm ?_
  refine GF rfl Pj ?_
  refine Jb ?_
  refine Cp (σ := Int) hF (fun (a7 : Int) s' => OK h [] ∧ WS s' ⟨Ak 22 [(0, .int .i32 p0), (7, .sl 2 (List.map A3 p1) 0), (8, .int .i64 (p1.length : Int)), (9, .int .i64 a7)], Hp h []⟩) ?_ ?_
  ·exact ⟨oy ok, wy ok⟩
  ·rintro G8 hG9 rec10 a7 s' ih11 hF ⟨ok, hws⟩
   refine AQ hws ?_
   clear hws s'
   rw [FV] at hF
   refine Jg ?_
   refine Az rfl hF (fun hb12 hF => ?_) fun hb12 hF => ?_
   ·refine Vt ?_
    refine CF (mdl [(6, 1)]) ?_
    refine Fz rfl rfl Pj LA hF (fun x13 _ hF => ?_)
    refine Cs rfl (Bm (vs := A3 x13) UY LA rfl rfl) ?_
    refine C8 ok rfl CV ?_
    intro i14 hi14 ok
    refine Ck (j := 0) (cs' := [.int .i32 x13.lo, .int .i32 x13.hi]) ok rfl rfl rfl hi14 rfl LA rfl rfl (fun ok => ?_)
    refine AV ?_
    refine Eh ?_
    refine DA rfl Ru KE ?_
    refine Ds (j := 0) ok rfl rfl rfl hi14 (B6 (v := .int .i32 x13.hi) RG KE rfl) ?_
    refine Vg ?_
    refine AV ?_
    refine Az rfl hF (fun hb15 hF => ?_) fun hb15 hF => ?_
    ·refine Eh ?_
     refine DA rfl Rg KE ?_
     refine Ds (j := 0) ok rfl rfl rfl hi14 (B6 (v := .int .i32 x13.lo) RG KE rfl) ?_
     refine Mk ?_
     refine GM ?_
     replace hF := hG9 _ (Aj hF)
     exact rt
    ·refine Ms ?_
     refine ih11 (IntKind.wrap .i64 (a7 + (1 : Int))) _ hF ?_
     exact ⟨oy ok, wy ok⟩
   ·refine DT ?_
    replace hF := hG9 _ (Aj hF)
    exact ⟨(), hF, oy ok, wy ok⟩
 ·rintro ⟨⟩ s' hF ⟨ok, hws⟩
  refine AQ hws ?_
  clear hws s'
  refine HK ?_
  exact rt
theorem I6 (p0 : Int) {G : Bool → Prop} (h : Heap) (hF : Ap (DV p0) G) : CallsA Tryz.prog 116 [.int .i32 p0] h fun d h' => ∃ r, G r ∧ d = .bool r ∧ h' = h := by
 refine CallsA.ret ?_
 refine B2 Tryz.func116 rfl ZZ Tryz.ntmps116 rfl (fun ok => ?_)
 rw [DV] at hF
 refine Nq ?_
 refine Eh ?_
 refine Ib ?_
 refine Cu (b := (p0 == (9 : Int))) 3 8 (.bool ((p0 == (9 : Int)) || (p0 == (10 : Int)))) (fun hb1 => ?_) (fun hb1 => ?_) ?_
 ·refine NI ?_
  exact th
 ·refine VU ?_
  exact th
 refine CZ ?_
 refine Cu (b := ((p0 == (9 : Int)) || (p0 == (10 : Int)))) 3 12 (.bool (((p0 == (9 : Int)) || (p0 == (10 : Int))) || (p0 == (13 : Int)))) (fun hb2 => ?_) (fun hb2 => ?_) ?_
 ·refine NI ?_
  exact th
 ·refine VU ?_
  exact th
 refine CZ ?_
 refine BH 7 20 hF (fun J4 hb3 hF => ?_) (fun J4 hb3 hF => ?_) (fun v5 hF => ?_)
 ·refine Tf ?_
  exact tw
 ·refine Ja ?_
  refine CS (v := .agg (A3 (⟨(32 : Int), (55295 : Int)⟩ : Ah))) (Ek CV C7 rfl) ?_
  refine A2 ?_
  refine CS (v := .agg (A3 (⟨(57344 : Int), (65533 : Int)⟩ : Ah))) (Ek CV C7 rfl) ?_
  refine A2 ?_
  refine CS (v := .agg (A3 (⟨(65536 : Int), (1114111 : Int)⟩ : Ah))) (Ek CV C7 rfl) ?_
  refine A2 ?_
  refine Fk (cs := [.int .i32 (⟨(32 : Int), (55295 : Int)⟩ : Ah).lo, .int .i32 (⟨(32 : Int), (55295 : Int)⟩ : Ah).hi, .int .i32 (⟨(57344 : Int), (65533 : Int)⟩ : Ah).lo, .int .i32 (⟨(57344 : Int), (65533 : Int)⟩ : Ah).hi, .int .i32 (⟨(65536 : Int), (1114111 : Int)⟩ : Ah).lo, .int .i32 (⟨(65536 : Int), (1114111 : Int)⟩ : Ah).hi]) (es := (List.map A3 [(⟨(32 : Int), (55295 : Int)⟩ : Ah), (⟨(57344 : Int), (65533 : Int)⟩ : Ah), (⟨(65536 : Int), (1114111 : Int)⟩ : Ah)])) rfl LC rfl (by kernel_rfl) (by kernel_rfl) ?_
  refine A2 ?_
  refine cl (A4 (fun _ h hF => Jo _ _ h hF) _ hF fun x6 _ hF => ?_)
  refine Hy ?_
  exact tw
 ·refine GM ?_
  exact rt
theorem Kb (p0 : List UInt8) (p1 : Int) {G : Int × Int × Int → Prop} (h : Heap) (hF : Ap (Ff p0 p1) G) : CallsA Tryz.prog 76 [.sl 1 (List.map AH p0) 0, .int .i64 p1] h fun d h' => ∃ r, G r ∧ d = .tup [.int .i32 r.1, .int .i64 r.2.1, .int .i64 r.2.2] ∧ h' = h := by
 refine CallsA.ret ?_
 refine B2 Tryz.func76 rfl cg Tryz.ntmps76 rfl (fun ok => ?_)
 rw [Ff] at hF
 refine Bz ?_
 refine PY ?_
 refine RN ?_
 refine Si ?_
 refine Cu (b := (decide (p1 < (0 : Int)))) 5 16 (.bool ((decide (p1 < (0 : Int))) || (decide ((p0.length : Int) ≤ p1)))) (fun hb1 => ?_) (fun hb1 => ?_) ?_
 ·refine Sk ?_
  exact th
 ·refine Ja ?_
  refine VA ?_
  refine JV ?_
  refine A2 ?_
  refine Mk ?_
  refine Hy ?_
  exact th
 refine AV ?_
 refine Az rfl hF (fun hb2 hF => ?_) fun hb2 hF => ?_
 ·refine Bz ?_
  refine Qo ?_
  exact rt
 ·refine Co ?_
  refine U8 ?_
  refine Gy rfl BQ C0 (ED rfl) HM hF (fun x3 _ hF => ?_)
  refine cl (I1 _ hF fun x4 _ hF => ?_)
  refine GL ?_
  refine HX ?_
  refine RQ ?_
  refine Eh ?_
  refine Ib ?_
  refine Cu (b := (x4.1 == (65533 : Int))) 3 30 (.bool ((x4.1 == (65533 : Int)) && (decide (x4.2 < (3 : Int))))) (fun hb5 => ?_) (fun hb5 => ?_) ?_
  ·refine Ja ?_
   refine V0 ?_
   exact th
  ·refine H0 ?_
   exact th
  refine D7 ?_
  refine Az rfl hF (fun hb6 hF => ?_) fun hb6 hF => ?_
  ·refine Bz ?_
   refine Qo ?_
   exact rt
  ·refine Eh ?_
   refine cl (A4 (fun _ h hF => I6 _ h hF) _ hF fun x7 _ hF => ?_)
   refine P1 ?_
   refine D7 ?_
   refine Az rfl hF (fun hb8 hF => ?_) fun hb8 hF => ?_
   ·refine Bz ?_
    refine Qo ?_
    exact rt
   ·refine Co ?_
    refine Hz ?_
    refine If ?_
    refine Qo ?_
    exact rt
theorem M2 (p0 : List UInt8) {G : Int × Int → Prop} (h : Heap) (hF : Ap (Dw p0) G) : CallsA Tryz.prog 47 [.sl 1 (List.map AH p0) 0] h fun d h' => ∃ r, G r ∧ d = .tup [.int .i64 r.1, .int .i64 r.2] ∧ h' = h := by
 refine CallsA.ret ?_
 refine B2 Tryz.func47 rfl c8 Tryz.ntmps47 rfl (fun ok => ?_)
 rw [Dw] at hF
 refine Bz ?_
 refine HX ?_
 refine Bf hF (fun (_ : Unit) s' => OK h [] ∧ WS s' ⟨Ak 24 [], Hp h []⟩) (fun J5 hF => ?_) ?_
 ·refine Gd ?_
  refine Fe ?_
  refine Cp (σ := Int) hF (fun (a6 : Int) s' => OK h [] ∧ WS s' ⟨Ak 24 [(0, .sl 1 (List.map AH p0) 0), (4, .int .i64 a6)], Hp h []⟩) ?_ ?_
  ·exact ⟨oy ok, wy ok⟩
  ·rintro G7 hG8 rec9 a6 s' ih10 hF ⟨ok, hws⟩
   refine AQ hws ?_
   clear hws s'
   rw [C1] at hF
   refine Iq ?_
   refine U9 ?_
   refine Kx ?_
   refine Az rfl hF (fun hb11 hF => ?_) fun hb11 hF => ?_
   ·refine K8 ?_
    refine U8 ?_
    refine cl (A4 (fun _ h hF => Kb _ _ h hF) _ hF fun x12 _ hF => ?_)
    refine Lx ?_
    refine PY ?_
    refine RN ?_
    refine Mq ?_
    refine Az rfl hF (fun hb13 hF => ?_) fun hb13 hF => ?_
    ·refine Hz ?_
     refine H3 ?_
     replace hF := hG8 _ (Aj hF)
     exact rt
    ·refine Co ?_
     refine SZ ?_
     refine ih10 x12.2.1 _ hF ?_
     exact ⟨oy ok, wy ok⟩
   ·refine DT ?_
    replace hF := hG8 _ (Aj hF)
    exact ⟨(), hF, oy ok, wy ok⟩
 ·rintro ⟨⟩ s' hF ⟨ok, hws⟩
  refine AQ hws ?_
  clear hws s'
  refine Qc ?_
  exact rt
theorem AW (p0 : TS) (p1 : List UInt8) (q0 : Nat) {G : Bool → Prop} (h : Heap) (O : List (Nat × AObj)) (hq0 : q0 ≠ 0) (ok : OK h ((q0, .cells [.sl 1 (List.map AH p0.b) 0, .int .i64 p0.at_]) :: O)) (hF : Ap (Aq p0 p1) G) : CallsA Tryz.prog 77 [.ptr q0 0, .str p1] (Hp h ((q0, .cells [.sl 1 (List.map AH p0.b) 0, .int .i64 p0.at_]) :: O)) fun d h' => ∃ r, G r ∧ d = .bool r ∧ OK h ((q0, .cells [.sl 1 (List.map AH p0.b) 0, .int .i64 p0.at_]) :: O) ∧ h' = Hp h ((q0, .cells [.sl 1 (List.map AH p0.b) 0, .int .i64 p0.at_]) :: O) := by
 refine CallsA.ret ?_
 refine CB Tryz.func77 rfl cb Tryz.ntmps77 rfl ?_
 rw [Aq] at hF
 refine U4 ?_
 refine EP (mdl []) (by kernel_rfl) (by kernel_rfl) ?_
 refine VK ?_
 refine Gy rfl BQ C0 (ED rfl) HM hF (fun x1 _ hF => ?_)
 refine HQ ?_
 refine Rh ?_
 refine cl (A4 (fun _ h hF => Ev _ _ h hF) _ hF fun x2 _ hF => ?_)
 refine GM ?_
 refine rr ?_
 exact ⟨_, _, (.refl _), hy ok, _, Aj hF, rfl, oy ok, rfl⟩
theorem B0 (p0 : TS) (p1 : Int) (q0 : Nat) {G : Int → Prop} (h : Heap) (O : List (Nat × AObj)) (hq0 : q0 ≠ 0) (ok : OK h ((q0, .cells [.sl 1 (List.map AH p0.b) 0, .int .i64 p0.at_]) :: O)) (hF : Ap (Bc p0 p1) G) : CallsA Tryz.prog 78 [.ptr q0 0, .int .i64 p1] (Hp h ((q0, .cells [.sl 1 (List.map AH p0.b) 0, .int .i64 p0.at_]) :: O)) fun d h' => ∃ r, G r ∧ d = .int .i64 r ∧ OK h ((q0, .cells [.sl 1 (List.map AH p0.b) 0, .int .i64 p0.at_]) :: O) ∧ h' = Hp h ((q0, .cells [.sl 1 (List.map AH p0.b) 0, .int .i64 p0.at_]) :: O) := by
 refine CallsA.ret ?_
 refine CB Tryz.func78 rfl di Tryz.ntmps78 rfl ?_
 rw [Bc] at hF
 refine Gd ?_
 refine Bf hF (fun (a8 : Int) s' => OK h ((q0, .cells [.sl 1 (List.map AH p0.b) 0, .int .i64 p0.at_]) :: O) ∧ WS s' ⟨Ak 26 [(1, .int .i64 a8)], Hp h ((q0, .cells [.sl 1 (List.map AH p0.b) 0, .int .i64 p0.at_]) :: O)⟩) (fun J9 hF => ?_) ?_
 ·refine Fe ?_
  refine Cp (σ := Int) hF (fun (a10 : Int) s' => OK h ((q0, .cells [.sl 1 (List.map AH p0.b) 0, .int .i64 p0.at_]) :: O) ∧ WS s' ⟨Ak 26 [(0, .ptr q0 0), (1, .int .i64 a10)], Hp h ((q0, .cells [.sl 1 (List.map AH p0.b) 0, .int .i64 p0.at_]) :: O)⟩) ?_ ?_
  ·exact ⟨oy ok, wy ok⟩
  ·rintro G11 hG12 rec13 a10 s' ih14 hF ⟨ok, hws⟩
   refine AQ hws ?_
   clear hws s'
   rw [CW] at hF
   refine Iq ?_
   refine Z4 ?_
   refine JV ?_
   refine Si ?_
   refine BH 10 22 hF (fun J16 hb15 hF => ?_) (fun J16 hb15 hF => ?_) (fun v17 hF => ?_)
   ·refine Tq ?_
    refine Zy ?_
    refine A2 ?_
    refine aO ?_
    refine So ?_
    refine Fz rfl rfl BQ C0 hF (fun x18 _ hF => ?_)
    refine YI ?_
    refine A2 ?_
    refine cl (Jz _ hF fun x19 _ hF => ?_)
    refine A2 ?_
    refine Mk ?_
    refine Hh ?_
    exact tw
   ·refine FA ?_
    refine Mj ?_
    exact tw
   ·refine AV ?_
    refine Az rfl hF (fun hb20 hF => ?_) fun hb20 hF => ?_
    ·refine K8 ?_
     refine Ox ?_
     refine ih14 (IntKind.wrap .i64 (a10 + (1 : Int))) _ hF ?_
     exact ⟨oy ok, wy ok⟩
    ·refine DT ?_
     replace hF := hG12 _ (Aj hF)
     exact ⟨a10, hF, oy ok, wy ok⟩
 ·rintro a8 s' hF ⟨ok, hws⟩
  refine AQ hws ?_
  clear hws s'
  refine HP ?_
  refine rr ?_
  exact ⟨_, _, (.refl _), hy ok, _, Aj hF, rfl, oy ok, rfl⟩
theorem Cv (p0 : TS) (p1 : List UInt8) (q0 : Nat) {G : Int × TS → Prop} (h : Heap) (O : List (Nat × AObj)) (hq0 : q0 ≠ 0) (ok : OK h ((q0, .cells [.sl 1 (List.map AH p0.b) 0, .int .i64 p0.at_]) :: O)) (hF : Ap (A8 p0 p1) G) : CallsA Tryz.prog 81 [.ptr q0 0, .str p1] (Hp h ((q0, .cells [.sl 1 (List.map AH p0.b) 0, .int .i64 p0.at_]) :: O)) fun d h' => ∃ r, G r ∧ d = .int .i64 r.1 ∧ OK h ((q0, .cells [.sl 1 (List.map AH r.2.b) 0, .int .i64 r.2.at_]) :: O) ∧ h' = Hp h ((q0, .cells [.sl 1 (List.map AH r.2.b) 0, .int .i64 r.2.at_]) :: O) := by
 refine CallsA.ret ?_
 refine CB Tryz.func81 rfl da Tryz.ntmps81 rfl ?_
 rw [A8] at hF
 refine Gd ?_
 refine DS ?_
 refine FW ?_
 refine HQ ?_
 refine cl (okT (fun _ hF => AW _ (p0 := p0) (q0 := q0) h (O) hq0 ok hF) hF fun x1 _ _ _ hq hF => ?_)
 obtain ⟨rfl, ok, rfl⟩ := hq
 refine Mt ?_
 refine Az rfl hF (fun hb2 hF => ?_) fun hb2 hF => ?_
 ·refine Eg ?_
  refine rr ?_
  exact ⟨_, _, (.refl _), hy ok, _, Aj hF, rfl, oy ok, rfl⟩
 ·refine Jr ?_
  refine OB ?_
  refine UW ?_
  refine QJ ?_
  refine Ck (j := 0) (cs' := [.sl 1 (List.map AH p0.b) 0, .int .i64 (IntKind.wrap .i64 (p0.at_ + (p1.length : Int)))]) ok rfl rfl rfl hq0 rfl Bb rfl rfl (fun ok => ?_)
  refine AV ?_
  refine Eg ?_
  refine rr ?_
  exact ⟨_, _, (.refl _), hy ok, _, Aj hF, rfl, oy ok, rfl⟩
theorem FD (p0 : TS) (q0 : Nat) {G : Int × TS → Prop} (h : Heap) (O : List (Nat × AObj)) (hq0 : q0 ≠ 0) (ok : OK h ((q0, .cells [.sl 1 (List.map AH p0.b) 0, .int .i64 p0.at_]) :: O)) (hF : Ap (AX p0) G) : CallsA Tryz.prog 118 [.ptr q0 0] (Hp h ((q0, .cells [.sl 1 (List.map AH p0.b) 0, .int .i64 p0.at_]) :: O)) fun d h' => ∃ r, G r ∧ d = .int .i64 r.1 ∧ OK h ((q0, .cells [.sl 1 (List.map AH r.2.b) 0, .int .i64 r.2.at_]) :: O) ∧ h' = Hp h ((q0, .cells [.sl 1 (List.map AH r.2.b) 0, .int .i64 r.2.at_]) :: O) := by
 refine CallsA.ret ?_
 refine CB Tryz.func118 rfl bf Tryz.ntmps118 rfl ?_
 rw [AX] at hF
 refine Gd ?_
 refine Pt ?_
 refine Pn ?_
 refine cl (okT (fun _ hF => B0 _ (p0 := p0) (q0 := q0) h (O) hq0 ok hF) hF fun x1 _ _ _ hq hF => ?_)
 obtain ⟨rfl, ok, rfl⟩ := hq
 refine KH ?_
 refine Ck (j := 0) (cs' := [.sl 1 (List.map AH p0.b) 0, .int .i64 x1]) ok rfl rfl rfl hq0 rfl Bb rfl rfl (fun ok => ?_)
 refine Hw ?_
 refine cl (okT (fun _ hF => Cv _ (p0 := (⟨p0.b, x1⟩ : TS)) (q0 := q0) h (O) hq0 ok hF) hF fun x2 _ _ _ hq hF => ?_)
 obtain ⟨rfl, ok, rfl⟩ := hq
 refine EV ?_
 refine Pt ?_
 refine Pn ?_
 refine cl (okT (fun _ hF => B0 _ (p0 := x2.2) (q0 := q0) h (O) hq0 ok hF) hF fun x3 _ _ _ hq hF => ?_)
 obtain ⟨rfl, ok, rfl⟩ := hq
 refine KH ?_
 refine Ck (j := 0) (cs' := [.sl 1 (List.map AH x2.2.b) 0, .int .i64 x3]) ok rfl rfl rfl hq0 rfl Bb rfl rfl (fun ok => ?_)
 refine AV ?_
 refine HP ?_
 refine rr ?_
 exact ⟨_, _, (.refl _), hy ok, _, Aj hF, rfl, oy ok, rfl⟩
theorem FJ (p0 : TS) (q0 : Nat) {G : ((List UInt8) × Int) × TS → Prop} (h : Heap) (O : List (Nat × AObj)) (hq0 : q0 ≠ 0) (ok : OK h ((q0, .cells [.sl 1 (List.map AH p0.b) 0, .int .i64 p0.at_]) :: O)) (hF : Ap (AY p0) G) : CallsA Tryz.prog 119 [.ptr q0 0] (Hp h ((q0, .cells [.sl 1 (List.map AH p0.b) 0, .int .i64 p0.at_]) :: O)) fun d h' => ∃ r, G r ∧ d = .tup [.sl 1 (List.map AH r.1.1) 0, .int .i64 r.1.2] ∧ OK h ((q0, .cells [.sl 1 (List.map AH r.2.b) 0, .int .i64 r.2.at_]) :: O) ∧ h' = Hp h ((q0, .cells [.sl 1 (List.map AH r.2.b) 0, .int .i64 r.2.at_]) :: O) := by
 refine CallsA.ret ?_
 refine CB Tryz.func119 rfl bH Tryz.ntmps119 rfl ?_
 rw [AY] at hF
 refine Bz ?_
 refine S_a (v := .snil) rfl ?_
 refine Ed 2 (v := .sl 1 (List.map AH ([] : List UInt8)) 0) (.nil _) ?_
 refine Mw ?_
 refine FW ?_
 refine cl (okT (fun _ hF => AW _ (p0 := p0) (q0 := q0) h (O) hq0 ok hF) hF fun x1 _ _ _ hq hF => ?_)
 obtain ⟨rfl, ok, rfl⟩ := hq
 refine P1 ?_
 refine CZ ?_
 refine BH 4 13 hF (fun J3 hb2 hF => ?_) (fun J3 hb2 hF => ?_) (fun v4 hF => ?_)
 ·refine WK ?_
  refine cl (okT (fun _ hF => AW _ (p0 := p0) (q0 := q0) h (O) hq0 ok hF) hF fun x5 _ _ _ hq hF => ?_)
  obtain ⟨rfl, ok, rfl⟩ := hq
  refine NZ ?_
  refine Hh ?_
  exact tw
 ·refine LE ?_
  exact tw
 ·refine AV ?_
  refine Az rfl hF (fun hb6 hF => ?_) fun hb6 hF => ?_
  ·refine Bz ?_
   refine S_a (v := .snil) rfl ?_
   refine Ed 2 (v := .sl 1 (List.map AH ([] : List UInt8)) 0) (.nil _) ?_
   refine EZ ?_
   refine rr ?_
   exact ⟨_, _, (.tupC (.refl _)), hy ok, _, Aj hF, rfl, oy ok, rfl⟩
  ·refine GI ?_
   refine EP (mdl []) (by kernel_rfl) (by kernel_rfl) ?_
   refine VK ?_
   refine HW ?_
   refine Gy rfl BQ C0 (ED rfl) HM hF (fun x7 _ hF => ?_)
   refine SF ?_
   refine GQ ?_
   refine EP (mdl [(34, 3)]) (by kernel_rfl) (by kernel_rfl) ?_
   refine Kr ?_
   refine VK ?_
   refine Fz rfl rfl BQ C0 hF (fun x8 _ hF => ?_)
   refine Yz ?_
   refine cl (GG _ hF fun x9 _ hF => ?_)
   refine Km ?_
   refine Kx ?_
   refine Az rfl hF (fun hb10 hF => ?_) fun hb10 hF => ?_
   ·refine Bz ?_
    refine S_a (v := .snil) rfl ?_
    refine Ed 2 (v := .sl 1 (List.map AH ([] : List UInt8)) 0) (.nil _) ?_
    refine EZ ?_
    refine rr ?_
    exact ⟨_, _, (.tupC (.refl _)), hy ok, _, Aj hF, rfl, oy ok, rfl⟩
   ·refine Jr ?_
    refine OB ?_
    refine If ?_
    refine QJ ?_
    refine Ck (j := 0) (cs' := [.sl 1 (List.map AH p0.b) 0, .int .i64 (IntKind.wrap .i64 (p0.at_ + (IntKind.wrap .i64 (x9 + (2 : Int)))))]) ok rfl rfl rfl hq0 rfl Bb rfl rfl (fun ok => ?_)
    refine AV ?_
    refine U8 ?_
    refine Gy rfl BQ C0 I5 (ED rfl) hF (fun x11 _ hF => ?_)
    refine SF ?_
    refine EZ ?_
    refine rr ?_
    exact ⟨_, _, (.tupC (.refl _)), hy ok, _, Aj hF, rfl, oy ok, rfl⟩
theorem Hv (p0 : List UInt8) (p1 : List UInt8) {G : Bool → Prop} (h : Heap) (hF : Ap (C3 p0 p1) G) : CallsA Tryz.prog 191 [.str p0, .str p1] h fun d h' => ∃ r, G r ∧ d = .bool r ∧ h' = h := by
 refine CallsA.ret ?_
 refine B2 Tryz.func191 rfl bX Tryz.ntmps191 rfl (fun ok => ?_)
 rw [C3] at hF
 refine Nq ?_
 refine U3 ?_
 refine UW ?_
 refine UR ?_
 refine BH 7 17 hF (fun J2 hb1 hF => ?_) (fun J2 hb1 hF => ?_) (fun v3 hF => ?_)
 ·refine Jt ?_
  refine SS ?_
  refine PE ?_
  refine A2 ?_
  refine RX rfl Di I5 (ED rfl) hF (fun x4 _ hF => ?_)
  refine A2 ?_
  refine SS ?_
  refine UZ ?_
  exact tw
 ·refine FA ?_
  refine H0 ?_
  exact tw
 ·refine GM ?_
  exact rt
theorem Hu (p0 : List UInt8) (p1 : List UInt8) {G : (List UInt8) × Bool → Prop} (h : Heap) (hF : Ap (DG p0 p1) G) : CallsA Tryz.prog 181 [.str p0, .str p1] h fun d h' => ∃ r, G r ∧ d = .tup [.str r.1, .bool r.2] ∧ h' = h := by
 refine CallsA.ret ?_
 refine B2 Tryz.func181 rfl bv Tryz.ntmps181 rfl (fun ok => ?_)
 rw [DG] at hF
 refine Bz ?_
 refine S_a (v := .str ([] : List UInt8)) rfl ?_
 refine D7 ?_
 refine DS ?_
 refine Qt ?_
 refine cl (A4 (fun _ h hF => Hv _ _ h hF) _ hF fun x1 _ hF => ?_)
 refine Mt ?_
 refine Az rfl hF (fun hb2 hF => ?_) fun hb2 hF => ?_
 ·refine E1 ?_
  refine S6 ?_
  exact rt
 ·refine Co ?_
  refine Qt ?_
  refine PE ?_
  refine RX rfl Di (ED rfl) I5 hF (fun x3 _ hF => ?_)
  refine S6 ?_
  exact rt
theorem EW (p0 : List UInt8) (p1 : List UInt8) {G : (List UInt8) × Bool → Prop} (h : Heap) (hF : Ap (CM p0 p1) G) : CallsA Tryz.prog 160 [.str p0, .str p1] h fun d h' => ∃ r, G r ∧ d = .tup [.str r.1, .bool r.2] ∧ h' = h := by
 refine CallsA.ret ?_
 refine B2 Tryz.func160 rfl Z2 Tryz.ntmps160 rfl (fun ok => ?_)
 rw [CM] at hF
 refine Bz ?_
 refine S_a (v := .str ([] : List UInt8)) rfl ?_
 refine D7 ?_
 refine Qt ?_
 refine cl (A4 (fun _ h hF => Hu _ _ h hF) _ hF fun x1 _ hF => ?_)
 refine XO ?_
 refine S6 ?_
 exact rt
theorem Oi (p0 : List UInt8) (p1 : List UInt8) {G : Bool → Prop} (h : Heap) (hF : Ap (E3 p0 p1) G) : CallsA Tryz.prog 120 [.str p0, .str p1] h fun d h' => ∃ r, G r ∧ d = .bool r ∧ h' = h := by
 refine CallsA.ret ?_
 refine B2 Tryz.func120 rfl bW Tryz.ntmps120 rfl (fun ok => ?_)
 rw [E3] at hF
 refine U4 ?_
 refine E1 ?_
 refine VS ?_
 refine R4 ?_
 refine Az rfl hF (fun hb1 hF => ?_) fun hb1 hF => ?_
 ·refine E1 ?_
  refine cl (A4 (fun _ h hF => EW _ _ h hF) _ hF fun x2 _ hF => ?_)
  refine GL ?_
  refine Ov ?_
  refine Kh ?_
  refine CZ ?_
  refine Cu (b := x2.2) 3 19 (.bool (x2.2 && (!(x2.1 == ([] : List UInt8))))) (fun hb3 => ?_) (fun hb3 => ?_) ?_
  ·refine Jt ?_
   refine QK ?_
   refine Hh ?_
   exact th
  ·refine H0 ?_
   exact th
  refine CZ ?_
  refine BH 4 24 hF (fun J5 hb4 hF => ?_) (fun J5 hb4 hF => ?_) (fun v6 hF => ?_)
  ·refine Jt ?_
   refine cl (Lm _ hF fun x7 _ hF => ?_)
   refine A2 ?_
   refine UZ ?_
   exact tw
  ·refine LE ?_
   exact tw
  ·refine GM ?_
   exact rt
 ·refine R4 ?_
  refine Az rfl hF (fun hb8 hF => ?_) fun hb8 hF => ?_
  ·refine E1 ?_
   refine QK ?_
   refine CZ ?_
   refine BH 5 34 hF (fun J10 hb9 hF => ?_) (fun J10 hb9 hF => ?_) (fun v11 hF => ?_)
   ·refine Jt ?_
    refine XC rfl rfl Di hF (fun x12 _ hF => ?_)
    refine A2 ?_
    refine cl (Jz _ hF fun x13 _ hF => ?_)
    refine A2 ?_
    refine Mk ?_
    refine Hh ?_
    exact tw
   ·refine Wc ?_
    exact tw
   ·refine CZ ?_
    refine BH 4 39 hF (fun J15 hb14 hF => ?_) (fun J15 hb14 hF => ?_) (fun v16 hF => ?_)
    ·refine Jt ?_
     refine cl (Lm _ hF fun x17 _ hF => ?_)
     refine A2 ?_
     refine UZ ?_
     exact tw
    ·refine LE ?_
     exact tw
    ·refine GM ?_
     exact rt
  ·refine Co ?_
   refine QB ?_
   refine CZ ?_
   refine Cu (b := (p1 == ([121, 101, 115] : List UInt8))) 3 45 (.bool ((p1 == ([121, 101, 115] : List UInt8)) || (p1 == ([110, 111] : List UInt8)))) (fun hb18 => ?_) (fun hb18 => ?_) ?_
   ·refine NI ?_
    exact th
   ·refine Jt ?_
    refine Lr ?_
    refine Hy ?_
    exact th
   refine GM ?_
   exact rt
theorem Gg (p0 : List UInt8) (p1 : List UInt8) {G : Bool → Prop} (h : Heap) (hF : Ap (Bl p0 p1) G) : CallsA Tryz.prog 69 [.str p0, .str p1] h fun d h' => ∃ r, G r ∧ d = .bool r ∧ h' = h := by
 refine CallsA.ret ?_
 refine B2 Tryz.func69 rfl cN Tryz.ntmps69 rfl (fun ok => ?_)
 rw [Bl] at hF
 refine Nq ?_
 refine Nt ?_
 refine MM ?_
 refine Zg 0 rfl hF (fun (a49 : Int) s' => OK h [] ∧ WS s' ⟨Ak 123 [(0, .str p0), (1, .str p1), (5, .int .i64 a49)], Hp h []⟩) ?_ ?_
 ·rintro a49 s' hF ⟨ok, hws⟩
  refine AQ hws ?_
  clear hws s'
  refine E1 ?_
  refine Eb ?_
  refine RX rfl Di (ED rfl) I5 hF (fun x52 _ hF => ?_)
  refine Ir ?_
  refine AV ?_
  refine E1 ?_
  refine Eb ?_
  refine RX rfl Di (ED rfl) I5 hF (fun x53 _ hF => ?_)
  refine Ir ?_
  refine AV ?_
  refine Bf hF (fun (a80 : (List UInt8)) s' => OK h [] ∧ WS s' ⟨Ak 123 [(1, .str a80)], Hp h []⟩) (fun J81 hF => ?_) ?_
  ·refine E1 ?_
   refine ZF ok rfl Di ?_
   intro i82 hi82 ok
   refine VS ?_
   refine Cp (σ := (List UInt8) × Nat) hF (fun (v : (List UInt8) × Nat) s' => match v with | (a83, a84) => OK h [(i82, .iter x52 a84)] ∧ WS s' ⟨Ak 123 [(1, .str a83), (67, .ptr i82 0)], Hp h [(i82, .iter x52 a84)]⟩) ?_ ?_
   ·exact ⟨oy ok, wy ok⟩
   ·rintro G85 hG86 rec87 ⟨a83, a84⟩ s' ih88 hF ⟨ok, hws⟩
    refine AQ hws ?_
    clear hws s'
    rw [By] at hF
    refine Bz ?_
    refine ZM (j := 0) ok rfl rfl hi82 hF (fun _ ok hF => ?_) (fun hF => ?_)
    ·refine Ot ?_
     refine GQ ?_
     refine Wm rfl rfl ?_
     refine K8 ?_
     refine Bz ?_
     refine Ot ?_
     refine Mw ?_
     refine U3 ?_
     refine Mn ?_
     refine Az rfl hF (fun hb89 hF => ?_) fun hb89 hF => ?_
     ·refine HK ?_
      replace hF := hG86 _ (Aj hF)
      exact rt
     ·refine Co ?_
      refine E1 ?_
      refine cl (H6 _ hF fun x90 _ hF => ?_)
      refine GL ?_
      refine HX ?_
      refine E1 ?_
      refine Eb ?_
      refine RX rfl Di (ED rfl) I5 hF (fun x91 _ hF => ?_)
      refine Ir ?_
      refine AV ?_
      refine Ol ?_
      refine Mn ?_
      refine Az rfl hF (fun hb92 hF => ?_) fun hb92 hF => ?_
      ·refine DT ?_
       refine ih88 (x91, (a84 + wdS x52 a84)) _ hF ?_
       exact ⟨oy ok, wy ok⟩
      ·refine Co ?_
       refine Bf hF (fun (v : Int × Int) s' => match v with | (a94, a95) => OK h [(i82, .iter x52 (a84 + wdS x52 a84))] ∧ WS s' ⟨Ak 123 [(1, .str x91), (10, .int .i32 a94), (11, .int .i32 a95), (67, .ptr i82 0)], Hp h [(i82, .iter x52 (a84 + wdS x52 a84))]⟩) (fun J96 hF => ?_) ?_
       ·refine Hz ?_
        refine Kx ?_
        refine Az rfl hF (fun hb97 hF => ?_) fun hb97 hF => ?_
        ·refine V2 ?_
         refine HX ?_
         exact ⟨(x90.1, (rnS x52 a84)), hF, oy ok, wy ok⟩
        ·refine Co ?_
         exact ⟨((rnS x52 a84), x90.1), hF, oy ok, wy ok⟩
       ·rintro ⟨a94, a95⟩ s' hF ⟨ok, hws⟩
        refine AQ hws ?_
        clear hws s'
        refine Iq ?_
        refine Kx ?_
        refine Az rfl hF (fun hb98 hF => ?_) fun hb98 hF => ?_
        ·refine Iq ?_
         refine Vg ?_
         refine CZ ?_
         refine Cu (b := (decide ((65 : Int) ≤ a94))) 3 97 (.bool ((decide ((65 : Int) ≤ a94)) && (decide (a94 ≤ (90 : Int))))) (fun hb99 => ?_) (fun hb99 => ?_) ?_
         ·refine Vz ?_
          exact th
         ·refine H0 ?_
          exact th
         refine CZ ?_
         refine Cu (b := ((decide ((65 : Int) ≤ a94)) && (decide (a94 ≤ (90 : Int))))) 6 104 (.bool (((decide ((65 : Int) ≤ a94)) && (decide (a94 ≤ (90 : Int)))) && (a95 == (IntKind.wrap .i32 ((IntKind.wrap .i32 (a94 + (97 : Int))) - (65 : Int)))))) (fun hb100 => ?_) (fun hb100 => ?_) ?_
         ·refine Vk ?_
          refine HW ?_
          refine A2 ?_
          refine Hc ?_
          refine Xw ?_
          exact th
         ·refine Mj ?_
          exact th
         refine AV ?_
         refine Az rfl hF (fun hb101 hF => ?_) fun hb101 hF => ?_
         ·refine DT ?_
          refine ih88 (x91, (a84 + wdS x52 a84)) _ hF ?_
          exact ⟨oy ok, wy ok⟩
         ·refine Co ?_
          refine HK ?_
          replace hF := hG86 _ (Aj hF)
          exact rt
        ·refine Co ?_
         refine Eh ?_
         refine cl (IU _ hF fun x102 _ hF => ?_)
         refine EV ?_
         refine Bf hF (fun (a107 : Int) s' => OK h [(i82, .iter x52 (a84 + wdS x52 a84))] ∧ WS s' ⟨Ak 123 [(1, .str x91), (11, .int .i32 a95), (13, .int .i32 a107), (67, .ptr i82 0)], Hp h [(i82, .iter x52 (a84 + wdS x52 a84))]⟩) (fun J108 hF => ?_) ?_
         ·refine Fe ?_
          refine Cp (σ := Int) hF (fun (a109 : Int) s' => OK h [(i82, .iter x52 (a84 + wdS x52 a84))] ∧ WS s' ⟨Ak 123 [(1, .str x91), (10, .int .i32 a94), (11, .int .i32 a95), (13, .int .i32 a109), (67, .ptr i82 0)], Hp h [(i82, .iter x52 (a84 + wdS x52 a84))]⟩) ?_ ?_
          ·exact ⟨oy ok, wy ok⟩
          ·rintro G110 hG111 rec112 a109 s' ih113 hF ⟨ok, hws⟩
           refine AQ hws ?_
           clear hws s'
           rw [B9] at hF
           refine Ol ?_
           refine SQ ?_
           refine Cu (b := (a109 != a94)) 4 114 (.bool ((a109 != a94) && (decide (a109 < a95)))) (fun hb114 => ?_) (fun hb114 => ?_) ?_
           ·refine Vk ?_
            refine V0 ?_
            exact th
           ·refine LE ?_
            exact th
           refine AV ?_
           refine Az rfl hF (fun hb115 hF => ?_) fun hb115 hF => ?_
           ·refine K8 ?_
            refine P8 ?_
            refine cl (IU _ hF fun x116 _ hF => ?_)
            refine EV ?_
            refine ih113 x116 _ hF ?_
            exact ⟨oy ok, wy ok⟩
           ·refine DT ?_
            replace hF := hG111 _ (Aj hF)
            exact ⟨a109, hF, oy ok, wy ok⟩
         ·rintro a107 s' hF ⟨ok, hws⟩
          refine AQ hws ?_
          clear hws s'
          refine Ol ?_
          refine Mn ?_
          refine Az rfl hF (fun hb117 hF => ?_) fun hb117 hF => ?_
          ·refine DT ?_
           refine ih88 (x91, (a84 + wdS x52 a84)) _ hF ?_
           exact ⟨oy ok, wy ok⟩
          ·refine Co ?_
           refine HK ?_
           replace hF := hG86 _ (Aj hF)
           exact rt
    ·refine Ot ?_
     refine GQ ?_
     refine V7 rfl rfl ?_
     refine DT ?_
     replace hF := hG86 _ (Aj hF)
     exact ⟨a83, hF, oy ok, wy ok⟩
  ·rintro a80 s' hF ⟨ok, hws⟩
   refine AQ hws ?_
   clear hws s'
   refine U3 ?_
   refine S3 ?_
   refine GM ?_
   exact rt
 ·intro J50 hJ51 hF
  refine Gd ?_
  refine Bf hF (fun (_ : Unit) s' => OK h [] ∧ WS s' ⟨Ak 123 [(0, .str p0), (1, .str p1)], Hp h []⟩) (fun J142 hF => ?_) ?_
  ·refine U3 ?_
   refine UW ?_
   refine ZO rfl rfl ?_
   refine EV ?_
   refine Fe ?_
   refine Cp (σ := Int) hF (fun (a143 : Int) s' => OK h [] ∧ WS s' ⟨Ak 123 [(0, .str p0), (1, .str p1), (5, .int .i64 a143), (6, .int .i64 (if (p1.length : Int) < (p0.length : Int) then (p1.length : Int) else (p0.length : Int)))], Hp h []⟩) ?_ ?_
   ·exact ⟨oy ok, wy ok⟩
   ·rintro G144 hG145 rec146 a143 s' ih147 hF ⟨ok, hws⟩
    refine AQ hws ?_
    clear hws s'
    rw [Cq] at hF
    refine Sq ?_
    refine Az rfl hF (fun hb148 hF => ?_) fun hb148 hF => ?_
    ·refine Co ?_
     refine Bf hF (fun (_ : Unit) s' => OK h [] ∧ WS s' ⟨Ak 123 [(0, .str p0), (1, .str p1), (5, .int .i64 a143), (6, .int .i64 (if (p1.length : Int) < (p0.length : Int) then (p1.length : Int) else (p0.length : Int)))], Hp h []⟩) (fun J160 hF => ?_) ?_
     ·refine Fe ?_
      refine E1 ?_
      refine Eb ?_
      refine XC rfl rfl Di hF (fun x161 _ hF => ?_)
      refine EV ?_
      refine E1 ?_
      refine Eb ?_
      refine XC rfl rfl Di hF (fun x162 _ hF => ?_)
      refine Km ?_
      refine Eb ?_
      refine Ef rfl rfl (eX ..) ?_
      refine Mk ?_
      refine AV ?_
      refine Az rfl hF (fun hb163 hF => ?_) fun hb163 hF => ?_
      ·refine Qd ?_
       repeat (first | with_reducible refine Exit.sel_goto ?_ | with_reducible refine Exit.blk_goto ?_)
       refine Ny rfl ?_
       replace hF := hG145 _ (Aj hF)
       refine hJ51 a143 _ hF ?_
       exact ⟨oy ok, wy ok⟩
      ·refine Co ?_
       refine Ol ?_
       refine Mn ?_
       refine Az rfl hF (fun hb164 hF => ?_) fun hb164 hF => ?_
       ·refine DT ?_
        exact ⟨(), hF, oy ok, wy ok⟩
       ·refine Co ?_
        refine Bf hF (fun (v : Int × Int) s' => match v with | (a166, a167) => OK h [] ∧ WS s' ⟨Ak 123 [(0, .str p0), (1, .str p1), (5, .int .i64 a143), (6, .int .i64 (if (p1.length : Int) < (p0.length : Int) then (p1.length : Int) else (p0.length : Int))), (7, .int .u8 a166), (8, .int .u8 a167)], Hp h []⟩) (fun J168 hF => ?_) ?_
        ·refine Hz ?_
         refine Kx ?_
         refine Az rfl hF (fun hb169 hF => ?_) fun hb169 hF => ?_
         ·refine V2 ?_
          refine HX ?_
          exact ⟨((x162.toNat : Int), (x161.toNat : Int)), hF, oy ok, wy ok⟩
         ·refine Co ?_
          exact ⟨((x161.toNat : Int), (x162.toNat : Int)), hF, oy ok, wy ok⟩
        ·rintro ⟨a166, a167⟩ s' hF ⟨ok, hws⟩
         refine AQ hws ?_
         clear hws s'
         refine Iq ?_
         refine Vg ?_
         refine CZ ?_
         refine Cu (b := (decide ((65 : Int) ≤ a166))) 3 47 (.bool ((decide ((65 : Int) ≤ a166)) && (decide (a166 ≤ (90 : Int))))) (fun hb170 => ?_) (fun hb170 => ?_) ?_
         ·refine Vz ?_
          exact th
         ·refine H0 ?_
          exact th
         refine CZ ?_
         refine Cu (b := ((decide ((65 : Int) ≤ a166)) && (decide (a166 ≤ (90 : Int))))) 6 54 (.bool (((decide ((65 : Int) ≤ a166)) && (decide (a166 ≤ (90 : Int)))) && (a167 == (IntKind.wrap .u8 ((IntKind.wrap .u8 (a166 + (97 : Int))) - (65 : Int)))))) (fun hb171 => ?_) (fun hb171 => ?_) ?_
         ·refine Vk ?_
          refine HW ?_
          refine A2 ?_
          refine Hc ?_
          refine Xw ?_
          exact th
         ·refine Mj ?_
          exact th
         refine AV ?_
         refine Az rfl hF (fun hb172 hF => ?_) fun hb172 hF => ?_
         ·refine DT ?_
          exact ⟨(), hF, oy ok, wy ok⟩
         ·refine Co ?_
          refine HK ?_
          replace hF := hG145 _ (Aj hF)
          exact rt
     ·rintro ⟨⟩ s' hF ⟨ok, hws⟩
      refine AQ hws ?_
      clear hws s'
      refine Ox ?_
      refine ih147 (IntKind.wrap .i64 (a143 + (1 : Int))) _ hF ?_
      exact ⟨oy ok, wy ok⟩
    ·refine DT ?_
     replace hF := hG145 _ (Aj hF)
     exact ⟨(), hF, oy ok, wy ok⟩
  ·rintro ⟨⟩ s' hF ⟨ok, hws⟩
   refine AQ hws ?_
   clear hws s'
   refine DS ?_
   refine U3 ?_
   refine UW ?_
   refine S3 ?_
   refine GM ?_
   exact rt
theorem I8 (p0 : TS) (p1 : TK) (q0 : Nat) (q1 : Nat) (b1_3 : Nat) {G : Int × TS × TK → Prop} (h : Heap) (O : List (Nat × AObj)) (hq0 : q0 ≠ 0) (hq1 : q1 ≠ 0) (zb1_3 : b1_3 = 0 → p1.Pairs = []) (ok : OK h ((q0, .cells [.sl 1 (List.map AH p0.b) 0, .int .i64 p0.at_]) :: (q1, .cells [.int .i64 p1.Kind, .int .i64 p1.At, .str p1.Name, As 2 b1_3 p1.Pairs, .str p1.Text, .int .i64 p1.Refs]) :: mo b1_3 cP p1.Pairs :: O)) (hF : Ap (BK p0 p1) G) : CallsA Tryz.prog 79 [.ptr q0 0, .ptr q1 0] (Hp h ((q0, .cells [.sl 1 (List.map AH p0.b) 0, .int .i64 p0.at_]) :: (q1, .cells [.int .i64 p1.Kind, .int .i64 p1.At, .str p1.Name, As 2 b1_3 p1.Pairs, .str p1.Text, .int .i64 p1.Refs]) :: mo b1_3 cP p1.Pairs :: O)) fun d h' => ∃ r, G r ∧ d = .int .i64 r.1 ∧ ∃ b1_3' : Nat, (b1_3' = 0 → r.2.2.Pairs = []) ∧ OK h ((q0, .cells [.sl 1 (List.map AH r.2.1.b) 0, .int .i64 r.2.1.at_]) :: (q1, .cells [.int .i64 r.2.2.Kind, .int .i64 r.2.2.At, .str r.2.2.Name, As 2 b1_3' r.2.2.Pairs, .str r.2.2.Text, .int .i64 r.2.2.Refs]) :: mo b1_3' cP r.2.2.Pairs :: O) ∧ h' = Hp h ((q0, .cells [.sl 1 (List.map AH r.2.1.b) 0, .int .i64 r.2.1.at_]) :: (q1, .cells [.int .i64 r.2.2.Kind, .int .i64 r.2.2.At, .str r.2.2.Name, As 2 b1_3' r.2.2.Pairs, .str r.2.2.Text, .int .i64 r.2.2.Refs]) :: mo b1_3' cP r.2.2.Pairs :: O) := by
 refine CallsA.ret ?_
 refine CB Tryz.func79 rfl cV Tryz.ntmps79 rfl ?_
 rw [BK] at hF
 refine Gd ?_
 refine R6 ?_
 refine Ck (j := 1) (cs' := [.int .i64 (1 : Int), .int .i64 p1.At, .str p1.Name, As 2 b1_3 p1.Pairs, .str p1.Text, .int .i64 p1.Refs]) ok rfl rfl rfl hq1 rfl Bb rfl rfl (fun ok => ?_)
 refine Hw ?_
 refine KH ?_
 refine Ck (j := 0) (cs' := [.sl 1 (List.map AH p0.b) 0, .int .i64 (5 : Int)]) ok rfl rfl rfl hq0 rfl Bb rfl rfl (fun ok => ?_)
 refine N2 ?_
 refine S_a (v := .str ([] : List UInt8)) rfl ?_
 refine AV ?_
 refine Bf hF (fun (v : (List UInt8) × Int × (List UInt8) × Int × Int × (List UInt8) × (List TP) × (List UInt8) × Int) s' => match v with | (a58, a59, a60, a61, a62, a63, a65, a66, a67) => ∃ g64 : Nat, (g64 = 0 → a65 = []) ∧ OK h ((q0, .cells [.sl 1 (List.map AH a58) 0, .int .i64 a59]) :: (q1, .cells [.int .i64 a61, .int .i64 a62, .str a63, As 2 g64 a65, .str a66, .int .i64 a67]) :: mo g64 cP a65 :: O) ∧ WS s' ⟨Ak 113 [(0, .ptr q0 0), (5, .str a60)], Hp h ((q0, .cells [.sl 1 (List.map AH a58) 0, .int .i64 a59]) :: (q1, .cells [.int .i64 a61, .int .i64 a62, .str a63, As 2 g64 a65, .str a66, .int .i64 a67]) :: mo g64 cP a65 :: O)⟩) (fun J68 hF => ?_) ?_
 ·refine Bz ?_
  refine Fk (cs := [.str ([118, 101, 114, 115, 105, 111, 110] : List UInt8), .str ([101, 110, 99, 111, 100, 105, 110, 103] : List UInt8), .str ([115, 116, 97, 110, 100, 97, 108, 111, 110, 101] : List UInt8)]) (es := (List.map IX [([118, 101, 114, 115, 105, 111, 110] : List UInt8), ([101, 110, 99, 111, 100, 105, 110, 103] : List UInt8), ([115, 116, 97, 110, 100, 97, 108, 111, 110, 101] : List UInt8)])) rfl NE rfl (by kernel_rfl) (by kernel_rfl) ?_
  refine GF rfl K7 ?_
  refine Jb ?_
  refine Cp (σ := (List UInt8) × Int × Int × Int × (List UInt8) × (List TP) × (List UInt8) × Int × (List UInt8) × Int) hF (fun (v : (List UInt8) × Int × Int × Int × (List UInt8) × (List TP) × (List UInt8) × Int × (List UInt8) × Int) s' => match v with | (a69, a70, a71, a72, a73, a75, a76, a77, a78, a79) => ∃ g74 : Nat, (g74 = 0 → a75 = []) ∧ OK h ((q0, .cells [.sl 1 (List.map AH a69) 0, .int .i64 a70]) :: (q1, .cells [.int .i64 a71, .int .i64 a72, .str a73, As 2 g74 a75, .str a76, .int .i64 a77]) :: mo g74 cP a75 :: O) ∧ WS s' ⟨Ak 113 [(0, .ptr q0 0), (1, .ptr q1 0), (5, .str a78), (18, .sl 1 (List.map IX [([118, 101, 114, 115, 105, 111, 110] : List UInt8), ([101, 110, 99, 111, 100, 105, 110, 103] : List UInt8), ([115, 116, 97, 110, 100, 97, 108, 111, 110, 101] : List UInt8)]) 0), (19, .int .i64 ([([118, 101, 114, 115, 105, 111, 110] : List UInt8), ([101, 110, 99, 111, 100, 105, 110, 103] : List UInt8), ([115, 116, 97, 110, 100, 97, 108, 111, 110, 101] : List UInt8)].length : Int)), (20, .int .i64 a79)], Hp h ((q0, .cells [.sl 1 (List.map AH a69) 0, .int .i64 a70]) :: (q1, .cells [.int .i64 a71, .int .i64 a72, .str a73, As 2 g74 a75, .str a76, .int .i64 a77]) :: mo g74 cP a75 :: O)⟩) ?_ ?_
  ·exact ⟨b1_3, zb1_3, oy ok, wy ok⟩
  ·rintro G80 hG81 rec82 ⟨a69, a70, a71, a72, a73, a75, a76, a77, a78, a79⟩ s' ih83 hF ⟨g74, zg74, ok, hws⟩
   refine AQ hws ?_
   clear hws s'
   rw [Ar] at hF
   refine Jg ?_
   refine Az rfl hF (fun hb84 hF => ?_) fun hb84 hF => ?_
   ·refine Co ?_
    refine Bf hF (fun (v : (List UInt8) × Int × (List TP) × (List UInt8)) s' => match v with | (a105, a106, a108, a109) => ∃ g107 : Nat, (g107 = 0 → a108 = []) ∧ OK h ((q0, .cells [.sl 1 (List.map AH a105) 0, .int .i64 a106]) :: (q1, .cells [.int .i64 a71, .int .i64 a72, .str a73, As 2 g107 a108, .str a76, .int .i64 a77]) :: mo g107 cP a108 :: O) ∧ WS s' ⟨Ak 113 [(0, .ptr q0 0), (1, .ptr q1 0), (5, .str a109), (18, .sl 1 (List.map IX [([118, 101, 114, 115, 105, 111, 110] : List UInt8), ([101, 110, 99, 111, 100, 105, 110, 103] : List UInt8), ([115, 116, 97, 110, 100, 97, 108, 111, 110, 101] : List UInt8)]) 0), (19, .int .i64 ([([118, 101, 114, 115, 105, 111, 110] : List UInt8), ([101, 110, 99, 111, 100, 105, 110, 103] : List UInt8), ([115, 116, 97, 110, 100, 97, 108, 111, 110, 101] : List UInt8)].length : Int)), (20, .int .i64 a79)], Hp h ((q0, .cells [.sl 1 (List.map AH a105) 0, .int .i64 a106]) :: (q1, .cells [.int .i64 a71, .int .i64 a72, .str a73, As 2 g107 a108, .str a76, .int .i64 a77]) :: mo g107 cP a108 :: O)⟩) (fun J110 hF => ?_) ?_
    ·refine Fe ?_
     refine Bz ?_
     refine Fz rfl rfl K7 AO hF (fun x111 _ hF => ?_)
     refine Hx ?_
     refine Ir ?_
     refine Hw ?_
     refine Pn ?_
     refine cl (okT (fun _ hF => B0 _ (p0 := (⟨a69, a70⟩ : TS)) (q0 := q0) h ((q1, .cells [.int .i64 a71, .int .i64 a72, .str a73, As 2 g74 a75, .str a76, .int .i64 a77]) :: mo g74 cP a75 :: O) hq0 ok hF) hF fun x112 _ _ _ hq hF => ?_)
     obtain ⟨rfl, ok, rfl⟩ := hq
     refine Km ?_
     refine Pn ?_
     refine Ib ?_
     refine BH 11 47 hF (fun J114 hb113 hF => ?_) (fun J114 hb113 hF => ?_) (fun v115 hF => ?_)
     ·refine FA ?_
      refine Tf ?_
      exact tw
     ·refine Tq ?_
      refine Zy ?_
      refine A2 ?_
      refine aO ?_
      refine So ?_
      refine Gy rfl BQ C0 (ED rfl) HM hF (fun x116 _ hF => ?_)
      refine A2 ?_
      refine SS ?_
      refine Rh ?_
      refine A2 ?_
      refine cl (A4 (fun _ h hF => Ev _ _ h hF) _ hF fun x117 _ hF => ?_)
      refine NZ ?_
      refine Hy ?_
      exact tw
     ·refine AV ?_
      refine Az rfl hF (fun hb118 hF => ?_) fun hb118 hF => ?_
      ·refine DS ?_
       refine QB ?_
       refine AV ?_
       refine Az rfl hF (fun hb119 hF => ?_) fun hb119 hF => ?_
       ·refine Eg ?_
        replace hF := hG81 _ (Aj hF)
        refine rr ?_
        exact ⟨_, _, (.refl _), hy ok, _, Aj hF, rfl, g74, zg74, oy ok, rfl⟩
       ·refine Co ?_
        refine DT ?_
        exact ⟨(a69, a70, a75, a78), hF, g74, zg74, oy ok, wy ok⟩
      ·refine Jr ?_
       refine Eb ?_
       refine UW ?_
       refine QJ ?_
       refine Ck (j := 0) (cs' := [.sl 1 (List.map AH a69) 0, .int .i64 (IntKind.wrap .i64 (x112 + (x111.length : Int)))]) ok rfl rfl rfl hq0 rfl Bb rfl rfl (fun ok => ?_)
       refine GQ ?_
       refine FW ?_
       refine cl (okT (fun _ hF => FD (p0 := (⟨a69, (IntKind.wrap .i64 (x112 + (x111.length : Int)))⟩ : TS)) (q0 := q0) h ((q1, .cells [.int .i64 a71, .int .i64 a72, .str a73, As 2 g74 a75, .str a76, .int .i64 a77]) :: mo g74 cP a75 :: O) hq0 ok hF) hF fun x120 _ _ _ hq hF => ?_)
       obtain ⟨rfl, ok, rfl⟩ := hq
       refine Mq ?_
       refine Az rfl hF (fun hb121 hF => ?_) fun hb121 hF => ?_
       ·refine Eg ?_
        replace hF := hG81 _ (Aj hF)
        refine rr ?_
        exact ⟨_, _, (.refl _), hy ok, _, Aj hF, rfl, g74, zg74, oy ok, rfl⟩
       ·refine Jr ?_
        refine cl (okT (fun _ hF => FJ (p0 := x120.2) (q0 := q0) h ((q1, .cells [.int .i64 a71, .int .i64 a72, .str a73, As 2 g74 a75, .str a76, .int .i64 a77]) :: mo g74 cP a75 :: O) hq0 ok hF) hF fun x122 _ _ _ hq hF => ?_)
        obtain ⟨rfl, ok, rfl⟩ := hq
        refine GL ?_
        refine SF ?_
        refine Km ?_
        refine SQ ?_
        refine BH 6 73 hF (fun J124 hb123 hF => ?_) (fun J124 hb123 hF => ?_) (fun v125 hF => ?_)
        ·refine VL ?_
         refine Jq ?_
         exact tw
        ·refine Jt ?_
         refine VA ?_
         refine Rz ?_
         refine A2 ?_
         refine cl (A4 (fun _ h hF => Oi _ _ h hF) _ hF fun x126 _ hF => ?_)
         refine NZ ?_
         refine Hy ?_
         exact tw
        ·refine AV ?_
         refine Az rfl hF (fun hb127 hF => ?_) fun hb127 hF => ?_
         ·refine Eg ?_
          replace hF := hG81 _ (Aj hF)
          refine rr ?_
          exact ⟨_, _, (.refl _), hy ok, _, Aj hF, rfl, g74, zg74, oy ok, rfl⟩
         ·refine GI ?_
          refine EP (mdl [(84, 1)]) (by kernel_rfl) (by kernel_rfl) ?_
          refine HS ?_
          refine Lw ?_
          refine Yk ?_
          refine Ds (j := 1) ok rfl rfl rfl (by assumption) (B6 (v := As _ _ _) KY F8 rfl) ?_
          refine HQ ?_
          refine UE ?_
          refine CS (v := .agg (cP (⟨x111, x122.1.1⟩ : TP))) (Ek H1 VC rfl) ?_
          refine Fk (cs := [.str (⟨x111, x122.1.1⟩ : TP).Name, .str (⟨x111, x122.1.1⟩ : TP).Value]) (es := (List.map cP [(⟨x111, x122.1.1⟩ : TP)])) rfl KO rfl (by kernel_rfl) (by kernel_rfl) ?_
          refine II (j := 2) (M := [(⟨x111, x122.1.1⟩ : TP)]) ok zg74 rfl rfl Jy (fun _ => rfl) rfl KO Rc hF ?_
          intro u128 zu128 ok hF
          obtain ⟨a129, ha129, hF⟩ := DQ hF
          rw [← ha129] at ok zu128
          rw [← ha129]
          refine GH ?_
          refine Yk ?_
          refine ZL (j := 1) (cs' := [.int .i64 a71, .int .i64 a72, .str a73, As 2 u128 a129, .str a76, .int .i64 a77]) ok rfl rfl rfl hq1 F8 rfl rfl (fun ok => ?_)
          refine AV ?_
          refine QB ?_
          refine AV ?_
          refine Az rfl hF (fun hb130 hF => ?_) fun hb130 hF => ?_
          ·refine IK ?_
           refine UE ?_
           refine Ir ?_
           refine AV ?_
           exact ⟨(x122.2.b, x122.2.at_, a129, x122.1.1), hF, u128, zu128, oy ok, wy ok⟩
          ·refine Co ?_
           exact ⟨(x122.2.b, x122.2.at_, a129, a78), hF, u128, zu128, oy ok, wy ok⟩
    ·rintro ⟨a105, a106, a108, a109⟩ s' hF ⟨g107, zg107, ok, hws⟩
     refine AQ hws ?_
     clear hws s'
     refine SO ?_
     refine ih83 (a105, a106, a71, a72, a73, a108, a76, a77, a109, (IntKind.wrap .i64 (a79 + (1 : Int)))) _ hF ?_
     exact ⟨g107, zg107, oy ok, wy ok⟩
   ·refine DT ?_
    replace hF := hG81 _ (Aj hF)
    exact ⟨(a69, a70, a78, a71, a72, a73, a75, a76, a77), hF, g74, zg74, oy ok, wy ok⟩
 ·rintro ⟨a58, a59, a60, a61, a62, a63, a65, a66, a67⟩ s' hF ⟨g64, zg64, ok, hws⟩
  refine AQ hws ?_
  clear hws s'
  refine Pt ?_
  refine Pn ?_
  refine cl (okT (fun _ hF => B0 _ (p0 := (⟨a58, a59⟩ : TS)) (q0 := q0) h ((q1, .cells [.int .i64 a61, .int .i64 a62, .str a63, As 2 g64 a65, .str a66, .int .i64 a67]) :: mo g64 cP a65 :: O) hq0 ok hF) hF fun x131 _ _ _ hq hF => ?_)
  obtain ⟨rfl, ok, rfl⟩ := hq
  refine KH ?_
  refine Ck (j := 0) (cs' := [.sl 1 (List.map AH a58) 0, .int .i64 x131]) ok rfl rfl rfl hq0 rfl Bb rfl rfl (fun ok => ?_)
  refine GQ ?_
  refine FW ?_
  refine cl (okT (fun _ hF => Cv _ (p0 := (⟨a58, x131⟩ : TS)) (q0 := q0) h ((q1, .cells [.int .i64 a61, .int .i64 a62, .str a63, As 2 g64 a65, .str a66, .int .i64 a67]) :: mo g64 cP a65 :: O) hq0 ok hF) hF fun x132 _ _ _ hq hF => ?_)
  obtain ⟨rfl, ok, rfl⟩ := hq
  refine Rl ?_
  refine Az rfl hF (fun hb133 hF => ?_) fun hb133 hF => ?_
  ·refine HP ?_
   refine rr ?_
   exact ⟨_, _, (.refl _), hy ok, _, Aj hF, rfl, g64, zg64, oy ok, rfl⟩
  ·refine GI ?_
   refine E1 ?_
   refine QK ?_
   refine CZ ?_
   refine BH 4 112 hF (fun J135 hb134 hF => ?_) (fun J135 hb134 hF => ?_) (fun v136 hF => ?_)
   ·refine Jt ?_
    refine cl (A4 (fun _ h hF => Gg _ _ h hF) _ hF fun x137 _ hF => ?_)
    refine NZ ?_
    refine Hh ?_
    exact tw
   ·refine LE ?_
    exact tw
   ·refine AV ?_
    refine Az rfl hF (fun hb138 hF => ?_) fun hb138 hF => ?_
    ·refine Eg ?_
     refine rr ?_
     exact ⟨_, _, (.refl _), hy ok, _, Aj hF, rfl, g64, zg64, oy ok, rfl⟩
    ·refine SE ?_
     refine rr ?_
     exact ⟨_, _, (.refl _), hy ok, _, Aj hF, rfl, g64, zg64, oy ok, rfl⟩
theorem EU (p0 : TS) (p1 : TK) (p2 : Int) (p3 : List UInt8) (q0 : Nat) (q1 : Nat) (b1_3 : Nat) {G : Int × TS × TK → Prop} (h : Heap) (O : List (Nat × AObj)) (hq0 : q0 ≠ 0) (hq1 : q1 ≠ 0) (zb1_3 : b1_3 = 0 → p1.Pairs = []) (ok : OK h ((q0, .cells [.sl 1 (List.map AH p0.b) 0, .int .i64 p0.at_]) :: (q1, .cells [.int .i64 p1.Kind, .int .i64 p1.At, .str p1.Name, As 2 b1_3 p1.Pairs, .str p1.Text, .int .i64 p1.Refs]) :: mo b1_3 cP p1.Pairs :: O)) (hF : Ap (Ax p0 p1 p2 p3) G) : CallsA Tryz.prog 80 [.ptr q0 0, .ptr q1 0, .int .i64 p2, .str p3] (Hp h ((q0, .cells [.sl 1 (List.map AH p0.b) 0, .int .i64 p0.at_]) :: (q1, .cells [.int .i64 p1.Kind, .int .i64 p1.At, .str p1.Name, As 2 b1_3 p1.Pairs, .str p1.Text, .int .i64 p1.Refs]) :: mo b1_3 cP p1.Pairs :: O)) fun d h' => ∃ r, G r ∧ d = .int .i64 r.1 ∧ ∃ b1_3' : Nat, (b1_3' = 0 → r.2.2.Pairs = []) ∧ OK h ((q0, .cells [.sl 1 (List.map AH r.2.1.b) 0, .int .i64 r.2.1.at_]) :: (q1, .cells [.int .i64 r.2.2.Kind, .int .i64 r.2.2.At, .str r.2.2.Name, As 2 b1_3' r.2.2.Pairs, .str r.2.2.Text, .int .i64 r.2.2.Refs]) :: mo b1_3' cP r.2.2.Pairs :: O) ∧ h' = Hp h ((q0, .cells [.sl 1 (List.map AH r.2.1.b) 0, .int .i64 r.2.1.at_]) :: (q1, .cells [.int .i64 r.2.2.Kind, .int .i64 r.2.2.At, .str r.2.2.Name, As 2 b1_3' r.2.2.Pairs, .str r.2.2.Text, .int .i64 r.2.2.Refs]) :: mo b1_3' cP r.2.2.Pairs :: O) := by
 refine CallsA.ret ?_
 refine CB Tryz.func80 rfl cD Tryz.ntmps80 rfl ?_
 rw [Ax] at hF
 refine Gd ?_
 refine DS ?_
 refine EP (mdl []) (by kernel_rfl) (by kernel_rfl) ?_
 refine VK ?_
 refine If ?_
 refine Gy rfl BQ C0 (ED rfl) HM hF (fun x1 _ hF => ?_)
 refine RU ?_
 refine Gm ?_
 refine HQ ?_
 refine Rh ?_
 refine cl (Qv _ hF fun x2 _ hF => ?_)
 refine Km ?_
 refine Kx ?_
 refine Az rfl hF (fun hb3 hF => ?_) fun hb3 hF => ?_
 ·refine Eg ?_
  refine rr ?_
  exact ⟨_, _, (.refl _), hy ok, _, Aj hF, rfl, b1_3, zb1_3, oy ok, rfl⟩
 ·refine Jr ?_
  refine Ux ?_
  refine Gy rfl BQ C0 I5 (ED rfl) hF (fun x4 _ hF => ?_)
  refine Rz ?_
  refine GH ?_
  refine DA rfl KC AO ?_
  refine Ck (j := 1) (cs' := [.int .i64 p1.Kind, .int .i64 p1.At, .str p1.Name, As 2 b1_3 p1.Pairs, .str x4, .int .i64 p1.Refs]) ok rfl rfl rfl hq1 rfl AO rfl rfl (fun ok => ?_)
  refine Hw ?_
  refine OB ?_
  refine Eb ?_
  refine If ?_
  refine UW ?_
  refine HW ?_
  refine QJ ?_
  refine Ck (j := 0) (cs' := [.sl 1 (List.map AH p0.b) 0, .int .i64 (IntKind.wrap .i64 (p0.at_ + (IntKind.wrap .i64 ((IntKind.wrap .i64 (p2 + x2)) + (p3.length : Int)))))]) ok rfl rfl rfl hq0 rfl Bb rfl rfl (fun ok => ?_)
  refine AV ?_
  refine Eg ?_
  refine rr ?_
  exact ⟨_, _, (.refl _), hy ok, _, Aj hF, rfl, b1_3, zb1_3, oy ok, rfl⟩
theorem Gk (p0 : Int) {G : Bool → Prop} (h : Heap) (hF : Ap (D6 p0) G) : CallsA Tryz.prog 103 [.int .i32 p0] h fun d h' => ∃ r, G r ∧ d = .bool r ∧ h' = h := by
 refine CallsA.ret ?_
 refine B2 Tryz.func103 rfl bR Tryz.ntmps103 rfl (fun ok => ?_)
 rw [D6] at hF
 refine Nq ?_
 refine Iq ?_
 refine Kx ?_
 refine Az rfl hF (fun hb1 hF => ?_) fun hb1 hF => ?_
 ·refine Eh ?_
  refine UR ?_
  refine Cu (b := (decide ((97 : Int) ≤ p0))) 3 10 (.bool ((decide ((97 : Int) ≤ p0)) && (decide (p0 ≤ (122 : Int))))) (fun hb2 => ?_) (fun hb2 => ?_) ?_
  ·refine Vz ?_
   exact th
  ·refine H0 ?_
   exact th
  refine CZ ?_
  refine Cu (b := ((decide ((97 : Int) ≤ p0)) && (decide (p0 ≤ (122 : Int))))) 7 18 (.bool (((decide ((97 : Int) ≤ p0)) && (decide (p0 ≤ (122 : Int)))) || ((decide ((65 : Int) ≤ p0)) && (decide (p0 ≤ (90 : Int)))))) (fun hb3 => ?_) (fun hb3 => ?_) ?_
  ·refine Qz ?_
   refine UM ?_
   refine Jq ?_
   exact th
  ·refine Ja ?_
   refine Mk ?_
   refine Ry ?_
   refine Cu (b := (decide ((65 : Int) ≤ p0))) 3 17 (.bool ((decide ((65 : Int) ≤ p0)) && (decide (p0 ≤ (90 : Int))))) (fun hb5 => ?_) (fun hb5 => ?_) ?_
   ·refine b4 ?_
    refine VH ?_
    exact th
   ·refine NJ ?_
    refine SX ?_
    exact th
   refine LP ?_
   exact th
  refine CZ ?_
  refine Cu (b := (((decide ((97 : Int) ≤ p0)) && (decide (p0 ≤ (122 : Int)))) || ((decide ((65 : Int) ≤ p0)) && (decide (p0 ≤ (90 : Int)))))) 3 22 (.bool ((((decide ((97 : Int) ≤ p0)) && (decide (p0 ≤ (122 : Int)))) || ((decide ((65 : Int) ≤ p0)) && (decide (p0 ≤ (90 : Int))))) || (p0 == (95 : Int)))) (fun hb6 => ?_) (fun hb6 => ?_) ?_
  ·refine NI ?_
   exact th
  ·refine VU ?_
   exact th
  refine GM ?_
  exact rt
 ·refine Co ?_
  refine Eh ?_
  refine CS (v := .agg (A3 (⟨(192 : Int), (214 : Int)⟩ : Ah))) (Ek CV C7 rfl) ?_
  refine CS (v := .agg (A3 (⟨(216 : Int), (246 : Int)⟩ : Ah))) (Ek CV C7 rfl) ?_
  refine CS (v := .agg (A3 (⟨(248 : Int), (767 : Int)⟩ : Ah))) (Ek CV C7 rfl) ?_
  refine CS (v := .agg (A3 (⟨(880 : Int), (893 : Int)⟩ : Ah))) (Ek CV C7 rfl) ?_
  refine CS (v := .agg (A3 (⟨(895 : Int), (8191 : Int)⟩ : Ah))) (Ek CV C7 rfl) ?_
  refine CS (v := .agg (A3 (⟨(8204 : Int), (8205 : Int)⟩ : Ah))) (Ek CV C7 rfl) ?_
  refine CS (v := .agg (A3 (⟨(8304 : Int), (8591 : Int)⟩ : Ah))) (Ek CV C7 rfl) ?_
  refine CS (v := .agg (A3 (⟨(11264 : Int), (12271 : Int)⟩ : Ah))) (Ek CV C7 rfl) ?_
  refine CS (v := .agg (A3 (⟨(12289 : Int), (55295 : Int)⟩ : Ah))) (Ek CV C7 rfl) ?_
  refine CS (v := .agg (A3 (⟨(63744 : Int), (64975 : Int)⟩ : Ah))) (Ek CV C7 rfl) ?_
  refine CS (v := .agg (A3 (⟨(65008 : Int), (65533 : Int)⟩ : Ah))) (Ek CV C7 rfl) ?_
  refine CS (v := .agg (A3 (⟨(65536 : Int), (983039 : Int)⟩ : Ah))) (Ek CV C7 rfl) ?_
  refine Fk (cs := [.int .i32 (⟨(192 : Int), (214 : Int)⟩ : Ah).lo, .int .i32 (⟨(192 : Int), (214 : Int)⟩ : Ah).hi, .int .i32 (⟨(216 : Int), (246 : Int)⟩ : Ah).lo, .int .i32 (⟨(216 : Int), (246 : Int)⟩ : Ah).hi, .int .i32 (⟨(248 : Int), (767 : Int)⟩ : Ah).lo, .int .i32 (⟨(248 : Int), (767 : Int)⟩ : Ah).hi, .int .i32 (⟨(880 : Int), (893 : Int)⟩ : Ah).lo, .int .i32 (⟨(880 : Int), (893 : Int)⟩ : Ah).hi, .int .i32 (⟨(895 : Int), (8191 : Int)⟩ : Ah).lo, .int .i32 (⟨(895 : Int), (8191 : Int)⟩ : Ah).hi, .int .i32 (⟨(8204 : Int), (8205 : Int)⟩ : Ah).lo, .int .i32 (⟨(8204 : Int), (8205 : Int)⟩ : Ah).hi, .int .i32 (⟨(8304 : Int), (8591 : Int)⟩ : Ah).lo, .int .i32 (⟨(8304 : Int), (8591 : Int)⟩ : Ah).hi, .int .i32 (⟨(11264 : Int), (12271 : Int)⟩ : Ah).lo, .int .i32 (⟨(11264 : Int), (12271 : Int)⟩ : Ah).hi, .int .i32 (⟨(12289 : Int), (55295 : Int)⟩ : Ah).lo, .int .i32 (⟨(12289 : Int), (55295 : Int)⟩ : Ah).hi, .int .i32 (⟨(63744 : Int), (64975 : Int)⟩ : Ah).lo, .int .i32 (⟨(63744 : Int), (64975 : Int)⟩ : Ah).hi, .int .i32 (⟨(65008 : Int), (65533 : Int)⟩ : Ah).lo, .int .i32 (⟨(65008 : Int), (65533 : Int)⟩ : Ah).hi, .int .i32 (⟨(65536 : Int), (983039 : Int)⟩ : Ah).lo, .int .i32 (⟨(65536 : Int), (983039 : Int)⟩ : Ah).hi]) (es := (List.map A3 [(⟨(192 : Int), (214 : Int)⟩ : Ah), (⟨(216 : Int), (246 : Int)⟩ : Ah), (⟨(248 : Int), (767 : Int)⟩ : Ah), (⟨(880 : Int), (893 : Int)⟩ : Ah), (⟨(895 : Int), (8191 : Int)⟩ : Ah), (⟨(8204 : Int), (8205 : Int)⟩ : Ah), (⟨(8304 : Int), (8591 : Int)⟩ : Ah), (⟨(11264 : Int), (12271 : Int)⟩ : Ah), (⟨(12289 : Int), (55295 : Int)⟩ : Ah), (⟨(63744 : Int), (64975 : Int)⟩ : Ah), (⟨(65008 : Int), (65533 : Int)⟩ : Ah), (⟨(65536 : Int), (983039 : Int)⟩ : Ah)])) rfl LC rfl (by kernel_rfl) (by kernel_rfl) ?_
  refine cl (A4 (fun _ h hF => Jo _ _ h hF) _ hF fun x7 _ hF => ?_)
  refine GM ?_
  exact rt
theorem I3 (p0 : Int) {G : Bool → Prop} (h : Heap) (hF : Ap (ER p0) G) : CallsA Tryz.prog 104 [.int .i32 p0] h fun d h' => ∃ r, G r ∧ d = .bool r ∧ h' = h := by
 refine CallsA.ret ?_
 refine B2 Tryz.func104 rfl ZX Tryz.ntmps104 rfl (fun ok => ?_)
 rw [ER] at hF
 refine Nq ?_
 refine Eh ?_
 refine cl (A4 (fun _ h hF => Gk _ h hF) _ hF fun x1 _ hF => ?_)
 refine CZ ?_
 refine Cu (b := x1) 3 8 (.bool (x1 || (p0 == (45 : Int)))) (fun hb2 => ?_) (fun hb2 => ?_) ?_
 ·refine NI ?_
  exact th
 ·refine VU ?_
  exact th
 refine CZ ?_
 refine Cu (b := (x1 || (p0 == (45 : Int)))) 3 12 (.bool ((x1 || (p0 == (45 : Int))) || (p0 == (46 : Int)))) (fun hb3 => ?_) (fun hb3 => ?_) ?_
 ·refine NI ?_
  exact th
 ·refine VU ?_
  exact th
 refine CZ ?_
 refine Cu (b := ((x1 || (p0 == (45 : Int))) || (p0 == (46 : Int)))) 7 20 (.bool (((x1 || (p0 == (45 : Int))) || (p0 == (46 : Int))) || ((decide ((48 : Int) ≤ p0)) && (decide (p0 ≤ (57 : Int)))))) (fun hb4 => ?_) (fun hb4 => ?_) ?_
 ·refine Qz ?_
  refine UM ?_
  refine Jq ?_
  exact th
 ·refine Ja ?_
  refine Mk ?_
  refine Ry ?_
  refine Cu (b := (decide ((48 : Int) ≤ p0))) 3 19 (.bool ((decide ((48 : Int) ≤ p0)) && (decide (p0 ≤ (57 : Int))))) (fun hb6 => ?_) (fun hb6 => ?_) ?_
  ·refine b4 ?_
   refine VH ?_
   exact th
  ·refine NJ ?_
   refine SX ?_
   exact th
  refine LP ?_
  exact th
 refine CZ ?_
 refine Cu (b := (((x1 || (p0 == (45 : Int))) || (p0 == (46 : Int))) || ((decide ((48 : Int) ≤ p0)) && (decide (p0 ≤ (57 : Int)))))) 3 24 (.bool ((((x1 || (p0 == (45 : Int))) || (p0 == (46 : Int))) || ((decide ((48 : Int) ≤ p0)) && (decide (p0 ≤ (57 : Int))))) || (p0 == (183 : Int)))) (fun hb7 => ?_) (fun hb7 => ?_) ?_
 ·refine NI ?_
  exact th
 ·refine VU ?_
  exact th
 refine CZ ?_
 refine BH 6 31 hF (fun J9 hb8 hF => ?_) (fun J9 hb8 hF => ?_) (fun v10 hF => ?_)
 ·refine VL ?_
  refine Jq ?_
  exact tw
 ·refine Ja ?_
  refine CS (v := .agg (A3 (⟨(768 : Int), (879 : Int)⟩ : Ah))) (Ek CV C7 rfl) ?_
  refine A2 ?_
  refine CS (v := .agg (A3 (⟨(8255 : Int), (8256 : Int)⟩ : Ah))) (Ek CV C7 rfl) ?_
  refine A2 ?_
  refine Fk (cs := [.int .i32 (⟨(768 : Int), (879 : Int)⟩ : Ah).lo, .int .i32 (⟨(768 : Int), (879 : Int)⟩ : Ah).hi, .int .i32 (⟨(8255 : Int), (8256 : Int)⟩ : Ah).lo, .int .i32 (⟨(8255 : Int), (8256 : Int)⟩ : Ah).hi]) (es := (List.map A3 [(⟨(768 : Int), (879 : Int)⟩ : Ah), (⟨(8255 : Int), (8256 : Int)⟩ : Ah)])) rfl LC rfl (by kernel_rfl) (by kernel_rfl) ?_
  refine A2 ?_
  refine cl (A4 (fun _ h hF => Jo _ _ h hF) _ hF fun x11 _ hF => ?_)
  refine Hy ?_
  exact tw
 ·refine GM ?_
  exact rt
theorem Gs (p0 : List UInt8) {G : Bool → Prop} (h : Heap) (hF : Ap (Eo p0) G) : CallsA Tryz.prog 68 [.str p0] h fun d h' => ∃ r, G r ∧ d = .bool r ∧ h' = h := by
 refine CallsA.ret ?_
 refine B2 Tryz.func68 rfl cy Tryz.ntmps68 rfl (fun ok => ?_)
 rw [Eo] at hF
 refine U4 ?_
 refine QB ?_
 refine CZ ?_
 refine Cu (b := (p0 == ([] : List UInt8))) 4 11 (.bool ((p0 == ([] : List UInt8)) || (decide ((100 : Int) < (p0.length : Int))))) (fun hb1 => ?_) (fun hb1 => ?_) ?_
 ·refine Oe ?_
  exact th
 ·refine Jt ?_
  refine PE ?_
  refine QF ?_
  refine Hy ?_
  exact th
 refine CZ ?_
 refine BH 4 16 hF (fun J3 hb2 hF => ?_) (fun J3 hb2 hF => ?_) (fun v4 hF => ?_)
 ·refine Oe ?_
  exact tw
 ·refine Jt ?_
  refine cl (LM _ hF fun x5 _ hF => ?_)
  refine NZ ?_
  refine Hy ?_
  exact tw
 ·refine AV ?_
  refine Az rfl hF (fun hb6 hF => ?_) fun hb6 hF => ?_
  ·refine HK ?_
   exact rt
  ·refine Co ?_
   refine Bf hF (fun (_ : Unit) s' => OK h [] ∧ WS s' ⟨Ak 35 [], Hp h []⟩) (fun J18 hF => ?_) ?_
   ·refine E1 ?_
    refine ZF ok rfl Di ?_
    intro i19 hi19 ok
    refine VS ?_
    refine Cp (σ := Nat) hF (fun (a20 : Nat) s' => OK h [(i19, .iter p0 a20)] ∧ WS s' ⟨Ak 35 [(18, .ptr i19 0)], Hp h [(i19, .iter p0 a20)]⟩) ?_ ?_
    ·exact ⟨oy ok, wy ok⟩
    ·rintro G21 hG22 rec23 a20 s' ih24 hF ⟨ok, hws⟩
     refine AQ hws ?_
     clear hws s'
     rw [E4] at hF
     refine Bz ?_
     refine ZM (j := 0) ok rfl rfl hi19 hF (fun _ ok hF => ?_) (fun hF => ?_)
     ·refine Ot ?_
      refine GQ ?_
      refine Wm rfl rfl ?_
      refine K8 ?_
      refine Bz ?_
      refine XO ?_
      refine HX ?_
      refine Eh ?_
      refine Ib ?_
      refine BH 4 29 hF (fun J26 hb25 hF => ?_) (fun J26 hb25 hF => ?_) (fun v27 hF => ?_)
      ·refine Ja ?_
       refine cl (A4 (fun _ h hF => Gk _ h hF) _ hF fun x28 _ hF => ?_)
       refine NZ ?_
       refine Hh ?_
       exact tw
      ·refine LE ?_
       exact tw
      ·refine CZ ?_
       refine BH 4 34 hF (fun J30 hb29 hF => ?_) (fun J30 hb29 hF => ?_) (fun v31 hF => ?_)
       ·refine Oe ?_
        exact tw
       ·refine Ja ?_
        refine cl (A4 (fun _ h hF => I3 _ h hF) _ hF fun x32 _ hF => ?_)
        refine NZ ?_
        refine Hy ?_
        exact tw
       ·refine AV ?_
        refine Az rfl hF (fun hb33 hF => ?_) fun hb33 hF => ?_
        ·refine HK ?_
         replace hF := hG22 _ (Aj hF)
         exact rt
        ·refine Co ?_
         refine ih24 (a20 + wdS p0 a20) _ hF ?_
         exact ⟨oy ok, wy ok⟩
     ·refine Ot ?_
      refine GQ ?_
      refine V7 rfl rfl ?_
      refine DT ?_
      replace hF := hG22 _ (Aj hF)
      exact ⟨(), hF, oy ok, wy ok⟩
   ·rintro ⟨⟩ s' hF ⟨ok, hws⟩
    refine AQ hws ?_
    clear hws s'
    refine HK ?_
    exact rt
theorem F7 (p0 : List UInt8) {G : (List UInt8) × (List UInt8) × Bool → Prop} (h : Heap) (hF : Ap (CH p0) G) : CallsA Tryz.prog 136 [.str p0] h fun d h' => ∃ r, G r ∧ d = .tup [.str r.1, .str r.2.1, .bool r.2.2] ∧ h' = h := by
 refine CallsA.ret ?_
 refine B2 Tryz.func136 rfl bj Tryz.ntmps136 rfl (fun ok => ?_)
 rw [CH] at hF
 refine Bz ?_
 refine S_a (v := .str ([] : List UInt8)) rfl ?_
 refine S_a (v := .str ([] : List UInt8)) rfl ?_
 refine D7 ?_
 refine E1 ?_
 refine cl (XB _ hF fun x1 _ hF => ?_)
 refine Vh ?_
 refine Ov ?_
 refine RQ ?_
 refine Kh ?_
 refine P1 ?_
 refine CZ ?_
 refine BH 3 18 hF (fun J3 hb2 hF => ?_) (fun J3 hb2 hF => ?_) (fun v4 hF => ?_)
 ·refine Jt ?_
  refine cl (A4 (fun _ h hF => Gs _ h hF) _ hF fun x5 _ hF => ?_)
  refine Hh ?_
  exact tw
 ·refine H0 ?_
  exact tw
 ·refine D7 ?_
  refine Az rfl hF (fun hb6 hF => ?_) fun hb6 hF => ?_
  ·refine E1 ?_
   refine S_a (v := .str ([] : List UInt8)) rfl ?_
   refine S6 ?_
   exact rt
  ·refine Kh ?_
   refine CZ ?_
   refine BH 3 25 hF (fun J8 hb7 hF => ?_) (fun J8 hb7 hF => ?_) (fun v9 hF => ?_)
   ·refine Jt ?_
    refine cl (A4 (fun _ h hF => Gs _ h hF) _ hF fun x10 _ hF => ?_)
    refine Hh ?_
    exact tw
   ·refine H0 ?_
    exact tw
   ·refine CZ ?_
    refine BH 3 29 hF (fun J12 hb11 hF => ?_) (fun J12 hb11 hF => ?_) (fun v13 hF => ?_)
    ·refine Jt ?_
     refine cl (A4 (fun _ h hF => Gs _ h hF) _ hF fun x14 _ hF => ?_)
     refine Hh ?_
     exact tw
    ·refine H0 ?_
     exact tw
    ·refine D7 ?_
     refine Az rfl hF (fun hb15 hF => ?_) fun hb15 hF => ?_
     ·refine Qt ?_
      refine Ir ?_
      refine S6 ?_
      exact rt
     ·refine Co ?_
      refine Bz ?_
      refine S_a (v := .str ([] : List UInt8)) rfl ?_
      refine S_a (v := .str ([] : List UInt8)) rfl ?_
      refine GM ?_
      exact rt
theorem Ea (p0 : TS) (q0 : Nat) {G : ((List UInt8) × Int) × TS → Prop} (h : Heap) (O : List (Nat × AObj)) (hq0 : q0 ≠ 0) (ok : OK h ((q0, .cells [.sl 1 (List.map AH p0.b) 0, .int .i64 p0.at_]) :: O)) (hF : Ap (AM p0) G) : CallsA Tryz.prog 122 [.ptr q0 0] (Hp h ((q0, .cells [.sl 1 (List.map AH p0.b) 0, .int .i64 p0.at_]) :: O)) fun d h' => ∃ r, G r ∧ d = .tup [.str r.1.1, .int .i64 r.1.2] ∧ OK h ((q0, .cells [.sl 1 (List.map AH r.2.b) 0, .int .i64 r.2.at_]) :: O) ∧ h' = Hp h ((q0, .cells [.sl 1 (List.map AH r.2.b) 0, .int .i64 r.2.at_]) :: O) := by
 refine CallsA.ret ?_
 refine CB Tryz.func122 rfl aP Tryz.ntmps122 rfl ?_
 rw [AM] at hF
 refine Bz ?_
 refine S_a (v := .str ([] : List UInt8)) rfl ?_
 refine EV ?_
 refine FW ?_
 refine OB ?_
 refine EV ?_
 refine Bf hF (fun (a17 : Int) s' => OK h ((q0, .cells [.sl 1 (List.map AH p0.b) 0, .int .i64 p0.at_]) :: O) ∧ WS s' ⟨Ak 81 [(0, .ptr q0 0), (4, .int .i64 a17)], Hp h ((q0, .cells [.sl 1 (List.map AH p0.b) 0, .int .i64 p0.at_]) :: O)⟩) (fun J18 hF => ?_) ?_
 ·refine Fe ?_
  refine Cp (σ := Int) hF (fun (a19 : Int) s' => OK h ((q0, .cells [.sl 1 (List.map AH p0.b) 0, .int .i64 p0.at_]) :: O) ∧ WS s' ⟨Ak 81 [(0, .ptr q0 0), (4, .int .i64 a19)], Hp h ((q0, .cells [.sl 1 (List.map AH p0.b) 0, .int .i64 p0.at_]) :: O)⟩) ?_ ?_
  ·exact ⟨oy ok, wy ok⟩
  ·rintro G20 hG21 rec22 a19 s' ih23 hF ⟨ok, hws⟩
   refine AQ hws ?_
   clear hws s'
   rw [AC] at hF
   refine Iq ?_
   refine Z4 ?_
   refine JV ?_
   refine Kx ?_
   refine Az rfl hF (fun hb24 hF => ?_) fun hb24 hF => ?_
   ·refine K8 ?_
    refine On ?_
    refine aI ?_
    refine Eb ?_
    refine Gy rfl BQ C0 (ED rfl) HM hF (fun x25 _ hF => ?_)
    refine cl (I1 _ hF fun x26 _ hF => ?_)
    refine GL ?_
    refine RN ?_
    refine SQ ?_
    refine BH 17 51 hF (fun J28 hb27 hF => ?_) (fun J28 hb27 hF => ?_) (fun v29 hF => ?_)
    ·refine Ja ?_
     refine cl (A4 (fun _ h hF => I3 _ h hF) _ hF fun x30 _ hF => ?_)
     refine NZ ?_
     refine Ry ?_
     refine BH 12 50 hF (fun J32 hb31 hF => ?_) (fun J32 hb31 hF => ?_) (fun v33 hF => ?_)
     ·refine FA ?_
      refine Qz ?_
      refine Mx ?_
      refine Zo ?_
      refine Sf ?_
      refine Hs ?_
      refine YY ?_
      exact tw
     ·refine Ja ?_
      refine dH ?_
      refine ZW ?_
      refine dO ?_
      refine cv ?_
      refine Yw ?_
      refine Ry ?_
      refine BH 4 49 hF (fun J35 hb34 hF => ?_) (fun J35 hb34 hF => ?_) (fun v36 hF => ?_)
      ·refine Ja ?_
       refine cl (A4 (fun _ h hF => Gk _ h hF) _ hF fun x37 _ hF => ?_)
       refine NZ ?_
       refine VH ?_
       exact tw
      ·refine Qz ?_
       refine SX ?_
       exact tw
      ·refine SX ?_
       exact tw
     ·refine Jq ?_
      exact tw
    ·refine FA ?_
     refine Mx ?_
     refine Mx ?_
     refine Mx ?_
     refine Mx ?_
     refine Mx ?_
     refine Zo ?_
     refine Sf ?_
     refine LP ?_
     exact tw
    ·refine AV ?_
     refine Az rfl hF (fun hb38 hF => ?_) fun hb38 hF => ?_
     ·refine DT ?_
      replace hF := hG21 _ (Aj hF)
      exact ⟨a19, hF, oy ok, wy ok⟩
     ·refine Co ?_
      refine P8 ?_
      refine Wh ?_
      refine ih23 (IntKind.wrap .i64 (a19 + x26.2)) _ hF ?_
      exact ⟨oy ok, wy ok⟩
   ·refine DT ?_
    replace hF := hG21 _ (Aj hF)
    exact ⟨a19, hF, oy ok, wy ok⟩
 ·rintro a17 s' hF ⟨ok, hws⟩
  refine AQ hws ?_
  clear hws s'
  refine DS ?_
  refine EP (mdl []) (by kernel_rfl) (by kernel_rfl) ?_
  refine VK ?_
  refine Eb ?_
  refine Gy rfl BQ C0 (ED rfl) (ED rfl) hF (fun x39 _ hF => ?_)
  refine Rz ?_
  refine Ir ?_
  refine GQ ?_
  refine QB ?_
  refine AV ?_
  refine Az rfl hF (fun hb40 hF => ?_) fun hb40 hF => ?_
  ·refine Bz ?_
   refine S_a (v := .str ([] : List UInt8)) rfl ?_
   refine EZ ?_
   refine rr ?_
   exact ⟨_, _, (.tupC (.refl _)), hy ok, _, Aj hF, rfl, oy ok, rfl⟩
  ·refine GI ?_
   refine E1 ?_
   refine cl (A4 (fun _ h hF => F7 _ h hF) _ hF fun x41 _ hF => ?_)
   refine Vh ?_
   refine Ov ?_
   refine Kh ?_
   refine Mt ?_
   refine Az rfl hF (fun hb42 hF => ?_) fun hb42 hF => ?_
   ·refine Bz ?_
    refine S_a (v := .str ([] : List UInt8)) rfl ?_
    refine EZ ?_
    refine rr ?_
    exact ⟨_, _, (.tupC (.refl _)), hy ok, _, Aj hF, rfl, oy ok, rfl⟩
   ·refine Jr ?_
    refine Eb ?_
    refine KH ?_
    refine Ck (j := 0) (cs' := [.sl 1 (List.map AH p0.b) 0, .int .i64 a17]) ok rfl rfl rfl hq0 rfl Bb rfl rfl (fun ok => ?_)
    refine AV ?_
    refine E1 ?_
    refine Ir ?_
    refine EZ ?_
    refine rr ?_
    exact ⟨_, _, (.tupC (.refl _)), hy ok, _, Aj hF, rfl, oy ok, rfl⟩
theorem IH (p0 : TS) (p1 : TK) (q0 : Nat) (q1 : Nat) (b1_3 : Nat) {G : Int × TS × TK → Prop} (h : Heap) (O : List (Nat × AObj)) (hq0 : q0 ≠ 0) (hq1 : q1 ≠ 0) (zb1_3 : b1_3 = 0 → p1.Pairs = []) (ok : OK h ((q0, .cells [.sl 1 (List.map AH p0.b) 0, .int .i64 p0.at_]) :: (q1, .cells [.int .i64 p1.Kind, .int .i64 p1.At, .str p1.Name, As 2 b1_3 p1.Pairs, .str p1.Text, .int .i64 p1.Refs]) :: mo b1_3 cP p1.Pairs :: O)) (hF : Ap (AI p0 p1) G) : CallsA Tryz.prog 82 [.ptr q0 0, .ptr q1 0] (Hp h ((q0, .cells [.sl 1 (List.map AH p0.b) 0, .int .i64 p0.at_]) :: (q1, .cells [.int .i64 p1.Kind, .int .i64 p1.At, .str p1.Name, As 2 b1_3 p1.Pairs, .str p1.Text, .int .i64 p1.Refs]) :: mo b1_3 cP p1.Pairs :: O)) fun d h' => ∃ r, G r ∧ d = .int .i64 r.1 ∧ ∃ b1_3' : Nat, (b1_3' = 0 → r.2.2.Pairs = []) ∧ OK h ((q0, .cells [.sl 1 (List.map AH r.2.1.b) 0, .int .i64 r.2.1.at_]) :: (q1, .cells [.int .i64 r.2.2.Kind, .int .i64 r.2.2.At, .str r.2.2.Name, As 2 b1_3' r.2.2.Pairs, .str r.2.2.Text, .int .i64 r.2.2.Refs]) :: mo b1_3' cP r.2.2.Pairs :: O) ∧ h' = Hp h ((q0, .cells [.sl 1 (List.map AH r.2.1.b) 0, .int .i64 r.2.1.at_]) :: (q1, .cells [.int .i64 r.2.2.Kind, .int .i64 r.2.2.At, .str r.2.2.Name, As 2 b1_3' r.2.2.Pairs, .str r.2.2.Text, .int .i64 r.2.2.Refs]) :: mo b1_3' cP r.2.2.Pairs :: O) := by
 refine CallsA.ret ?_
 refine CB Tryz.func82 rfl cO Tryz.ntmps82 rfl ?_
 rw [AI] at hF
 refine Gd ?_
 refine R6 ?_
 refine Ck (j := 1) (cs' := [.int .i64 (8 : Int), .int .i64 p1.At, .str p1.Name, As 2 b1_3 p1.Pairs, .str p1.Text, .int .i64 p1.Refs]) ok rfl rfl rfl hq1 rfl Bb rfl rfl (fun ok => ?_)
 refine Hw ?_
 refine OB ?_
 refine QJ ?_
 refine Ck (j := 0) (cs' := [.sl 1 (List.map AH p0.b) 0, .int .i64 (IntKind.wrap .i64 (p0.at_ + (2 : Int)))]) ok rfl rfl rfl hq0 rfl Bb rfl rfl (fun ok => ?_)
 refine Hw ?_
 refine cl (okT (fun _ hF => Ea (p0 := (⟨p0.b, (IntKind.wrap .i64 (p0.at_ + (2 : Int)))⟩ : TS)) (q0 := q0) h ((q1, .cells [.int .i64 (8 : Int), .int .i64 p1.At, .str p1.Name, As 2 b1_3 p1.Pairs, .str p1.Text, .int .i64 p1.Refs]) :: mo b1_3 cP p1.Pairs :: O) hq0 ok hF) hF fun x1 _ _ _ hq hF => ?_)
 obtain ⟨rfl, ok, rfl⟩ := hq
 refine GL ?_
 refine Ir ?_
 refine Mw ?_
 refine Fe ?_
 refine Eh ?_
 refine Vx ?_
 refine D7 ?_
 refine Az rfl hF (fun hb2 hF => ?_) fun hb2 hF => ?_
 ·refine HP ?_
  refine rr ?_
  exact ⟨_, _, (.refl _), hy ok, _, Aj hF, rfl, b1_3, zb1_3, oy ok, rfl⟩
 ·refine E1 ?_
  refine cl (A4 (fun _ h hF => Gs _ h hF) _ hF fun x3 _ hF => ?_)
  refine P1 ?_
  refine D7 ?_
  refine Az rfl hF (fun hb4 hF => ?_) fun hb4 hF => ?_
  ·refine Eg ?_
   refine rr ?_
   exact ⟨_, _, (.refl _), hy ok, _, Aj hF, rfl, b1_3, zb1_3, oy ok, rfl⟩
  ·refine E1 ?_
   refine cl (A4 (fun _ h hF => Gg _ _ h hF) _ hF fun x5 _ hF => ?_)
   refine D7 ?_
   refine Az rfl hF (fun hb6 hF => ?_) fun hb6 hF => ?_
   ·refine Eg ?_
    refine rr ?_
    exact ⟨_, _, (.refl _), hy ok, _, Aj hF, rfl, b1_3, zb1_3, oy ok, rfl⟩
   ·refine Jr ?_
    refine HQ ?_
    refine GH ?_
    refine DA rfl IN AO ?_
    refine Ck (j := 1) (cs' := [.int .i64 (8 : Int), .int .i64 p1.At, .str x1.1.1, As 2 b1_3 p1.Pairs, .str p1.Text, .int .i64 p1.Refs]) ok rfl rfl rfl hq1 rfl AO rfl rfl (fun ok => ?_)
    refine GQ ?_
    refine FW ?_
    refine cl (okT (fun _ hF => AW _ (p0 := x1.2) (q0 := q0) h ((q1, .cells [.int .i64 (8 : Int), .int .i64 p1.At, .str x1.1.1, As 2 b1_3 p1.Pairs, .str p1.Text, .int .i64 p1.Refs]) :: mo b1_3 cP p1.Pairs :: O) hq0 ok hF) hF fun x7 _ _ _ hq hF => ?_)
    obtain ⟨rfl, ok, rfl⟩ := hq
    refine AV ?_
    refine Az rfl hF (fun hb8 hF => ?_) fun hb8 hF => ?_
    ·refine FW ?_
     refine cl (okT (fun _ hF => Cv _ (p0 := x1.2) (q0 := q0) h ((q1, .cells [.int .i64 (8 : Int), .int .i64 p1.At, .str x1.1.1, As 2 b1_3 p1.Pairs, .str p1.Text, .int .i64 p1.Refs]) :: mo b1_3 cP p1.Pairs :: O) hq0 ok hF) hF fun x9 _ _ _ hq hF => ?_)
     obtain ⟨rfl, ok, rfl⟩ := hq
     refine EZ ?_
     refine rr ?_
     exact ⟨_, _, (.refl _), hy ok, _, Aj hF, rfl, b1_3, zb1_3, oy ok, rfl⟩
    ·refine Jr ?_
     refine Pn ?_
     refine cl (okT (fun _ hF => B0 _ (p0 := x1.2) (q0 := q0) h ((q1, .cells [.int .i64 (8 : Int), .int .i64 p1.At, .str x1.1.1, As 2 b1_3 p1.Pairs, .str p1.Text, .int .i64 p1.Refs]) :: mo b1_3 cP p1.Pairs :: O) hq0 ok hF) hF fun x10 _ _ _ hq hF => ?_)
     obtain ⟨rfl, ok, rfl⟩ := hq
     refine Km ?_
     refine Pn ?_
     refine Mn ?_
     refine Az rfl hF (fun hb11 hF => ?_) fun hb11 hF => ?_
     ·refine Eg ?_
      refine rr ?_
      exact ⟨_, _, (.refl _), hy ok, _, Aj hF, rfl, b1_3, zb1_3, oy ok, rfl⟩
     ·refine Jr ?_
      refine Eb ?_
      refine KH ?_
      refine Ck (j := 0) (cs' := [.sl 1 (List.map AH x1.2.b) 0, .int .i64 x10]) ok rfl rfl rfl hq0 rfl Bb rfl rfl (fun ok => ?_)
      refine Hw ?_
      refine HS ?_
      obtain ⟨hpe, ok⟩ := A6 2 ok rfl
      rw [hpe]; clear hpe
      obtain ⟨hpe, ok⟩ := A6 2 ok rfl
      rw [hpe]; clear hpe
      obtain ⟨hpe, ok⟩ := A6 2 ok rfl
      rw [hpe]; clear hpe
      refine cl (okT (fun _ hF => EU _ _ (p0 := (⟨x1.2.b, x10⟩ : TS)) (p1 := (⟨(8 : Int), p1.At, x1.1.1, p1.Pairs, p1.Text, p1.Refs⟩ : TK)) (q0 := q0) (q1 := q1) (b1_3 := b1_3) h (O) hq0 hq1 zb1_3 ok hF) hF fun x12 _ _ _ hq hF => ?_)
      obtain ⟨rfl, u13, zu13, ok, rfl⟩ := hq
      refine EZ ?_
      refine rr ?_
      exact ⟨_, _, (.refl _), hy ok, _, Aj hF, rfl, u13, zu13, oy ok, rfl⟩
theorem HY (p0 : TS) (p1 : TK) (q0 : Nat) (q1 : Nat) (b1_3 : Nat) {G : Int × TS × TK → Prop} (h : Heap) (O : List (Nat × AObj)) (hq0 : q0 ≠ 0) (hq1 : q1 ≠ 0) (zb1_3 : b1_3 = 0 → p1.Pairs = []) (ok : OK h ((q0, .cells [.sl 1 (List.map AH p0.b) 0, .int .i64 p0.at_]) :: (q1, .cells [.int .i64 p1.Kind, .int .i64 p1.At, .str p1.Name, As 2 b1_3 p1.Pairs, .str p1.Text, .int .i64 p1.Refs]) :: mo b1_3 cP p1.Pairs :: O)) (hF : Ap (AL p0 p1) G) : CallsA Tryz.prog 83 [.ptr q0 0, .ptr q1 0] (Hp h ((q0, .cells [.sl 1 (List.map AH p0.b) 0, .int .i64 p0.at_]) :: (q1, .cells [.int .i64 p1.Kind, .int .i64 p1.At, .str p1.Name, As 2 b1_3 p1.Pairs, .str p1.Text, .int .i64 p1.Refs]) :: mo b1_3 cP p1.Pairs :: O)) fun d h' => ∃ r, G r ∧ d = .int .i64 r.1 ∧ ∃ b1_3' : Nat, (b1_3' = 0 → r.2.2.Pairs = []) ∧ OK h ((q0, .cells [.sl 1 (List.map AH r.2.1.b) 0, .int .i64 r.2.1.at_]) :: (q1, .cells [.int .i64 r.2.2.Kind, .int .i64 r.2.2.At, .str r.2.2.Name, As 2 b1_3' r.2.2.Pairs, .str r.2.2.Text, .int .i64 r.2.2.Refs]) :: mo b1_3' cP r.2.2.Pairs :: O) ∧ h' = Hp h ((q0, .cells [.sl 1 (List.map AH r.2.1.b) 0, .int .i64 r.2.1.at_]) :: (q1, .cells [.int .i64 r.2.2.Kind, .int .i64 r.2.2.At, .str r.2.2.Name, As 2 b1_3' r.2.2.Pairs, .str r.2.2.Text, .int .i64 r.2.2.Refs]) :: mo b1_3' cP r.2.2.Pairs :: O) := by
 refine CallsA.ret ?_
 refine CB Tryz.func83 rfl dW Tryz.ntmps83 rfl ?_
 rw [AL] at hF
 refine Gd ?_
 refine R6 ?_
 refine Ck (j := 1) (cs' := [.int .i64 (3 : Int), .int .i64 p1.At, .str p1.Name, As 2 b1_3 p1.Pairs, .str p1.Text, .int .i64 p1.Refs]) ok rfl rfl rfl hq1 rfl Bb rfl rfl (fun ok => ?_)
 refine Hw ?_
 refine OB ?_
 refine QJ ?_
 refine Ck (j := 0) (cs' := [.sl 1 (List.map AH p0.b) 0, .int .i64 (IntKind.wrap .i64 (p0.at_ + (2 : Int)))]) ok rfl rfl rfl hq0 rfl Bb rfl rfl (fun ok => ?_)
 refine Hw ?_
 refine cl (okT (fun _ hF => Ea (p0 := (⟨p0.b, (IntKind.wrap .i64 (p0.at_ + (2 : Int)))⟩ : TS)) (q0 := q0) h ((q1, .cells [.int .i64 (3 : Int), .int .i64 p1.At, .str p1.Name, As 2 b1_3 p1.Pairs, .str p1.Text, .int .i64 p1.Refs]) :: mo b1_3 cP p1.Pairs :: O) hq0 ok hF) hF fun x1 _ _ _ hq hF => ?_)
 obtain ⟨rfl, ok, rfl⟩ := hq
 refine GL ?_
 refine Ir ?_
 refine Uy ?_
 refine Az rfl hF (fun hb2 hF => ?_) fun hb2 hF => ?_
 ·refine HP ?_
  refine rr ?_
  exact ⟨_, _, (.refl _), hy ok, _, Aj hF, rfl, b1_3, zb1_3, oy ok, rfl⟩
 ·refine Jr ?_
  refine HQ ?_
  refine GH ?_
  refine DA rfl IN AO ?_
  refine Ck (j := 1) (cs' := [.int .i64 (3 : Int), .int .i64 p1.At, .str x1.1.1, As 2 b1_3 p1.Pairs, .str p1.Text, .int .i64 p1.Refs]) ok rfl rfl rfl hq1 rfl AO rfl rfl (fun ok => ?_)
  refine Hw ?_
  refine HS ?_
  refine Pn ?_
  refine cl (okT (fun _ hF => B0 _ (p0 := x1.2) (q0 := q0) h ((q1, .cells [.int .i64 (3 : Int), .int .i64 p1.At, .str x1.1.1, As 2 b1_3 p1.Pairs, .str p1.Text, .int .i64 p1.Refs]) :: mo b1_3 cP p1.Pairs :: O) hq0 ok hF) hF fun x3 _ _ _ hq hF => ?_)
  obtain ⟨rfl, ok, rfl⟩ := hq
  refine KH ?_
  refine Ck (j := 0) (cs' := [.sl 1 (List.map AH x1.2.b) 0, .int .i64 x3]) ok rfl rfl rfl hq0 rfl Bb rfl rfl (fun ok => ?_)
  refine Hw ?_
  refine cl (okT (fun _ hF => Cv _ (p0 := (⟨x1.2.b, x3⟩ : TS)) (q0 := q0) h ((q1, .cells [.int .i64 (3 : Int), .int .i64 p1.At, .str x1.1.1, As 2 b1_3 p1.Pairs, .str p1.Text, .int .i64 p1.Refs]) :: mo b1_3 cP p1.Pairs :: O) hq0 ok hF) hF fun x4 _ _ _ hq hF => ?_)
  obtain ⟨rfl, ok, rfl⟩ := hq
  refine EZ ?_
  refine rr ?_
  exact ⟨_, _, (.refl _), hy ok, _, Aj hF, rfl, b1_3, zb1_3, oy ok, rfl⟩
theorem Mi (p0 : Int) {G : Int → Prop} (h : Heap) (hF : Ap (Fm p0) G) : CallsA Tryz.prog 194 [.int .u8 p0] h fun d h' => ∃ r, G r ∧ d = .int .i64 r ∧ h' = h := by
 refine CallsA.ret ?_
 refine B2 Tryz.func194 rfl Z3 Tryz.ntmps194 rfl (fun ok => ?_)
 rw [Fm] at hF
 refine Gd ?_
 refine RQ ?_
 refine Eh ?_
 refine UR ?_
 refine Cu (b := (decide ((48 : Int) ≤ p0))) 3 9 (.bool ((decide ((48 : Int) ≤ p0)) && (decide (p0 ≤ (57 : Int))))) (fun hb1 => ?_) (fun hb1 => ?_) ?_
 ·refine Vz ?_
  exact th
 ·refine H0 ?_
  exact th
 refine D7 ?_
 refine Az rfl hF (fun hb2 hF => ?_) fun hb2 hF => ?_
 ·refine Eh ?_
  refine au ?_
  refine EZ ?_
  exact rt
 ·refine Eh ?_
  refine UR ?_
  refine Cu (b := (decide ((97 : Int) ≤ p0))) 3 19 (.bool ((decide ((97 : Int) ≤ p0)) && (decide (p0 ≤ (102 : Int))))) (fun hb3 => ?_) (fun hb3 => ?_) ?_
  ·refine Vz ?_
   exact th
  ·refine H0 ?_
   exact th
  refine D7 ?_
  refine Az rfl hF (fun hb4 hF => ?_) fun hb4 hF => ?_
  ·refine Eh ?_
   refine au ?_
   refine HW ?_
   refine EZ ?_
   exact rt
  ·refine Eh ?_
   refine UR ?_
   refine Cu (b := (decide ((65 : Int) ≤ p0))) 3 30 (.bool ((decide ((65 : Int) ≤ p0)) && (decide (p0 ≤ (70 : Int))))) (fun hb5 => ?_) (fun hb5 => ?_) ?_
   ·refine Vz ?_
    exact th
   ·refine H0 ?_
    exact th
   refine D7 ?_
   refine Az rfl hF (fun hb6 hF => ?_) fun hb6 hF => ?_
   ·refine Eh ?_
    refine au ?_
    refine HW ?_
    refine EZ ?_
    exact rt
   ·refine SE ?_
    exact rt
theorem Mm (p0 : List UInt8) {G : Int × Int → Prop} (h : Heap) (hF : Ap (DY p0) G) : CallsA Tryz.prog 192 [.str p0] h fun d h' => ∃ r, G r ∧ d = .tup [.int .i32 r.1, .int .i64 r.2] ∧ h' = h := by
 refine CallsA.ret ?_
 refine B2 Tryz.func192 rfl aV Tryz.ntmps192 rfl (fun ok => ?_)
 rw [DY] at hF
 refine Bz ?_
 refine UB ?_
 refine E1 ?_
 refine VS ?_
 refine R4 ?_
 refine Az rfl hF (fun hb1 hF => ?_) fun hb1 hF => ?_
 ·refine Qc ?_
  exact rt
 ·refine R4 ?_
  refine Az rfl hF (fun hb2 hF => ?_) fun hb2 hF => ?_
  ·refine Qc ?_
   exact rt
  ·refine R4 ?_
   refine Az rfl hF (fun hb3 hF => ?_) fun hb3 hF => ?_
   ·refine Qc ?_
    exact rt
   ·refine R4 ?_
    refine Az rfl hF (fun hb4 hF => ?_) fun hb4 hF => ?_
    ·refine Qc ?_
     exact rt
    ·refine R4 ?_
     refine Az rfl hF (fun hb5 hF => ?_) fun hb5 hF => ?_
     ·refine Qc ?_
      exact rt
     ·refine Co ?_
      refine E1 ?_
      refine cl (A4 (fun _ h hF => EW _ _ h hF) _ hF fun x6 _ hF => ?_)
      refine GL ?_
      refine Ov ?_
      refine Gd ?_
      refine Bf hF (fun (v : (List UInt8) × Int) s' => match v with | (a9, a10) => OK h [] ∧ WS s' ⟨Ak 67 [(4, .str a9), (5, .bool x6.2), (6, .int .i64 a10)], Hp h []⟩) (fun J11 hF => ?_) ?_
      ·refine E1 ?_
       refine cl (A4 (fun _ h hF => EW _ _ h hF) _ hF fun x12 _ hF => ?_)
       refine GL ?_
       refine Ov ?_
       refine Kh ?_
       refine AV ?_
       refine Az rfl hF (fun hb13 hF => ?_) fun hb13 hF => ?_
       ·refine IK ?_
        refine HQ ?_
        refine Ir ?_
        refine EV ?_
        exact ⟨(x12.1, (16 : Int)), hF, oy ok, wy ok⟩
       ·refine Co ?_
        exact ⟨(x6.1, (10 : Int)), hF, oy ok, wy ok⟩
      ·rintro ⟨a9, a10⟩ s' hF ⟨ok, hws⟩
       refine AQ hws ?_
       clear hws s'
       refine DS ?_
       refine Kh ?_
       refine P1 ?_
       refine CZ ?_
       refine Cu (b := (!x6.2)) 3 41 (.bool ((!x6.2) || (a9 == ([] : List UInt8)))) (fun hb14 => ?_) (fun hb14 => ?_) ?_
       ·refine NI ?_
        exact th
       ·refine Jt ?_
        refine Lr ?_
        refine Hy ?_
        exact th
       refine AV ?_
       refine Az rfl hF (fun hb15 hF => ?_) fun hb15 hF => ?_
       ·refine Qc ?_
        exact rt
       ·refine Co ?_
        refine Gd ?_
        refine Bf hF (fun (a22 : Int) s' => OK h [] ∧ WS s' ⟨Ak 67 [(9, .int .i64 a22)], Hp h []⟩) (fun J23 hF => ?_) ?_
        ·refine E1 ?_
         refine Rh ?_
         refine JV ?_
         refine Jb ?_
         refine Cp (σ := Int × Int) hF (fun (v : Int × Int) s' => match v with | (a24, a25) => OK h [] ∧ WS s' ⟨Ak 67 [(6, .int .i64 a10), (9, .int .i64 a24), (43, .sl 1 (List.map AH a9) 0), (44, .int .i64 (a9.length : Int)), (45, .int .i64 a25)], Hp h []⟩) ?_ ?_
         ·exact ⟨oy ok, wy ok⟩
         ·rintro G26 hG27 rec28 ⟨a24, a25⟩ s' ih29 hF ⟨ok, hws⟩
          refine AQ hws ?_
          clear hws s'
          rw [B4] at hF
          refine Jg ?_
          refine Az rfl hF (fun hb30 hF => ?_) fun hb30 hF => ?_
          ·refine Ro ?_
           refine Bz ?_
           refine Fz rfl rfl BQ C0 hF (fun x31 _ hF => ?_)
           refine Yz ?_
           refine Yb ?_
           refine cl (A4 (fun _ h hF => Mi _ h hF) _ hF fun x32 _ hF => ?_)
           refine Km ?_
           refine Eb ?_
           refine Mk ?_
           refine AV ?_
           refine Az rfl hF (fun hb33 hF => ?_) fun hb33 hF => ?_
           ·refine Qc ?_
            replace hF := hG27 _ (Aj hF)
            exact rt
           ·refine Co ?_
            refine V2 ?_
            refine Ef rfl rfl (NM ..) ?_
            refine If ?_
            refine ZO rfl rfl ?_
            refine EV ?_
            refine SO ?_
            refine ih29 ((if (1114112 : Int) < (IntKind.wrap .i64 ((IntKind.wrap .i64 (a24 * a10)) + x32)) then (1114112 : Int) else (IntKind.wrap .i64 ((IntKind.wrap .i64 (a24 * a10)) + x32))), (IntKind.wrap .i64 (a25 + (1 : Int)))) _ hF ?_
            exact ⟨oy ok, wy ok⟩
          ·refine DT ?_
           replace hF := hG27 _ (Aj hF)
           exact ⟨a24, hF, oy ok, wy ok⟩
        ·rintro a22 s' hF ⟨ok, hws⟩
         refine AQ hws ?_
         clear hws s'
         refine Iq ?_
         refine Kf rfl (WG Qs Qa) ?_
         refine cl (A4 (fun _ h hF => I6 _ h hF) _ hF fun x34 _ hF => ?_)
         refine Mt ?_
         refine Az rfl hF (fun hb35 hF => ?_) fun hb35 hF => ?_
         ·refine Qc ?_
          exact rt
         ·refine Co ?_
          refine Eh ?_
          refine Kf rfl (WG Qs Qa) ?_
          refine H3 ?_
          exact rt
theorem Ls (p0 : List UInt8) (p1 : Int) {G : Int × Int × Int → Prop} (h : Heap) (hF : Ap (Db p0 p1) G) : CallsA Tryz.prog 183 [.sl 1 (List.map AH p0) 0, .int .i64 p1] h fun d h' => ∃ r, G r ∧ d = .tup [.int .i32 r.1, .int .i64 r.2.1, .int .i64 r.2.2] ∧ h' = h := by
 refine CallsA.ret ?_
 refine B2 Tryz.func183 rfl bE Tryz.ntmps183 rfl (fun ok => ?_)
 rw [Db] at hF
 refine Bz ?_
 refine PY ?_
 refine RN ?_
 refine Si ?_
 refine Cu (b := (decide (p1 < (0 : Int)))) 5 17 (.bool ((decide (p1 < (0 : Int))) || (decide ((p0.length : Int) ≤ p1)))) (fun hb1 => ?_) (fun hb1 => ?_) ?_
 ·refine Sk ?_
  exact th
 ·refine Ja ?_
  refine VA ?_
  refine JV ?_
  refine A2 ?_
  refine Mk ?_
  refine Hy ?_
  exact th
 refine CZ ?_
 refine BH 6 24 hF (fun J3 hb2 hF => ?_) (fun J3 hb2 hF => ?_) (fun v4 hF => ?_)
 ·refine VL ?_
  refine Jq ?_
  exact tw
 ·refine PI ?_
  refine Um ?_
  refine Fz rfl rfl BQ C0 hF (fun x5 _ hF => ?_)
  refine YI ?_
  refine U5 ?_
  exact tw
 ·refine AV ?_
  refine Az rfl hF (fun hb6 hF => ?_) fun hb6 hF => ?_
  ·refine Bz ?_
   refine Qo ?_
   exact rt
  ·refine Co ?_
   refine U8 ?_
   refine Gy rfl BQ C0 (ED rfl) HM hF (fun x7 _ hF => ?_)
   refine cl (GG _ hF fun x8 _ hF => ?_)
   refine Km ?_
   refine Kx ?_
   refine Az rfl hF (fun hb9 hF => ?_) fun hb9 hF => ?_
   ·refine Bz ?_
    refine Qo ?_
    exact rt
   ·refine Co ?_
    refine Gm ?_
    refine If ?_
    refine Eb ?_
    refine If ?_
    refine Gy rfl BQ C0 (ED rfl) (ED rfl) hF (fun x10 _ hF => ?_)
    refine Rz ?_
    refine cl (A4 (fun _ h hF => Mm _ h hF) _ hF fun x11 _ hF => ?_)
    refine GL ?_
    refine RN ?_
    refine Mq ?_
    refine Az rfl hF (fun hb12 hF => ?_) fun hb12 hF => ?_
    ·refine Eh ?_
     refine Qo ?_
     exact rt
    ·refine Co ?_
     refine Hz ?_
     refine If ?_
     refine HW ?_
     refine Qo ?_
     exact rt
theorem Jw (p0 : List UInt8) (p1 : Bool) {G : (List UInt8) × Int × Int → Prop} (h : Heap) (hF : Ap (Cz p0 p1) G) : CallsA Tryz.prog 164 [.sl 1 (List.map AH p0) 0, .bool p1] h fun d h' => ∃ r, G r ∧ d = .tup [.str r.1, .int .i64 r.2.1, .int .i64 r.2.2] ∧ h' = h := by
 refine CallsA.ret ?_
 refine B2 Tryz.func164 rfl bw Tryz.ntmps164 rfl (fun ok => ?_)
 rw [Cz] at hF
 refine Bz ?_
 refine S_a (v := .str ([] : List UInt8)) rfl ?_
 refine HX ?_
 refine Bz ?_
 refine S_a (v := .snil) rfl ?_
 refine TY 7 1 ok rfl rfl ?_
 intro r1 hr1 ok
 refine AV ?_
 refine Bf hF (fun (a52 : (List UInt8)) s' => ∃ g53 : Nat, g53 ≠ 0 ∧ OK h [(g53, .room)] ∧ WS s' ⟨Ak 79 [(7, .sl 1 (List.map AH a52) g53)], Hp h [(g53, .room)]⟩) (fun J54 hF => ?_) ?_
 ·refine Gd ?_
  refine Fe ?_
  refine Cp (σ := (List UInt8) × Int) hF (fun (v : (List UInt8) × Int) s' => match v with | (a55, a57) => ∃ g56 : Nat, g56 ≠ 0 ∧ OK h [(g56, .room)] ∧ WS s' ⟨Ak 79 [(0, .sl 1 (List.map AH p0) 0), (1, .bool p1), (7, .sl 1 (List.map AH a55) g56), (8, .int .i64 a57)], Hp h [(g56, .room)]⟩) ?_ ?_
  ·exact ⟨r1, hr1, oy ok, wy ok⟩
  ·rintro G58 hG59 rec60 ⟨a55, a57⟩ s' ih61 hF ⟨g56, hg56, ok, hws⟩
   refine AQ hws ?_
   clear hws s'
   rw [Ay] at hF
   refine Iq ?_
   refine U9 ?_
   refine Kx ?_
   refine Az rfl hF (fun hb62 hF => ?_) fun hb62 hF => ?_
   ·refine K8 ?_
    refine U8 ?_
    refine cl (A4 (fun _ h hF => Kb _ _ h hF) _ hF fun x63 _ hF => ?_)
    refine Lx ?_
    refine PY ?_
    refine HX ?_
    refine Bf hF (fun (v : Int × Int) s' => match v with | (a85, a86) => OK h [(g56, .room)] ∧ WS s' ⟨Ak 79 [(0, .sl 1 (List.map AH p0) 0), (1, .bool p1), (7, .sl 1 (List.map AH a55) g56), (9, .int .i32 a85), (10, .int .i64 a86)], Hp h [(g56, .room)]⟩) (fun J87 hF => ?_) ?_
    ·refine Fe ?_
     refine Eh ?_
     refine Vx ?_
     refine D7 ?_
     refine Az rfl hF (fun hb88 hF => ?_) fun hb88 hF => ?_
     ·refine Hz ?_
      refine S_a (v := .str ([] : List UInt8)) rfl ?_
      refine H3 ?_
      replace hF := hG59 _ (Aj hF)
      exact rt
     ·refine DS ?_
      refine CF (mdl [(38, 5), (39, 5)]) ?_
      refine Eb ?_
      refine Ib ?_
      refine BH 11 42 hF (fun J90 hb89 hF => ?_) (fun J90 hb89 hF => ?_) (fun v91 hF => ?_)
      ·refine Qz ?_
       refine Mx ?_
       refine Mx ?_
       refine UM ?_
       refine Jq ?_
       exact tw
      ·refine Hs ?_
       refine CZ ?_
       refine NZ ?_
       refine Ry ?_
       refine BH 7 41 hF (fun J93 hb92 hF => ?_) (fun J93 hb92 hF => ?_) (fun v94 hF => ?_)
       ·refine PI ?_
        refine Um ?_
        refine Gy rfl BQ C0 (ED rfl) HM hF (fun x95 _ hF => ?_)
        refine A2 ?_
        refine Pv (cs := [.int .u8 93, .int .u8 93, .int .u8 62]) ok rfl FU rfl (by kernel_rfl) ?_
        intro i96 hi96 ok
        refine A2 ?_
        refine T2 (v := .sl 1 (List.map AH ([93, 93, 62] : List UInt8)) 0) (by kernel_rfl) 0 ok rfl rfl hi96 rfl BQ JF rfl rfl (fun ok => ?_)
        refine A2 ?_
        refine cl (A4 (fun _ h hF => Ev _ _ h hF) _ hF fun x98 _ hF => ?_)
        refine VH ?_
        exact tw
       ·refine FA ?_
        refine NJ ?_
        refine SX ?_
        exact tw
       ·refine LP ?_
        exact tw
      ·refine D7 ?_
       refine Az rfl hF (fun hb99 hF => ?_) fun hb99 hF => ?_
       ·refine Eh ?_
        refine S_a (v := .str ([] : List UInt8)) rfl ?_
        refine H3 ?_
        replace hF := hG59 _ (Aj hF)
        exact rt
       ·refine Eh ?_
        refine YQ ?_
        refine Az rfl hF (fun hb100 hF => ?_) fun hb100 hF => ?_
        ·refine U8 ?_
         refine cl (A4 (fun _ h hF => Ls _ _ h hF) _ hF fun x101 _ hF => ?_)
         refine Lx ?_
         refine PY ?_
         refine HX ?_
         refine Eh ?_
         refine Mq ?_
         refine Az rfl hF (fun hb102 hF => ?_) fun hb102 hF => ?_
         ·refine Hz ?_
          refine S_a (v := .str ([] : List UInt8)) rfl ?_
          refine H3 ?_
          replace hF := hG59 _ (Aj hF)
          exact rt
         ·refine Co ?_
          exact ⟨(x101.1, x101.2.1), hF, oy ok, wy ok⟩
        ·refine Kh ?_
         refine CZ ?_
         refine Cu (b := p1) 11 71 (.bool (p1 && (((x63.1 == (9 : Int)) || (x63.1 == (10 : Int))) || (x63.1 == (13 : Int))))) (fun hb103 => ?_) (fun hb103 => ?_) ?_
         ·refine UQ ?_
          refine Ry ?_
          refine Cu (b := (x63.1 == (9 : Int))) 3 66 (.bool ((x63.1 == (9 : Int)) || (x63.1 == (10 : Int)))) (fun hb106 => ?_) (fun hb106 => ?_) ?_
          ·refine NJ ?_
           refine Hs ?_
           refine YY ?_
           exact th
          ·refine UQ ?_
           refine A2 ?_
           refine aL ?_
           exact th
          refine Hs ?_
          refine cf ?_
          refine Cu (b := ((x63.1 == (9 : Int)) || (x63.1 == (10 : Int)))) 3 70 (.bool (((x63.1 == (9 : Int)) || (x63.1 == (10 : Int))) || (x63.1 == (13 : Int)))) (fun hb107 => ?_) (fun hb107 => ?_) ?_
          ·refine NJ ?_
           refine Hs ?_
           refine YY ?_
           exact th
          ·refine UQ ?_
           refine A2 ?_
           refine aL ?_
           exact th
          refine Jq ?_
          exact th
         ·refine Qz ?_
          refine Mx ?_
          refine NJ ?_
          refine UM ?_
          refine LP ?_
          exact th
         refine D7 ?_
         refine Az rfl hF (fun hb108 hF => ?_) fun hb108 hF => ?_
         ·refine IK ?_
          refine EV ?_
          exact ⟨((32 : Int), x63.2.1), hF, oy ok, wy ok⟩
         ·refine Co ?_
          exact ⟨(x63.1, x63.2.1), hF, oy ok, wy ok⟩
    ·rintro ⟨a85, a86⟩ s' hF ⟨ok, hws⟩
     refine AQ hws ?_
     clear hws s'
     refine DS ?_
     refine CF (mdl [(75, 2)]) ?_
     refine Ux ?_
     refine Kf rfl (eb YA Y2 Di Xz) ?_
     refine ZT (j := 0) ok rfl rfl rfl rfl hg56 FU YP hF ?_
     intro r109 hr109 ok hF
     refine RU ?_
     refine SZ ?_
     refine ih61 ((a55 ++ (Utf8.encode a85).data.toList), a86) _ hF ?_
     exact ⟨r109, hr109, oy ok, wy ok⟩
   ·refine DT ?_
    replace hF := hG59 _ (Aj hF)
    exact ⟨a55, hF, g56, hg56, oy ok, wy ok⟩
 ·rintro a52 s' hF ⟨g53, hg53, ok, hws⟩
  refine AQ hws ?_
  clear hws s'
  refine Gm ?_
  refine Ed 77 (v := .sl 1 (List.map AH a52) 0) (.zero _ _ _) ?_
  refine Rz ?_
  refine Ir ?_
  refine H3 ?_
  exact rt
theorem JX (p0 : List UInt8) {G : (List UInt8) × Int × Int → Prop} (h : Heap) (hF : Ap (BO p0) G) : CallsA Tryz.prog 123 [.sl 1 (List.map AH p0) 0] h fun d h' => ∃ r, G r ∧ d = .tup [.str r.1, .int .i64 r.2.1, .int .i64 r.2.2] ∧ h' = h := by
 refine CallsA.ret ?_
 refine B2 Tryz.func123 rfl bQ Tryz.ntmps123 rfl (fun ok => ?_)
 rw [BO] at hF
 refine Bz ?_
 refine S_a (v := .str ([] : List UInt8)) rfl ?_
 refine HX ?_
 refine Gm ?_
 refine cl (A4 (fun _ h hF => Jw _ _ h hF) _ hF fun x1 _ hF => ?_)
 refine XO ?_
 refine Ot ?_
 refine Ir ?_
 refine H3 ?_
 exact rt
theorem Ju (p0 : TS) (p1 : TK) (q0 : Nat) (q1 : Nat) (b1_3 : Nat) {G : Int × TS × TK → Prop} (h : Heap) (O : List (Nat × AObj)) (hq0 : q0 ≠ 0) (hq1 : q1 ≠ 0) (zb1_3 : b1_3 = 0 → p1.Pairs = []) (ok : OK h ((q0, .cells [.sl 1 (List.map AH p0.b) 0, .int .i64 p0.at_]) :: (q1, .cells [.int .i64 p1.Kind, .int .i64 p1.At, .str p1.Name, As 2 b1_3 p1.Pairs, .str p1.Text, .int .i64 p1.Refs]) :: mo b1_3 cP p1.Pairs :: O)) (hF : Ap (A1 p0 p1) G) : CallsA Tryz.prog 84 [.ptr q0 0, .ptr q1 0] (Hp h ((q0, .cells [.sl 1 (List.map AH p0.b) 0, .int .i64 p0.at_]) :: (q1, .cells [.int .i64 p1.Kind, .int .i64 p1.At, .str p1.Name, As 2 b1_3 p1.Pairs, .str p1.Text, .int .i64 p1.Refs]) :: mo b1_3 cP p1.Pairs :: O)) fun d h' => ∃ r, G r ∧ d = .int .i64 r.1 ∧ ∃ b1_3' : Nat, (b1_3' = 0 → r.2.2.Pairs = []) ∧ OK h ((q0, .cells [.sl 1 (List.map AH r.2.1.b) 0, .int .i64 r.2.1.at_]) :: (q1, .cells [.int .i64 r.2.2.Kind, .int .i64 r.2.2.At, .str r.2.2.Name, As 2 b1_3' r.2.2.Pairs, .str r.2.2.Text, .int .i64 r.2.2.Refs]) :: mo b1_3' cP r.2.2.Pairs :: O) ∧ h' = Hp h ((q0, .cells [.sl 1 (List.map AH r.2.1.b) 0, .int .i64 r.2.1.at_]) :: (q1, .cells [.int .i64 r.2.2.Kind, .int .i64 r.2.2.At, .str r.2.2.Name, As 2 b1_3' r.2.2.Pairs, .str r.2.2.Text, .int .i64 r.2.2.Refs]) :: mo b1_3' cP r.2.2.Pairs :: O) := by
 refine CallsA.ret ?_
 refine CB Tryz.func84 rfl dJ Tryz.ntmps84 rfl ?_
 rw [A1] at hF
 refine Gd ?_
 refine Nt ?_
 refine MM ?_
 refine Gd ?_
 refine DS ?_
 refine CF (mdl [(6, 1)]) ?_
 refine C8 ok rfl H1 ?_
 intro i1 hi1 ok
 refine N2 ?_
 refine S_a (v := .snil) rfl ?_
 refine Ed 7 (v := .sl 1 (List.map AH ([] : List UInt8)) 0) (.nil _) ?_
 refine Hw ?_
 refine KH ?_
 refine YW ?_
 refine QJ ?_
 refine Ck (j := 1) (cs' := [.sl 1 (List.map AH p0.b) 0, .int .i64 (IntKind.wrap .i64 (p0.at_ + (1 : Int)))]) ok rfl rfl rfl hq0 rfl Bb rfl rfl (fun ok => ?_)
 refine Hw ?_
 obtain ⟨hpe, ok⟩ := A6 1 ok rfl
 rw [hpe]; clear hpe
 refine cl (okT (fun _ hF => Ea (p0 := (⟨p0.b, (IntKind.wrap .i64 (p0.at_ + (1 : Int)))⟩ : TS)) (q0 := q0) h ((i1, .cells [.str ([] : List UInt8), .str ([] : List UInt8)]) :: (q1, .cells [.int .i64 p1.Kind, .int .i64 p1.At, .str p1.Name, As 2 b1_3 p1.Pairs, .str p1.Text, .int .i64 p1.Refs]) :: mo b1_3 cP p1.Pairs :: O) hq0 ok hF) hF fun x2 _ _ _ hq hF => ?_)
 obtain ⟨rfl, ok, rfl⟩ := hq
 refine GL ?_
 refine Ir ?_
 refine Uy ?_
 refine Az rfl hF (fun hb3 hF => ?_) fun hb3 hF => ?_
 ·refine HP ?_
  refine rr ?_
  exact ⟨_, _, (.refl _), hy ok, _, Aj hF, rfl, b1_3, zb1_3, oy ok, rfl⟩
 ·refine Jr ?_
  refine HS ?_
  refine HQ ?_
  refine GH ?_
  refine DA rfl IN AO ?_
  refine Ck (j := 2) (cs' := [.int .i64 p1.Kind, .int .i64 p1.At, .str x2.1.1, As 2 b1_3 p1.Pairs, .str p1.Text, .int .i64 p1.Refs]) ok rfl rfl rfl hq1 rfl AO rfl rfl (fun ok => ?_)
  refine GH ?_
  refine dS ?_
  refine Ck (j := 2) (cs' := [.int .i64 (2 : Int), .int .i64 p1.At, .str x2.1.1, As 2 b1_3 p1.Pairs, .str p1.Text, .int .i64 p1.Refs]) ok rfl rfl rfl hq1 rfl Bb rfl rfl (fun ok => ?_)
  refine GQ ?_
  refine Rr ?_
  refine T8 (σ := (List UInt8) × Int × Int × Int × (List UInt8) × (List TP) × (List UInt8) × Int × (List UInt8) × (List UInt8)) hF (fun (v : (List UInt8) × Int × Int × Int × (List UInt8) × (List TP) × (List UInt8) × Int × (List UInt8) × (List UInt8)) s' => match v with | (a4, a5, a6, a7, a8, a10, a11, a12, a13, a14) => ∃ g9 : Nat, (g9 = 0 → a10 = []) ∧ OK h ((q0, .cells [.sl 1 (List.map AH a4) 0, .int .i64 a5]) :: (i1, .cells [.str a13, .str a14]) :: (q1, .cells [.int .i64 a6, .int .i64 a7, .str a8, As 2 g9 a10, .str a11, .int .i64 a12]) :: mo g9 cP a10 :: O) ∧ WS s' ⟨Ak 118 [(0, .ptr q0 0), (1, .ptr q1 0), (6, .ptr i1 0)], Hp h ((q0, .cells [.sl 1 (List.map AH a4) 0, .int .i64 a5]) :: (i1, .cells [.str a13, .str a14]) :: (q1, .cells [.int .i64 a6, .int .i64 a7, .str a8, As 2 g9 a10, .str a11, .int .i64 a12]) :: mo g9 cP a10 :: O)⟩) ?_ ?_
  ·exact ⟨b1_3, zb1_3, oy ok, wy ok⟩
  ·rintro G15 hG16 rec17 ⟨a4, a5, a6, a7, a8, a10, a11, a12, a13, a14⟩ s' ih18 hF ⟨g9, zg9, ok, hws⟩
   refine AQ hws ?_
   clear hws s'
   rw [Al] at hF
   refine FW ?_
   refine OB ?_
   refine EV ?_
   refine Pt ?_
   refine Eb ?_
   refine cl (okT (fun _ hF => B0 _ (p0 := (⟨a4, a5⟩ : TS)) (q0 := q0) h ((i1, .cells [.str a13, .str a14]) :: (q1, .cells [.int .i64 a6, .int .i64 a7, .str a8, As 2 g9 a10, .str a11, .int .i64 a12]) :: mo g9 cP a10 :: O) hq0 ok hF) hF fun x19 _ _ _ hq hF => ?_)
   obtain ⟨rfl, ok, rfl⟩ := hq
   refine KH ?_
   refine Ck (j := 0) (cs' := [.sl 1 (List.map AH a4) 0, .int .i64 x19]) ok rfl rfl rfl hq0 rfl Bb rfl rfl (fun ok => ?_)
   refine GQ ?_
   refine FW ?_
   refine cl (okT (fun _ hF => AW _ (p0 := (⟨a4, x19⟩ : TS)) (q0 := q0) h ((i1, .cells [.str a13, .str a14]) :: (q1, .cells [.int .i64 a6, .int .i64 a7, .str a8, As 2 g9 a10, .str a11, .int .i64 a12]) :: mo g9 cP a10 :: O) hq0 ok hF) hF fun x20 _ _ _ hq hF => ?_)
   obtain ⟨rfl, ok, rfl⟩ := hq
   refine AV ?_
   refine Az rfl hF (fun hb21 hF => ?_) fun hb21 hF => ?_
   ·refine R6 ?_
    refine Ck (j := 2) (cs' := [.int .i64 (4 : Int), .int .i64 a7, .str a8, As 2 g9 a10, .str a11, .int .i64 a12]) ok rfl rfl rfl hq1 rfl Bb rfl rfl (fun ok => ?_)
    refine Hw ?_
    refine cl (okT (fun _ hF => Cv _ (p0 := (⟨a4, x19⟩ : TS)) (q0 := q0) h ((i1, .cells [.str a13, .str a14]) :: (q1, .cells [.int .i64 (4 : Int), .int .i64 a7, .str a8, As 2 g9 a10, .str a11, .int .i64 a12]) :: mo g9 cP a10 :: O) hq0 ok hF) hF fun x22 _ _ _ hq hF => ?_)
    obtain ⟨rfl, ok, rfl⟩ := hq
    refine EZ ?_
    replace hF := hG16 _ (Aj hF)
    refine rr ?_
    exact ⟨_, _, (.refl _), hy ok, _, Aj hF, rfl, g9, zg9, oy ok, rfl⟩
   ·refine GI ?_
    refine FW ?_
    refine cl (okT (fun _ hF => AW _ (p0 := (⟨a4, x19⟩ : TS)) (q0 := q0) h ((i1, .cells [.str a13, .str a14]) :: (q1, .cells [.int .i64 a6, .int .i64 a7, .str a8, As 2 g9 a10, .str a11, .int .i64 a12]) :: mo g9 cP a10 :: O) hq0 ok hF) hF fun x23 _ _ _ hq hF => ?_)
    obtain ⟨rfl, ok, rfl⟩ := hq
    refine AV ?_
    refine Az rfl hF (fun hb24 hF => ?_) fun hb24 hF => ?_
    ·refine FW ?_
     refine cl (okT (fun _ hF => Cv _ (p0 := (⟨a4, x19⟩ : TS)) (q0 := q0) h ((i1, .cells [.str a13, .str a14]) :: (q1, .cells [.int .i64 a6, .int .i64 a7, .str a8, As 2 g9 a10, .str a11, .int .i64 a12]) :: mo g9 cP a10 :: O) hq0 ok hF) hF fun x25 _ _ _ hq hF => ?_)
     obtain ⟨rfl, ok, rfl⟩ := hq
     refine EZ ?_
     replace hF := hG16 _ (Aj hF)
     refine rr ?_
     exact ⟨_, _, (.refl _), hy ok, _, Aj hF, rfl, g9, zg9, oy ok, rfl⟩
    ·refine GI ?_
     refine FW ?_
     refine OB ?_
     refine Eb ?_
     refine Mn ?_
     refine Az rfl hF (fun hb26 hF => ?_) fun hb26 hF => ?_
     ·refine Eg ?_
      replace hF := hG16 _ (Aj hF)
      refine rr ?_
      exact ⟨_, _, (.refl _), hy ok, _, Aj hF, rfl, g9, zg9, oy ok, rfl⟩
     ·refine GI ?_
      refine FW ?_
      refine cl (okT (fun _ hF => Ea (p0 := (⟨a4, x19⟩ : TS)) (q0 := q0) h ((i1, .cells [.str a13, .str a14]) :: (q1, .cells [.int .i64 a6, .int .i64 a7, .str a8, As 2 g9 a10, .str a11, .int .i64 a12]) :: mo g9 cP a10 :: O) hq0 ok hF) hF fun x27 _ _ _ hq hF => ?_)
      obtain ⟨rfl, ok, rfl⟩ := hq
      refine GL ?_
      refine V6 ?_
      refine Ck (j := 1) (cs' := [.str x27.1.1, .str a14]) ok rfl rfl rfl hi1 rfl AO rfl rfl (fun ok => ?_)
      refine Rl ?_
      refine Az rfl hF (fun hb28 hF => ?_) fun hb28 hF => ?_
      ·refine HP ?_
       replace hF := hG16 _ (Aj hF)
       refine rr ?_
       exact ⟨_, _, (.refl _), hy ok, _, Aj hF, rfl, g9, zg9, oy ok, rfl⟩
      ·refine GI ?_
       refine FW ?_
       refine cl (okT (fun _ hF => FD (p0 := x27.2) (q0 := q0) h ((i1, .cells [.str x27.1.1, .str a14]) :: (q1, .cells [.int .i64 a6, .int .i64 a7, .str a8, As 2 g9 a10, .str a11, .int .i64 a12]) :: mo g9 cP a10 :: O) hq0 ok hF) hF fun x29 _ _ _ hq hF => ?_)
       obtain ⟨rfl, ok, rfl⟩ := hq
       refine Rl ?_
       refine Az rfl hF (fun hb30 hF => ?_) fun hb30 hF => ?_
       ·refine HP ?_
        replace hF := hG16 _ (Aj hF)
        refine rr ?_
        exact ⟨_, _, (.refl _), hy ok, _, Aj hF, rfl, g9, zg9, oy ok, rfl⟩
       ·refine GI ?_
        refine FW ?_
        refine cl (okT (fun _ hF => FJ (p0 := x29.2) (q0 := q0) h ((i1, .cells [.str x27.1.1, .str a14]) :: (q1, .cells [.int .i64 a6, .int .i64 a7, .str a8, As 2 g9 a10, .str a11, .int .i64 a12]) :: mo g9 cP a10 :: O) hq0 ok hF) hF fun x31 _ _ _ hq hF => ?_)
        obtain ⟨rfl, ok, rfl⟩ := hq
        refine GL ?_
        refine SF ?_
        refine Rl ?_
        refine Az rfl hF (fun hb32 hF => ?_) fun hb32 hF => ?_
        ·refine HP ?_
         replace hF := hG16 _ (Aj hF)
         refine rr ?_
         exact ⟨_, _, (.refl _), hy ok, _, Aj hF, rfl, g9, zg9, oy ok, rfl⟩
        ·refine GI ?_
         refine Gm ?_
         refine cl (A4 (fun _ h hF => JX _ h hF) _ hF fun x33 _ hF => ?_)
         refine Lx ?_
         refine X0 ?_
         refine Ck (j := 1) (cs' := [.str x27.1.1, .str x33.1]) ok rfl rfl rfl hi1 rfl AO rfl rfl (fun ok => ?_)
         refine Rl ?_
         refine Az rfl hF (fun hb34 hF => ?_) fun hb34 hF => ?_
         ·refine HP ?_
          replace hF := hG16 _ (Aj hF)
          refine rr ?_
          exact ⟨_, _, (.refl _), hy ok, _, Aj hF, rfl, g9, zg9, oy ok, rfl⟩
         ·refine Co ?_
          refine Bf hF (fun (_ : Unit) s' => OK h ((q0, .cells [.sl 1 (List.map AH x31.2.b) 0, .int .i64 x31.2.at_]) :: (i1, .cells [.str x27.1.1, .str x33.1]) :: (q1, .cells [.int .i64 a6, .int .i64 a7, .str a8, As 2 g9 a10, .str a11, .int .i64 a12]) :: mo g9 cP a10 :: O) ∧ WS s' ⟨Ak 118 [(0, .ptr q0 0), (1, .ptr q1 0), (6, .ptr i1 0)], Hp h ((q0, .cells [.sl 1 (List.map AH x31.2.b) 0, .int .i64 x31.2.at_]) :: (i1, .cells [.str x27.1.1, .str x33.1]) :: (q1, .cells [.int .i64 a6, .int .i64 a7, .str a8, As 2 g9 a10, .str a11, .int .i64 a12]) :: mo g9 cP a10 :: O)⟩) (fun J40 hF => ?_) ?_
          ·refine On ?_
           refine Yk ?_
           refine dU ?_
           refine Jp zg9 rfl H8 ?_
           refine Jb ?_
           refine Cp (σ := Int) hF (fun (a41 : Int) s' => OK h ((q0, .cells [.sl 1 (List.map AH x31.2.b) 0, .int .i64 x31.2.at_]) :: (i1, .cells [.str x27.1.1, .str x33.1]) :: (q1, .cells [.int .i64 a6, .int .i64 a7, .str a8, As 2 g9 a10, .str a11, .int .i64 a12]) :: mo g9 cP a10 :: O) ∧ WS s' ⟨Ak 118 [(0, .ptr q0 0), (1, .ptr q1 0), (6, .ptr i1 0), (96, As 2 g9 a10), (97, .int .i64 (a10.length : Int)), (98, .int .i64 a41)], Hp h ((q0, .cells [.sl 1 (List.map AH x31.2.b) 0, .int .i64 x31.2.at_]) :: (i1, .cells [.str x27.1.1, .str x33.1]) :: (q1, .cells [.int .i64 a6, .int .i64 a7, .str a8, As 2 g9 a10, .str a11, .int .i64 a12]) :: mo g9 cP a10 :: O)⟩) ?_ ?_
           ·exact ⟨oy ok, wy ok⟩
           ·rintro G42 hG43 rec44 a41 s' ih45 hF ⟨ok, hws⟩
            refine AQ hws ?_
            clear hws s'
            rw [AJ] at hF
            refine Jg ?_
            refine Az rfl hF (fun hb46 hF => ?_) fun hb46 hF => ?_
            ·refine Vt ?_
             refine CF (mdl [(11, 1)]) ?_
             refine DJ zg9 rfl rfl H8 Ej hF (fun x47 hx47 hF => ?_)
             refine EY (q := 2) (j := 3) (f0 := 0) ok rfl zg9 rfl rfl (fun _ => rfl) hx47 rfl rfl (Bm (vs := cP x47) GX Ej rfl rfl) ?_
             refine C8 ok rfl H1 ?_
             intro i48 hi48 ok
             refine Ck (j := 0) (cs' := [.str x47.Name, .str x47.Value]) ok rfl rfl rfl hi48 rfl Ej rfl rfl (fun ok => ?_)
             refine N2 ?_
             refine V6 ?_
             refine QU ?_
             refine V6 ?_
             refine aY ?_
             refine Lr ?_
             refine AV ?_
             refine Az rfl hF (fun hb49 hF => ?_) fun hb49 hF => ?_
             ·refine Eg ?_
              replace hF := hG43 _ (Aj hF)
              replace hF := hG16 _ (Aj hF)
              refine rr ?_
              exact ⟨_, _, (.refl _), hy ok, _, Aj hF, rfl, g9, zg9, oy ok, rfl⟩
             ·refine Ms ?_
              refine ih45 (IntKind.wrap .i64 (a41 + (1 : Int))) _ hF ?_
              exact ⟨oy ok, wy ok⟩
            ·refine DT ?_
             replace hF := hG43 _ (Aj hF)
             exact ⟨(), hF, oy ok, wy ok⟩
          ·rintro ⟨⟩ s' hF ⟨ok, hws⟩
           refine AQ hws ?_
           clear hws s'
           refine DS ?_
           refine EP (mdl [(115, 1)]) (by kernel_rfl) (by kernel_rfl) ?_
           refine HS ?_
           refine Lw ?_
           refine Yk ?_
           refine dU ?_
           refine Ds (j := 1) ok rfl rfl rfl hi1 (Bm (vs := cP (⟨x27.1.1, x33.1⟩ : TP)) GX Ej rfl rfl) ?_
           refine Fk (cs := [.str (⟨x27.1.1, x33.1⟩ : TP).Name, .str (⟨x27.1.1, x33.1⟩ : TP).Value]) (es := (List.map cP [(⟨x27.1.1, x33.1⟩ : TP)])) rfl KO rfl (by kernel_rfl) (by kernel_rfl) ?_
           refine II (j := 3) (M := [(⟨x27.1.1, x33.1⟩ : TP)]) ok zg9 rfl rfl Jy (fun _ => rfl) rfl KO Rc hF ?_
           intro u50 zu50 ok hF
           obtain ⟨a51, ha51, hF⟩ := DQ hF
           rw [← ha51] at ok zu50
           rw [← ha51]
           refine GH ?_
           refine Yk ?_
           refine ZL (j := 2) (cs' := [.int .i64 a6, .int .i64 a7, .str a8, As 2 u50 a51, .str a11, .int .i64 a12]) ok rfl rfl rfl hq1 F8 rfl rfl (fun ok => ?_)
           refine AV ?_
           refine Qd ?_
           repeat (first | with_reducible refine Exit.sel_goto ?_ | with_reducible refine Exit.blk_goto ?_)
           refine Ny rfl ?_
           refine ih18 (x31.2.b, x31.2.at_, a6, a7, a8, a51, a11, a12, x27.1.1, x33.1) _ hF ?_
           exact ⟨u50, zu50, oy ok, wy ok⟩
end Go.Proofs.YtilhbalhkljanaaGreatDoor
