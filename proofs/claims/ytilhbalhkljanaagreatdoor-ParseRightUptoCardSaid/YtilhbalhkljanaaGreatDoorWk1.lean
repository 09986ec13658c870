/- The walks. No condition. -/
import Derived.Test.YtilhbalhkljanaaGreatDoorWs
import Derived.Test.YtilhbalhkljanaaGreatDoorQz
import Derived.Test.YtilhbalhkljanaaGreatDoorPf
import Derived.Test.YtilhbalhkljanaaGreatDoorTy
import Derived.Test.YtilhbalhkljanaaGreatDoorRk
import Derived.Test.YtilhbalhkljanaaGreatDoorEng35
set_option linter.unusedVariables false
set_option linter.unusedSimpArgs false
set_option maxRecDepth 20000
set_option maxHeartbeats 8000000
namespace Go.Proofs.YtilhbalhkljanaaGreatDoor
theorem M8 (p0 : List UInt8) (p1 : List UInt8) {G : Bool → Prop} (h : Heap) (hF : Am (Hk p0 p1) G) : CallsA Tryz.prog 140 [.sl 1 (List.map AL p0) 0, .sl 1 (List.map AL p1) 0] h fun d h' => ∃ r, G r ∧ d = .bool r ∧ h' = h := by
 refine CallsA.ret ?_
 refine Be Tryz.func140 rfl cV Tryz.ntmps140 rfl (fun ok => ?_)
 rw [Hk] at hF
 refine Ic ?_
 refine ET ?_
 refine Re ?_
 refine Jp ?_
 refine Re ?_
 refine LK ?_
 refine Ep ?_
 exact rt
theorem EM (p0 : List UInt8) (p1 : List UInt8) {G : Bool → Prop} (h : Heap) (hF : Am (C3 p0 p1) G) : CallsA Tryz.prog 90 [.sl 1 (List.map AL p0) 0, .sl 1 (List.map AL p1) 0] h fun d h' => ∃ r, G r ∧ d = .bool r ∧ h' = h := by
 refine CallsA.ret ?_
 refine Be Tryz.func90 rfl fT Tryz.ntmps90 rfl (fun ok => ?_)
 rw [C3] at hF
 refine Ic ?_
 refine ET ?_
 refine Mc ?_
 refine VZ ?_
 refine RE ?_
 refine Bu 7 17 hF (fun J2 hb1 hF => ?_) (fun J2 hb1 hF => ?_) (fun v3 hF => ?_)
 ·refine Xf ?_
  refine V2 ?_
  refine Mc ?_
  refine AF ?_
  refine HC rfl Ca Dw JA (EY rfl) hF (fun x4 _ hF => ?_)
  refine AF ?_
  refine V2 ?_
  refine cl (AT (fun _ h hF => M8 _ _ h hF) _ hF fun x5 _ hF => ?_)
  refine Hv ?_
  exact tw
 ·refine GU ?_
  refine IE ?_
  exact tw
 ·refine Ep ?_
  exact rt
theorem JP (p0 : List UInt8) (p1 : List UInt8) {G : (List UInt8) → Prop} (h : Heap) (hF : Am (Dd p0 p1) G) : CallsA Tryz.prog 55 [.sl 1 (List.map AL p0) 0, .sl 1 (List.map AL p1) 0] h fun d h' => ∃ r, G r ∧ d = .sl 1 (List.map AL r) 0 ∧ h' = h := by
 refine CallsA.ret ?_
 refine Be Tryz.func55 rfl eW Tryz.ntmps55 rfl (fun ok => ?_)
 rw [Dd] at hF
 refine Bg ?_
 refine S_a (v := .snil) rfl ?_
 refine Eg 4 (v := .sl 1 (List.map AL ([] : List UInt8)) 0) (.nil _) ?_
 refine Ht ?_
 refine ET ?_
 refine Jp ?_
 refine cl (AT (fun _ h hF => EM _ _ h hF) _ hF fun x1 _ hF => ?_)
 refine AY ?_
 refine Au rfl hF (fun hb2 hF => ?_) fun hb2 hF => ?_
 ·refine ET ?_
  refine VZ ?_
  refine HC rfl Ca Dw (EY rfl) Iz hF (fun x3 _ hF => ?_)
  refine NK ?_
  refine Mn ?_
  exact rt
 ·refine Cl ?_
  refine ET ?_
  refine NK ?_
  refine Mn ?_
  exact rt
theorem NF (p0 : List UInt8) {G : (List UInt8) → Prop} (h : Heap) (hF : Am (E1 p0) G) : CallsA Tryz.prog 54 [.sl 1 (List.map AL p0) 0] h fun d h' => ∃ r, G r ∧ d = .sl 1 (List.map AL r) 0 ∧ h' = h := by
 refine CallsA.ret ?_
 refine Be Tryz.func54 rfl gk Tryz.ntmps54 rfl (fun ok => ?_)
 rw [E1] at hF
 refine Bg ?_
 refine S_a (v := .snil) rfl ?_
 refine Eg 2 (v := .sl 1 (List.map AL ([] : List UInt8)) 0) (.nil _) ?_
 refine Ht ?_
 refine CR (mdl [(8, 1)]) ?_
 refine VZ ?_
 refine cY (c := AL) (z0 := (0 : UInt8)) ok rfl GL rfl rfl rfl hF ?_
 intro u1 zu1 ok hF
 obtain ⟨a2, ha2, hF⟩ := D9 hF
 rw [← ha2] at ok zu1
 rw [← ha2]
 refine Sa ?_
 refine A5 hF (fun (a48 : (List UInt8)) s' => ∃ g47 : Nat, (g47 = 0 → a48 = []) ∧ OK h [mo g47 AL a48] ∧ WS s' ⟨Al 40 [(3, Aq 1 g47 a48)], Hp h [mo g47 AL a48]⟩) (fun J49 hF => ?_) ?_
 ·refine ET ?_
  refine Mc ?_
  refine Ia ?_
  refine Cg (σ := (List UInt8) × Int) hF (fun (v : (List UInt8) × Int) s' => match v with | (a51, a52) => ∃ g50 : Nat, (g50 = 0 → a51 = []) ∧ OK h [mo g50 AL a51] ∧ WS s' ⟨Al 40 [(0, .sl 1 (List.map AL p0) 0), (3, Aq 1 g50 a51), (9, .sl 1 (List.map AL p0) 0), (10, .int .i64 (p0.length : Int)), (11, .int .i64 a52)], Hp h [mo g50 AL a51]⟩) ?_ ?_
  ·exact ⟨u1, zu1, oy ok, wy ok⟩
  ·rintro G53 hG54 rec55 ⟨a51, a52⟩ s' ih56 hF ⟨g50, zg50, ok, hws⟩
   refine AO hws ?_
   clear hws s'
   rw [DA] at hF
   refine Ih ?_
   refine Au rfl hF (fun hb57 hF => ?_) fun hb57 hF => ?_
   ·refine Cl ?_
    refine A5 hF (fun (a78 : (List UInt8)) s' => ∃ g77 : Nat, (g77 = 0 → a78 = []) ∧ OK h [mo g77 AL a78] ∧ WS s' ⟨Al 40 [(0, .sl 1 (List.map AL p0) 0), (3, Aq 1 g77 a78), (9, .sl 1 (List.map AL p0) 0), (10, .int .i64 (p0.length : Int)), (11, .int .i64 a52)], Hp h [mo g77 AL a78]⟩) (fun J79 hF => ?_) ?_
    ·refine O5 ?_
     refine Gh rfl rfl Ca Dw hF (fun x80 _ hF => ?_)
     refine bd ?_
     refine IY ?_
     refine A5 hF (fun (a88 : Int) s' => OK h [mo g50 AL a51] ∧ WS s' ⟨Al 40 [(0, .sl 1 (List.map AL p0) 0), (3, Aq 1 g50 a51), (5, .int .u8 a88), (9, .sl 1 (List.map AL p0) 0), (10, .int .i64 (p0.length : Int)), (11, .int .i64 a52)], Hp h [mo g50 AL a51]⟩) (fun J89 hF => ?_) ?_
     ·refine O5 ?_
      refine II ?_
      refine Cp (b := ((x80.toNat : Int) == (10 : Int))) 3 22 (.bool (((x80.toNat : Int) == (10 : Int)) && (decide ((0 : Int) < a52)))) (fun hb90 => ?_) (fun hb90 => ?_) ?_
      ·refine KO ?_
       refine Sk ?_
       refine Hv ?_
       exact th
      ·refine IE ?_
       exact th
      refine CM ?_
      refine Bu 7 30 hF (fun J92 hb91 hF => ?_) (fun J92 hb91 hF => ?_) (fun v93 hF => ?_)
      ·refine Xf ?_
       refine W0 ?_
       refine Wl ?_
       refine Gh rfl rfl Ca Dw hF (fun x94 _ hF => ?_)
       refine eA ?_
       refine Tq ?_
       exact tw
      ·refine GU ?_
       refine IE ?_
       exact tw
      ·refine CS ?_
       refine Au rfl hF (fun hb95 hF => ?_) fun hb95 hF => ?_
       ·refine DS ?_
        exact ⟨a51, hF, g50, zg50, oy ok, wy ok⟩
       ·refine FA ?_
        refine Pw ?_
        refine Au rfl hF (fun hb96 hF => ?_) fun hb96 hF => ?_
        ·refine Hu ?_
         refine Fx ?_
         exact ⟨(10 : Int), hF, oy ok, wy ok⟩
        ·refine Cl ?_
         exact ⟨(x80.toNat : Int), hF, oy ok, wy ok⟩
     ·rintro a88 s' hF ⟨ok, hws⟩
      refine AO hws ?_
      clear hws s'
      refine CR (mdl [(37, 1)]) ?_
      refine GV ?_
      obtain ⟨b97, hb97, hF⟩ := BD hF
      replace hb97 := Nl hb97
      refine Fq (es := List.map AL [b97]) rfl GL rfl rfl (by simp only [List.map_cons, List.map_nil, AL, hb97]; rfl) ?_
      refine I4 (j := 0) (M := [b97]) ok zg50 rfl rfl JS (fun _ => rfl) rfl GL X8 hF ?_
      intro u98 zu98 ok hF
      obtain ⟨a99, ha99, hF⟩ := D9 hF
      rw [← ha99] at ok zu98
      rw [← ha99]
      refine Sa ?_
      exact ⟨a99, hF, u98, zu98, oy ok, wy ok⟩
    ·rintro a78 s' hF ⟨g77, zg77, ok, hws⟩
     refine AO hws ?_
     clear hws s'
     refine R5 ?_
     refine ih56 (a78, (IntKind.wrap .i64 (a52 + (1 : Int)))) _ hF ?_
     exact ⟨g77, zg77, oy ok, wy ok⟩
   ·refine DS ?_
    replace hF := hG54 _ (Ak hF)
    exact ⟨a51, hF, g50, zg50, oy ok, wy ok⟩
 ·rintro a48 s' hF ⟨g47, zg47, ok, hws⟩
  refine AO hws ?_
  clear hws s'
  refine SG ?_
  refine X3 ?_
  refine QS 0 2 ok zg47 rfl rfl (fun _ => rfl) (fun ok => ?_)
  refine AY ?_
  refine Mn ?_
  exact rt
theorem HT (p0 : List UInt8) {G : (List UInt8) → Prop} (h : Heap) (hF : Am (CA p0) G) : CallsA Tryz.prog 25 [.sl 1 (List.map AL p0) 0] h fun d h' => ∃ r, G r ∧ d = .sl 1 (List.map AL r) 0 ∧ h' = h := by
 refine CallsA.ret ?_
 refine Be Tryz.func25 rfl fN Tryz.ntmps25 rfl (fun ok => ?_)
 rw [CA] at hF
 refine Bg ?_
 refine S_a (v := .snil) rfl ?_
 refine Eg 2 (v := .sl 1 (List.map AL ([] : List UInt8)) 0) (.nil _) ?_
 refine AY ?_
 refine ET ?_
 obtain ⟨b1, hb1, hF⟩ := BD hF
 replace hb1 := Nl hb1
 obtain ⟨b2, hb2, hF⟩ := BD hF
 replace hb2 := Nl hb2
 obtain ⟨b3, hb3, hF⟩ := BD hF
 replace hb3 := Nl hb3
 refine Fq (es := List.map AL [b1, b2, b3]) rfl GL rfl rfl (by simp only [List.map_cons, List.map_nil, AL, hb1, hb2, hb3]; rfl) ?_
 refine cl (AT (fun _ h hF => JP _ _ h hF) _ hF fun x4 _ hF => ?_)
 refine cl (AT (fun _ h hF => NF _ h hF) _ hF fun x5 _ hF => ?_)
 refine NK ?_
 refine Mn ?_
 exact rt
theorem J1 (p0 : Int) (p1 : List Aj) {G : Bool → Prop} (h : Heap) (hF : Am (Gt p0 p1) G) : CallsA Tryz.prog 150 [.int .i32 p0, .sl 2 (List.map Bi p1) 0] h fun d h' => ∃ r, G r ∧ d = .bool r ∧ h' = h := by
 refine CallsA.ret ?_
 refine Be Tryz.func150 rfl c9 Tryz.ntmps150 rfl (fun ok => ?_)
 rw [Gt] at hF
 refine Ic ?_
 refine A5 hF (fun (_ : Unit) s' => OK h [] ∧ WS s' ⟨Al 22 [], Hp h []⟩) (fun J6 hF => ?_) ?_
 ·refine ET ?_
  refine HU rfl PY ?_
  refine Ia ?_
  refine Cg (σ := Int) hF (fun (a7 : Int) s' => OK h [] ∧ WS s' ⟨Al 22 [(0, .int .i32 p0), (7, .sl 2 (List.map Bi p1) 0), (8, .int .i64 (p1.length : Int)), (9, .int .i64 a7)], Hp h []⟩) ?_ ?_
  ·exact ⟨oy ok, wy ok⟩
  ·rintro G8 hG9 rec10 a7 s' ih11 hF ⟨ok, hws⟩
   refine AO hws ?_
   clear hws s'
   rw [GK] at hF
   refine Ih ?_
   refine Au rfl hF (fun hb12 hF => ?_) fun hb12 hF => ?_
   ·refine TG ?_
    refine CR (mdl [(6, 1)]) ?_
    refine Gh rfl rfl PY MD hF (fun x13 _ hF => ?_)
    refine AX rfl (A4 (vs := Bi x13) Wm MD rfl rfl) ?_
    refine DB ok rfl C4 ?_
    intro i14 hi14 ok
    refine Cv (j := 0) (cs' := [.int .i32 x13.lo, .int .i32 x13.hi]) ok rfl rfl rfl hi14 rfl MD rfl rfl (fun ok => ?_)
    refine AY ?_
    refine FA ?_
    refine DF rfl SL Lt ?_
    refine DT (j := 0) ok rfl rfl rfl hi14 (Bf (v := .int .i32 x13.hi) SH Lt rfl) ?_
    refine V1 ?_
    refine AY ?_
    refine Au rfl hF (fun hb15 hF => ?_) fun hb15 hF => ?_
    ·refine FA ?_
     refine DF rfl Sf Lt ?_
     refine DT (j := 0) ok rfl rfl rfl hi14 (Bf (v := .int .i32 x13.lo) SH Lt rfl) ?_
     refine Lc ?_
     refine Ep ?_
     replace hF := hG9 _ (Ak hF)
     exact rt
    ·refine KZ ?_
     refine ih11 (IntKind.wrap .i64 (a7 + (1 : Int))) _ hF ?_
     exact ⟨oy ok, wy ok⟩
   ·refine DS ?_
    replace hF := hG9 _ (Ak hF)
    exact ⟨(), hF, oy ok, wy ok⟩
 ·rintro ⟨⟩ s' hF ⟨ok, hws⟩
  refine AO hws ?_
  clear hws s'
  refine Ki ?_
  exact rt
theorem JD (p0 : Int) {G : Bool → Prop} (h : Heap) (hF : Am (Eh p0) G) : CallsA Tryz.prog 116 [.int .i32 p0] h fun d h' => ∃ r, G r ∧ d = .bool r ∧ h' = h := by
 refine CallsA.ret ?_
 refine Be Tryz.func116 rfl cB Tryz.ntmps116 rfl (fun ok => ?_)
 rw [Eh] at hF
 refine Ic ?_
 refine FA ?_
 refine II ?_
 refine Cp (b := (p0 == (9 : Int))) 3 8 (.bool ((p0 == (9 : Int)) || (p0 == (10 : Int)))) (fun hb1 => ?_) (fun hb1 => ?_) ?_
 ·refine Md ?_
  exact th
 ·refine RJ ?_
  exact th
 refine CM ?_
 refine Cp (b := ((p0 == (9 : Int)) || (p0 == (10 : Int)))) 3 12 (.bool (((p0 == (9 : Int)) || (p0 == (10 : Int))) || (p0 == (13 : Int)))) (fun hb2 => ?_) (fun hb2 => ?_) ?_
 ·refine Md ?_
  exact th
 ·refine RJ ?_
  exact th
 refine CM ?_
 refine Bu 7 20 hF (fun J4 hb3 hF => ?_) (fun J4 hb3 hF => ?_) (fun v5 hF => ?_)
 ·refine WG ?_
  exact tw
 ·refine KO ?_
  refine CN (v := .agg (Bi (⟨(32 : Int), (55295 : Int)⟩ : Aj))) (Ej C4 Dj rfl) ?_
  refine AF ?_
  refine CN (v := .agg (Bi (⟨(57344 : Int), (65533 : Int)⟩ : Aj))) (Ej C4 Dj rfl) ?_
  refine AF ?_
  refine CN (v := .agg (Bi (⟨(65536 : Int), (1114111 : Int)⟩ : Aj))) (Ej C4 Dj rfl) ?_
  refine AF ?_
  refine Fq (cs := [.int .i32 (⟨(32 : Int), (55295 : Int)⟩ : Aj).lo, .int .i32 (⟨(32 : Int), (55295 : Int)⟩ : Aj).hi, .int .i32 (⟨(57344 : Int), (65533 : Int)⟩ : Aj).lo, .int .i32 (⟨(57344 : Int), (65533 : Int)⟩ : Aj).hi, .int .i32 (⟨(65536 : Int), (1114111 : Int)⟩ : Aj).lo, .int .i32 (⟨(65536 : Int), (1114111 : Int)⟩ : Aj).hi]) (es := (List.map Bi [(⟨(32 : Int), (55295 : Int)⟩ : Aj), (⟨(57344 : Int), (65533 : Int)⟩ : Aj), (⟨(65536 : Int), (1114111 : Int)⟩ : Aj)])) rfl Mu rfl (by kernel_rfl) (by kernel_rfl) ?_
  refine AF ?_
  refine cl (AT (fun _ h hF => J1 _ _ h hF) _ hF fun x6 _ hF => ?_)
  refine EK ?_
  exact tw
 ·refine Ep ?_
  exact rt
theorem KS (p0 : List UInt8) (p1 : Int) {G : Int × Int × Int → Prop} (h : Heap) (hF : Am (FH p0 p1) G) : CallsA Tryz.prog 76 [.sl 1 (List.map AL p0) 0, .int .i64 p1] h fun d h' => ∃ r, G r ∧ d = .tup [.int .i32 r.1, .int .i64 r.2.1, .int .i64 r.2.2] ∧ h' = h := by
 refine CallsA.ret ?_
 refine Be Tryz.func76 rfl f7 Tryz.ntmps76 rfl (fun ok => ?_)
 rw [FH] at hF
 refine Bg ?_
 refine O8 ?_
 refine V5 ?_
 refine TI ?_
 refine Cp (b := (decide (p1 < (0 : Int)))) 5 16 (.bool ((decide (p1 < (0 : Int))) || (decide ((p0.length : Int) ≤ p1)))) (fun hb1 => ?_) (fun hb1 => ?_) ?_
 ·refine Lm ?_
  exact th
 ·refine KO ?_
  refine V2 ?_
  refine Mc ?_
  refine AF ?_
  refine Lc ?_
  refine EK ?_
  exact th
 refine AY ?_
 refine Au rfl hF (fun hb2 hF => ?_) fun hb2 hF => ?_
 ·refine Bg ?_
  refine RZ ?_
  exact rt
 ·refine Cl ?_
  refine Xo ?_
  refine HC rfl Ca Dw (EY rfl) Iz hF (fun x3 _ hF => ?_)
  refine cl (JE _ hF fun x4 _ hF => ?_)
  refine I7 ?_
  refine IY ?_
  refine Ec ?_
  refine O5 ?_
  refine II ?_
  refine Cp (b := (x4.1 == (65533 : Int))) 3 30 (.bool ((x4.1 == (65533 : Int)) && (decide (x4.2 < (3 : Int))))) (fun hb5 => ?_) (fun hb5 => ?_) ?_
  ·refine KO ?_
   refine V8 ?_
   exact th
  ·refine IE ?_
   exact th
  refine CS ?_
  refine Au rfl hF (fun hb6 hF => ?_) fun hb6 hF => ?_
  ·refine Bg ?_
   refine RZ ?_
   exact rt
  ·refine FA ?_
   refine cl (AT (fun _ h hF => JD _ h hF) _ hF fun x7 _ hF => ?_)
   refine Nb ?_
   refine CS ?_
   refine Au rfl hF (fun hb8 hF => ?_) fun hb8 hF => ?_
   ·refine Bg ?_
    refine RZ ?_
    exact rt
   ·refine Cl ?_
    refine Ib ?_
    refine Jn ?_
    refine RZ ?_
    exact rt
theorem JT (p0 : List UInt8) {G : Int × Int → Prop} (h : Heap) (hF : Am (DL p0) G) : CallsA Tryz.prog 47 [.sl 1 (List.map AL p0) 0] h fun d h' => ∃ r, G r ∧ d = .tup [.int .i64 r.1, .int .i64 r.2] ∧ h' = h := by
 refine CallsA.ret ?_
 refine Be Tryz.func47 rfl eO Tryz.ntmps47 rfl (fun ok => ?_)
 rw [DL] at hF
 refine Bg ?_
 refine IY ?_
 refine A5 hF (fun (_ : Unit) s' => OK h [] ∧ WS s' ⟨Al 24 [], Hp h []⟩) (fun J5 hF => ?_) ?_
 ·refine HI ?_
  refine FB ?_
  refine Cg (σ := Int) hF (fun (a6 : Int) s' => OK h [] ∧ WS s' ⟨Al 24 [(0, .sl 1 (List.map AL p0) 0), (4, .int .i64 a6)], Hp h []⟩) ?_ ?_
  ·exact ⟨oy ok, wy ok⟩
  ·rintro G7 hG8 rec9 a6 s' ih10 hF ⟨ok, hws⟩
   refine AO hws ?_
   clear hws s'
   rw [C9] at hF
   refine I1 ?_
   refine VZ ?_
   refine K9 ?_
   refine Au rfl hF (fun hb11 hF => ?_) fun hb11 hF => ?_
   ·refine WD ?_
    refine Xo ?_
    refine cl (AT (fun _ h hF => KS _ _ h hF) _ hF fun x12 _ hF => ?_)
    refine Qj ?_
    refine O8 ?_
    refine V5 ?_
    refine MB ?_
    refine Au rfl hF (fun hb13 hF => ?_) fun hb13 hF => ?_
    ·refine Ib ?_
     refine IU ?_
     replace hF := hG8 _ (Ak hF)
     exact rt
    ·refine Cl ?_
     refine TH ?_
     refine ih10 x12.2.1 _ hF ?_
     exact ⟨oy ok, wy ok⟩
   ·refine DS ?_
    replace hF := hG8 _ (Ak hF)
    exact ⟨(), hF, oy ok, wy ok⟩
 ·rintro ⟨⟩ s' hF ⟨ok, hws⟩
  refine AO hws ?_
  clear hws s'
  refine Qz ?_
  exact rt
theorem A3 (p0 : TS) (p1 : List UInt8) (q0 : Nat) {G : Bool → Prop} (h : Heap) (O : List (Nat × AObj)) (hq0 : q0 ≠ 0) (ok : OK h ((q0, .cells [.sl 1 (List.map AL p0.b) 0, .int .i64 p0.at_]) :: O)) (hF : Am (Ap p0 p1) G) : CallsA Tryz.prog 77 [.ptr q0 0, .str p1] (Hp h ((q0, .cells [.sl 1 (List.map AL p0.b) 0, .int .i64 p0.at_]) :: O)) fun d h' => ∃ r, G r ∧ d = .bool r ∧ OK h ((q0, .cells [.sl 1 (List.map AL p0.b) 0, .int .i64 p0.at_]) :: O) ∧ h' = Hp h ((q0, .cells [.sl 1 (List.map AL p0.b) 0, .int .i64 p0.at_]) :: O) := by
 refine CallsA.ret ?_
 refine CJ Tryz.func77 rfl fY Tryz.ntmps77 rfl ?_
 rw [Ap] at hF
 refine Ic ?_
 refine Ec ?_
 refine EW (mdl []) (by kernel_rfl) (by kernel_rfl) ?_
 refine V9 ?_
 refine HC rfl Ca Dw (EY rfl) Iz hF (fun x1 _ hF => ?_)
 refine JK ?_
 refine ZN ?_
 refine cl (AT (fun _ h hF => EM _ _ h hF) _ hF fun x2 _ hF => ?_)
 refine Ep ?_
 refine rr ?_
 exact ⟨_, _, (.refl _), hy ok, _, Ak hF, rfl, oy ok, rfl⟩
theorem B0 (p0 : TS) (p1 : Int) (q0 : Nat) {G : Int → Prop} (h : Heap) (O : List (Nat × AObj)) (hq0 : q0 ≠ 0) (ok : OK h ((q0, .cells [.sl 1 (List.map AL p0.b) 0, .int .i64 p0.at_]) :: O)) (hF : Am (Bo p0 p1) G) : CallsA Tryz.prog 78 [.ptr q0 0, .int .i64 p1] (Hp h ((q0, .cells [.sl 1 (List.map AL p0.b) 0, .int .i64 p0.at_]) :: O)) fun d h' => ∃ r, G r ∧ d = .int .i64 r ∧ OK h ((q0, .cells [.sl 1 (List.map AL p0.b) 0, .int .i64 p0.at_]) :: O) ∧ h' = Hp h ((q0, .cells [.sl 1 (List.map AL p0.b) 0, .int .i64 p0.at_]) :: O) := by
 refine CallsA.ret ?_
 refine CJ Tryz.func78 rfl eX Tryz.ntmps78 rfl ?_
 rw [Bo] at hF
 refine HI ?_
 refine A5 hF (fun (a8 : Int) s' => OK h ((q0, .cells [.sl 1 (List.map AL p0.b) 0, .int .i64 p0.at_]) :: O) ∧ WS s' ⟨Al 26 [(1, .int .i64 a8)], Hp h ((q0, .cells [.sl 1 (List.map AL p0.b) 0, .int .i64 p0.at_]) :: O)⟩) (fun J9 hF => ?_) ?_
 ·refine FB ?_
  refine Cg (σ := Int) hF (fun (a10 : Int) s' => OK h ((q0, .cells [.sl 1 (List.map AL p0.b) 0, .int .i64 p0.at_]) :: O) ∧ WS s' ⟨Al 26 [(0, .ptr q0 0), (1, .int .i64 a10)], Hp h ((q0, .cells [.sl 1 (List.map AL p0.b) 0, .int .i64 p0.at_]) :: O)⟩) ?_ ?_
  ·exact ⟨oy ok, wy ok⟩
  ·rintro G11 hG12 rec13 a10 s' ih14 hF ⟨ok, hws⟩
   refine AO hws ?_
   clear hws s'
   rw [C8] at hF
   refine I1 ?_
   refine cS ?_
   refine Mc ?_
   refine TI ?_
   refine Bu 10 22 hF (fun J16 hb15 hF => ?_) (fun J16 hb15 hF => ?_) (fun v17 hF => ?_)
   ·refine UM ?_
    refine aE ?_
    refine AF ?_
    refine ea ?_
    refine Ps ?_
    refine Gh rfl rfl Ca Dw hF (fun x18 _ hF => ?_)
    refine eA ?_
    refine AF ?_
    refine cl (JO _ hF fun x19 _ hF => ?_)
    refine AF ?_
    refine Lc ?_
    refine Hv ?_
    exact tw
   ·refine GU ?_
    refine MA ?_
    exact tw
   ·refine AY ?_
    refine Au rfl hF (fun hb20 hF => ?_) fun hb20 hF => ?_
    ·refine WD ?_
     refine O4 ?_
     refine ih14 (IntKind.wrap .i64 (a10 + (1 : Int))) _ hF ?_
     exact ⟨oy ok, wy ok⟩
    ·refine DS ?_
     replace hF := hG12 _ (Ak hF)
     exact ⟨a10, hF, oy ok, wy ok⟩
 ·rintro a8 s' hF ⟨ok, hws⟩
  refine AO hws ?_
  clear hws s'
  refine If ?_
  refine rr ?_
  exact ⟨_, _, (.refl _), hy ok, _, Ak hF, rfl, oy ok, rfl⟩
theorem CG (p0 : TS) (p1 : List UInt8) (q0 : Nat) {G : Int × TS → Prop} (h : Heap) (O : List (Nat × AObj)) (hq0 : q0 ≠ 0) (ok : OK h ((q0, .cells [.sl 1 (List.map AL p0.b) 0, .int .i64 p0.at_]) :: O)) (hF : Am (Bk p0 p1) G) : CallsA Tryz.prog 81 [.ptr q0 0, .str p1] (Hp h ((q0, .cells [.sl 1 (List.map AL p0.b) 0, .int .i64 p0.at_]) :: O)) fun d h' => ∃ r, G r ∧ d = .int .i64 r.1 ∧ OK h ((q0, .cells [.sl 1 (List.map AL r.2.b) 0, .int .i64 r.2.at_]) :: O) ∧ h' = Hp h ((q0, .cells [.sl 1 (List.map AL r.2.b) 0, .int .i64 r.2.at_]) :: O) := by
 refine CallsA.ret ?_
 refine CJ Tryz.func81 rfl fv Tryz.ntmps81 rfl ?_
 rw [Bk] at hF
 refine T9 ?_
 refine GF ?_
 refine JK ?_
 refine cl (okT (fun _ hF => A3 _ (p0 := p0) (q0 := q0) h (O) hq0 ok hF) hF fun x1 _ _ _ hq hF => ?_)
 obtain ⟨rfl, ok, rfl⟩ := hq
 refine OC ?_
 refine Au rfl hF (fun hb2 hF => ?_) fun hb2 hF => ?_
 ·refine DI ?_
  refine rr ?_
  exact ⟨_, _, (.refl _), hy ok, _, Ak hF, rfl, oy ok, rfl⟩
 ·refine Km ?_
  refine Pa ?_
  refine TJ ?_
  refine RR ?_
  refine Cv (j := 0) (cs' := [.sl 1 (List.map AL p0.b) 0, .int .i64 (IntKind.wrap .i64 (p0.at_ + (p1.length : Int)))]) ok rfl rfl rfl hq0 rfl AN rfl rfl (fun ok => ?_)
  refine AY ?_
  refine DI ?_
  refine rr ?_
  exact ⟨_, _, (.refl _), hy ok, _, Ak hF, rfl, oy ok, rfl⟩
theorem Gm (p0 : TS) (q0 : Nat) {G : Int × TS → Prop} (h : Heap) (O : List (Nat × AObj)) (hq0 : q0 ≠ 0) (ok : OK h ((q0, .cells [.sl 1 (List.map AL p0.b) 0, .int .i64 p0.at_]) :: O)) (hF : Am (BO p0) G) : CallsA Tryz.prog 118 [.ptr q0 0] (Hp h ((q0, .cells [.sl 1 (List.map AL p0.b) 0, .int .i64 p0.at_]) :: O)) fun d h' => ∃ r, G r ∧ d = .int .i64 r.1 ∧ OK h ((q0, .cells [.sl 1 (List.map AL r.2.b) 0, .int .i64 r.2.at_]) :: O) ∧ h' = Hp h ((q0, .cells [.sl 1 (List.map AL r.2.b) 0, .int .i64 r.2.at_]) :: O) := by
 refine CallsA.ret ?_
 refine CJ Tryz.func118 rfl dA Tryz.ntmps118 rfl ?_
 rw [BO] at hF
 refine HI ?_
 refine Rf ?_
 refine Qm ?_
 refine cl (okT (fun _ hF => B0 _ (p0 := p0) (q0 := q0) h (O) hq0 ok hF) hF fun x1 _ _ _ hq hF => ?_)
 obtain ⟨rfl, ok, rfl⟩ := hq
 refine L5 ?_
 refine Cv (j := 0) (cs' := [.sl 1 (List.map AL p0.b) 0, .int .i64 x1]) ok rfl rfl rfl hq0 rfl AN rfl rfl (fun ok => ?_)
 refine Ii ?_
 refine cl (okT (fun _ hF => CG _ (p0 := (⟨p0.b, x1⟩ : TS)) (q0 := q0) h (O) hq0 ok hF) hF fun x2 _ _ _ hq hF => ?_)
 obtain ⟨rfl, ok, rfl⟩ := hq
 refine Fx ?_
 refine Rf ?_
 refine Qm ?_
 refine cl (okT (fun _ hF => B0 _ (p0 := x2.2) (q0 := q0) h (O) hq0 ok hF) hF fun x3 _ _ _ hq hF => ?_)
 obtain ⟨rfl, ok, rfl⟩ := hq
 refine L5 ?_
 refine Cv (j := 0) (cs' := [.sl 1 (List.map AL x2.2.b) 0, .int .i64 x3]) ok rfl rfl rfl hq0 rfl AN rfl rfl (fun ok => ?_)
 refine AY ?_
 refine If ?_
 refine rr ?_
 exact ⟨_, _, (.refl _), hy ok, _, Ak hF, rfl, oy ok, rfl⟩
theorem Gk (p0 : TS) (q0 : Nat) {G : ((List UInt8) × Int) × TS → Prop} (h : Heap) (O : List (Nat × AObj)) (hq0 : q0 ≠ 0) (ok : OK h ((q0, .cells [.sl 1 (List.map AL p0.b) 0, .int .i64 p0.at_]) :: O)) (hF : Am (Ct p0) G) : CallsA Tryz.prog 119 [.ptr q0 0] (Hp h ((q0, .cells [.sl 1 (List.map AL p0.b) 0, .int .i64 p0.at_]) :: O)) fun d h' => ∃ r, G r ∧ d = .tup [.sl 1 (List.map AL r.1.1) 0, .int .i64 r.1.2] ∧ OK h ((q0, .cells [.sl 1 (List.map AL r.2.b) 0, .int .i64 r.2.at_]) :: O) ∧ h' = Hp h ((q0, .cells [.sl 1 (List.map AL r.2.b) 0, .int .i64 r.2.at_]) :: O) := by
 refine CallsA.ret ?_
 refine CJ Tryz.func119 rfl b8 Tryz.ntmps119 rfl ?_
 rw [Ct] at hF
 refine Bg ?_
 refine S_a (v := .snil) rfl ?_
 refine Eg 2 (v := .sl 1 (List.map AL ([] : List UInt8)) 0) (.nil _) ?_
 refine Mt ?_
 refine GF ?_
 refine cl (okT (fun _ hF => A3 _ (p0 := p0) (q0 := q0) h (O) hq0 ok hF) hF fun x1 _ _ _ hq hF => ?_)
 obtain ⟨rfl, ok, rfl⟩ := hq
 refine Nb ?_
 refine CM ?_
 refine Bu 4 13 hF (fun J3 hb2 hF => ?_) (fun J3 hb2 hF => ?_) (fun v4 hF => ?_)
 ·refine YM ?_
  refine cl (okT (fun _ hF => A3 _ (p0 := p0) (q0 := q0) h (O) hq0 ok hF) hF fun x5 _ _ _ hq hF => ?_)
  obtain ⟨rfl, ok, rfl⟩ := hq
  refine OA ?_
  refine Hv ?_
  exact tw
 ·refine KK ?_
  exact tw
 ·refine AY ?_
  refine Au rfl hF (fun hb6 hF => ?_) fun hb6 hF => ?_
  ·refine Bg ?_
   refine S_a (v := .snil) rfl ?_
   refine Eg 2 (v := .sl 1 (List.map AL ([] : List UInt8)) 0) (.nil _) ?_
   refine Fp ?_
   refine rr ?_
   exact ⟨_, _, (.tupC (.refl _)), hy ok, _, Ak hF, rfl, oy ok, rfl⟩
  ·refine HE ?_
   refine EW (mdl []) (by kernel_rfl) (by kernel_rfl) ?_
   refine V9 ?_
   refine I6 ?_
   refine HC rfl Ca Dw (EY rfl) Iz hF (fun x7 _ hF => ?_)
   refine Sd ?_
   refine Ht ?_
   refine EW (mdl [(34, 3)]) (by kernel_rfl) (by kernel_rfl) ?_
   refine Jp ?_
   refine V9 ?_
   refine Gh rfl rfl Ca Dw hF (fun x8 _ hF => ?_)
   refine bd ?_
   refine cl (Hw _ hF fun x9 _ hF => ?_)
   refine Ln ?_
   refine K9 ?_
   refine Au rfl hF (fun hb10 hF => ?_) fun hb10 hF => ?_
   ·refine Bg ?_
    refine S_a (v := .snil) rfl ?_
    refine Eg 2 (v := .sl 1 (List.map AL ([] : List UInt8)) 0) (.nil _) ?_
    refine Fp ?_
    refine rr ?_
    exact ⟨_, _, (.tupC (.refl _)), hy ok, _, Ak hF, rfl, oy ok, rfl⟩
   ·refine Km ?_
    refine Pa ?_
    refine Jn ?_
    refine RR ?_
    refine Cv (j := 0) (cs' := [.sl 1 (List.map AL p0.b) 0, .int .i64 (IntKind.wrap .i64 (p0.at_ + (IntKind.wrap .i64 (x9 + (2 : Int)))))]) ok rfl rfl rfl hq0 rfl AN rfl rfl (fun ok => ?_)
    refine AY ?_
    refine Xo ?_
    refine HC rfl Ca Dw JA (EY rfl) hF (fun x11 _ hF => ?_)
    refine Sd ?_
    refine Fp ?_
    refine rr ?_
    exact ⟨_, _, (.tupC (.refl _)), hy ok, _, Ak hF, rfl, oy ok, rfl⟩
theorem Ig (p0 : List UInt8) (p1 : List UInt8) {G : Bool → Prop} (h : Heap) (hF : Am (Dg p0 p1) G) : CallsA Tryz.prog 191 [.str p0, .str p1] h fun d h' => ∃ r, G r ∧ d = .bool r ∧ h' = h := by
 refine CallsA.ret ?_
 refine Be Tryz.func191 rfl dE Tryz.ntmps191 rfl (fun ok => ?_)
 rw [Dg] at hF
 refine Ic ?_
 refine T7 ?_
 refine TJ ?_
 refine RE ?_
 refine Bu 7 17 hF (fun J2 hb1 hF => ?_) (fun J2 hb1 hF => ?_) (fun v3 hF => ?_)
 ·refine Kp ?_
  refine Ul ?_
  refine Mv ?_
  refine AF ?_
  refine PP rfl CB JA (EY rfl) hF (fun x4 _ hF => ?_)
  refine AF ?_
  refine Ul ?_
  refine Up ?_
  exact tw
 ·refine GU ?_
  refine IE ?_
  exact tw
 ·refine Ep ?_
  exact rt
theorem Ij (p0 : List UInt8) (p1 : List UInt8) {G : (List UInt8) × Bool → Prop} (h : Heap) (hF : Am (D1 p0 p1) G) : CallsA Tryz.prog 181 [.str p0, .str p1] h fun d h' => ∃ r, G r ∧ d = .tup [.str r.1, .bool r.2] ∧ h' = h := by
 refine CallsA.ret ?_
 refine Be Tryz.func181 rfl d8 Tryz.ntmps181 rfl (fun ok => ?_)
 rw [D1] at hF
 refine Bg ?_
 refine S_a (v := .str ([] : List UInt8)) rfl ?_
 refine CS ?_
 refine Ec ?_
 refine Q1 ?_
 refine cl (AT (fun _ h hF => Ig _ _ h hF) _ hF fun x1 _ hF => ?_)
 refine OC ?_
 refine Au rfl hF (fun hb2 hF => ?_) fun hb2 hF => ?_
 ·refine Fz ?_
  refine UP ?_
  exact rt
 ·refine Cl ?_
  refine Q1 ?_
  refine Mv ?_
  refine PP rfl CB (EY rfl) JA hF (fun x3 _ hF => ?_)
  refine UP ?_
  exact rt
theorem Fr (p0 : List UInt8) (p1 : List UInt8) {G : (List UInt8) × Bool → Prop} (h : Heap) (hF : Am (CZ p0 p1) G) : CallsA Tryz.prog 160 [.str p0, .str p1] h fun d h' => ∃ r, G r ∧ d = .tup [.str r.1, .bool r.2] ∧ h' = h := by
 refine CallsA.ret ?_
 refine Be Tryz.func160 rfl co Tryz.ntmps160 rfl (fun ok => ?_)
 rw [CZ] at hF
 refine Bg ?_
 refine S_a (v := .str ([] : List UInt8)) rfl ?_
 refine CS ?_
 refine Q1 ?_
 refine cl (AT (fun _ h hF => Ij _ _ h hF) _ hF fun x1 _ hF => ?_)
 refine Zp ?_
 refine UP ?_
 exact rt
theorem Pn (p0 : List UInt8) (p1 : List UInt8) {G : Bool → Prop} (h : Heap) (hF : Am (FN p0 p1) G) : CallsA Tryz.prog 120 [.str p0, .str p1] h fun d h' => ∃ r, G r ∧ d = .bool r ∧ h' = h := by
 refine CallsA.ret ?_
 refine Be Tryz.func120 rfl dU Tryz.ntmps120 rfl (fun ok => ?_)
 rw [FN] at hF
 refine Ic ?_
 refine Ec ?_
 refine Fz ?_
 refine TF ?_
 refine Nf ?_
 refine Au rfl hF (fun hb1 hF => ?_) fun hb1 hF => ?_
 ·refine Fz ?_
  refine cl (AT (fun _ h hF => Fr _ _ h hF) _ hF fun x2 _ hF => ?_)
  refine Sg ?_
  refine KM ?_
  refine RB ?_
  refine Cp (b := x2.2) 3 19 (.bool (x2.2 && (!(x2.1 == ([] : List UInt8))))) (fun hb3 => ?_) (fun hb3 => ?_) ?_
  ·refine Kp ?_
   refine RA ?_
   refine Hv ?_
   exact th
  ·refine IE ?_
   exact th
  refine CM ?_
  refine Bu 4 24 hF (fun J5 hb4 hF => ?_) (fun J5 hb4 hF => ?_) (fun v6 hF => ?_)
  ·refine Kp ?_
   refine cl (L9 _ hF fun x7 _ hF => ?_)
   refine AF ?_
   refine Up ?_
   exact tw
  ·refine KK ?_
   exact tw
  ·refine Ep ?_
   exact rt
 ·refine Bg ?_
  refine Nf ?_
  refine Au rfl hF (fun hb8 hF => ?_) fun hb8 hF => ?_
  ·refine Fz ?_
   refine RA ?_
   refine CM ?_
   refine Bu 5 34 hF (fun J10 hb9 hF => ?_) (fun J10 hb9 hF => ?_) (fun v11 hF => ?_)
   ·refine Kp ?_
    refine ZI rfl rfl CB hF (fun x12 _ hF => ?_)
    refine AF ?_
    refine cl (JO _ hF fun x13 _ hF => ?_)
    refine AF ?_
    refine Lc ?_
    refine Hv ?_
    exact tw
   ·refine TE ?_
    exact tw
   ·refine CM ?_
    refine Bu 4 39 hF (fun J15 hb14 hF => ?_) (fun J15 hb14 hF => ?_) (fun v16 hF => ?_)
    ·refine Kp ?_
     refine cl (L9 _ hF fun x17 _ hF => ?_)
     refine AF ?_
     refine Up ?_
     exact tw
    ·refine KK ?_
     exact tw
    ·refine Ep ?_
     exact rt
  ·refine Cl ?_
   refine Sl ?_
   refine CM ?_
   refine Cp (b := (p1 == ([121, 101, 115] : List UInt8))) 3 45 (.bool ((p1 == ([121, 101, 115] : List UInt8)) || (p1 == ([110, 111] : List UInt8)))) (fun hb18 => ?_) (fun hb18 => ?_) ?_
   ·refine Md ?_
    exact th
   ·refine Kp ?_
    refine LK ?_
    refine EK ?_
    exact th
   refine Ep ?_
   exact rt
theorem Fs (p0 : List UInt8) (p1 : List UInt8) {G : Bool → Prop} (h : Heap) (hF : Am (AZ p0 p1) G) : CallsA Tryz.prog 69 [.str p0, .str p1] h fun d h' => ∃ r, G r ∧ d = .bool r ∧ h' = h := by
 refine CallsA.ret ?_
 refine Be Tryz.func69 rfl fK Tryz.ntmps69 rfl (fun ok => ?_)
 rw [AZ] at hF
 refine Ic ?_
 refine O2 ?_
 refine Nu ?_
 refine Z7 0 rfl hF (fun (a49 : Int) s' => OK h [] ∧ WS s' ⟨Al 123 [(0, .str p0), (1, .str p1), (5, .int .i64 a49)], Hp h []⟩) ?_ ?_
 ·rintro a49 s' hF ⟨ok, hws⟩
  refine AO hws ?_
  clear hws s'
  refine Fz ?_
  refine Es ?_
  refine PP rfl CB (EY rfl) JA hF (fun x52 _ hF => ?_)
  refine IM ?_
  refine AY ?_
  refine Fz ?_
  refine Es ?_
  refine PP rfl CB (EY rfl) JA hF (fun x53 _ hF => ?_)
  refine IM ?_
  refine AY ?_
  refine A5 hF (fun (a80 : (List UInt8)) s' => OK h [] ∧ WS s' ⟨Al 123 [(1, .str a80)], Hp h []⟩) (fun J81 hF => ?_) ?_
  ·refine Fz ?_
   refine bI ok rfl CB ?_
   intro i82 hi82 ok
   refine AY ?_
   refine FB ?_
   refine Cg (σ := (List UInt8) × Nat) hF (fun (v : (List UInt8) × Nat) s' => match v with | (a83, a84) => OK h [(i82, .iter x52 a84)] ∧ WS s' ⟨Al 123 [(1, .str a83), (67, .ptr i82 0)], Hp h [(i82, .iter x52 a84)]⟩) ?_ ?_
   ·exact ⟨oy ok, wy ok⟩
   ·rintro G85 hG86 rec87 ⟨a83, a84⟩ s' ih88 hF ⟨ok, hws⟩
    refine AO hws ?_
    clear hws s'
    rw [BG] at hF
    refine Bg ?_
    refine bQ (j := 0) ok rfl rfl hi82 hF (fun _ ok hF => ?_) (fun hF => ?_)
    ·refine O9 ?_
     refine Ht ?_
     refine Zv rfl rfl ?_
     refine Cl ?_
     refine NU ?_
     refine O9 ?_
     refine Mt ?_
     refine T7 ?_
     refine LY ?_
     refine Au rfl hF (fun hb89 hF => ?_) fun hb89 hF => ?_
     ·refine Ki ?_
      replace hF := hG86 _ (Ak hF)
      exact rt
     ·refine Cl ?_
      refine Fz ?_
      refine cl (IK _ hF fun x90 _ hF => ?_)
      refine I7 ?_
      refine IY ?_
      refine Fz ?_
      refine Es ?_
      refine PP rfl CB (EY rfl) JA hF (fun x91 _ hF => ?_)
      refine IM ?_
      refine AY ?_
      refine Po ?_
      refine LY ?_
      refine Au rfl hF (fun hb92 hF => ?_) fun hb92 hF => ?_
      ·refine DS ?_
       refine ih88 (x91, (a84 + wdS x52 a84)) _ hF ?_
       exact ⟨oy ok, wy ok⟩
      ·refine Cl ?_
       refine A5 hF (fun (v : Int × Int) s' => match v with | (a94, a95) => OK h [(i82, .iter x52 (a84 + wdS x52 a84))] ∧ WS s' ⟨Al 123 [(1, .str x91), (10, .int .i32 a94), (11, .int .i32 a95), (67, .ptr i82 0)], Hp h [(i82, .iter x52 (a84 + wdS x52 a84))]⟩) (fun J96 hF => ?_) ?_
       ·refine Ib ?_
        refine K9 ?_
        refine Au rfl hF (fun hb97 hF => ?_) fun hb97 hF => ?_
        ·refine Wr ?_
         refine IY ?_
         exact ⟨(x90.1, (rnS x52 a84)), hF, oy ok, wy ok⟩
        ·refine Cl ?_
         exact ⟨((rnS x52 a84), x90.1), hF, oy ok, wy ok⟩
       ·rintro ⟨a94, a95⟩ s' hF ⟨ok, hws⟩
        refine AO hws ?_
        clear hws s'
        refine I1 ?_
        refine K9 ?_
        refine Au rfl hF (fun hb98 hF => ?_) fun hb98 hF => ?_
        ·refine I1 ?_
         refine V1 ?_
         refine CM ?_
         refine Cp (b := (decide ((65 : Int) ≤ a94))) 3 97 (.bool ((decide ((65 : Int) ≤ a94)) && (decide (a94 ≤ (90 : Int))))) (fun hb99 => ?_) (fun hb99 => ?_) ?_
         ·refine TL ?_
          exact th
         ·refine IE ?_
          exact th
         refine CM ?_
         refine Cp (b := ((decide ((65 : Int) ≤ a94)) && (decide (a94 ≤ (90 : Int))))) 6 104 (.bool (((decide ((65 : Int) ≤ a94)) && (decide (a94 ≤ (90 : Int)))) && (a95 == (IntKind.wrap .i32 ((IntKind.wrap .i32 (a94 + (97 : Int))) - (65 : Int)))))) (fun hb100 => ?_) (fun hb100 => ?_) ?_
         ·refine V7 ?_
          refine I6 ?_
          refine AF ?_
          refine Ix ?_
          refine Tq ?_
          exact th
         ·refine MA ?_
          exact th
         refine AY ?_
         refine Au rfl hF (fun hb101 hF => ?_) fun hb101 hF => ?_
         ·refine DS ?_
          refine ih88 (x91, (a84 + wdS x52 a84)) _ hF ?_
          exact ⟨oy ok, wy ok⟩
         ·refine VQ ?_
          replace hF := hG86 _ (Ak hF)
          exact rt
        ·refine Cl ?_
         refine FA ?_
         refine cl (Jx _ hF fun x102 _ hF => ?_)
         refine Fx ?_
         refine A5 hF (fun (a107 : Int) s' => OK h [(i82, .iter x52 (a84 + wdS x52 a84))] ∧ WS s' ⟨Al 123 [(1, .str x91), (11, .int .i32 a95), (13, .int .i32 a107), (67, .ptr i82 0)], Hp h [(i82, .iter x52 (a84 + wdS x52 a84))]⟩) (fun J108 hF => ?_) ?_
         ·refine FB ?_
          refine Cg (σ := Int) hF (fun (a109 : Int) s' => OK h [(i82, .iter x52 (a84 + wdS x52 a84))] ∧ WS s' ⟨Al 123 [(1, .str x91), (10, .int .i32 a94), (11, .int .i32 a95), (13, .int .i32 a109), (67, .ptr i82 0)], Hp h [(i82, .iter x52 (a84 + wdS x52 a84))]⟩) ?_ ?_
          ·exact ⟨oy ok, wy ok⟩
          ·rintro G110 hG111 rec112 a109 s' ih113 hF ⟨ok, hws⟩
           refine AO hws ?_
           clear hws s'
           rw [B9] at hF
           refine Po ?_
           refine Tz ?_
           refine Cp (b := (a109 != a94)) 4 114 (.bool ((a109 != a94) && (decide (a109 < a95)))) (fun hb114 => ?_) (fun hb114 => ?_) ?_
           ·refine V7 ?_
            refine V8 ?_
            exact th
           ·refine KK ?_
            exact th
           refine AY ?_
           refine Au rfl hF (fun hb115 hF => ?_) fun hb115 hF => ?_
           ·refine WD ?_
            refine RH ?_
            refine cl (Jx _ hF fun x116 _ hF => ?_)
            refine Fx ?_
            refine ih113 x116 _ hF ?_
            exact ⟨oy ok, wy ok⟩
           ·refine DS ?_
            replace hF := hG111 _ (Ak hF)
            exact ⟨a109, hF, oy ok, wy ok⟩
         ·rintro a107 s' hF ⟨ok, hws⟩
          refine AO hws ?_
          clear hws s'
          refine Po ?_
          refine LY ?_
          refine Au rfl hF (fun hb117 hF => ?_) fun hb117 hF => ?_
          ·refine DS ?_
           refine ih88 (x91, (a84 + wdS x52 a84)) _ hF ?_
           exact ⟨oy ok, wy ok⟩
          ·refine VQ ?_
           replace hF := hG86 _ (Ak hF)
           exact rt
    ·refine O9 ?_
     refine Ht ?_
     refine Yu rfl rfl ?_
     refine DS ?_
     replace hF := hG86 _ (Ak hF)
     exact ⟨a83, hF, oy ok, wy ok⟩
  ·rintro a80 s' hF ⟨ok, hws⟩
   refine AO hws ?_
   clear hws s'
   refine T7 ?_
   refine T0 ?_
   refine Ep ?_
   exact rt
 ·intro J50 hJ51 hF
  refine HI ?_
  refine A5 hF (fun (_ : Unit) s' => OK h [] ∧ WS s' ⟨Al 123 [(0, .str p0), (1, .str p1)], Hp h []⟩) (fun J142 hF => ?_) ?_
  ·refine T7 ?_
   refine TJ ?_
   refine bU rfl rfl ?_
   refine Fx ?_
   refine FB ?_
   refine Cg (σ := Int) hF (fun (a143 : Int) s' => OK h [] ∧ WS s' ⟨Al 123 [(0, .str p0), (1, .str p1), (5, .int .i64 a143), (6, .int .i64 (if (p1.length : Int) < (p0.length : Int) then (p1.length : Int) else (p0.length : Int)))], Hp h []⟩) ?_ ?_
   ·exact ⟨oy ok, wy ok⟩
   ·rintro G144 hG145 rec146 a143 s' ih147 hF ⟨ok, hws⟩
    refine AO hws ?_
    clear hws s'
    rw [Cz] at hF
    refine Tp ?_
    refine Au rfl hF (fun hb148 hF => ?_) fun hb148 hF => ?_
    ·refine Cl ?_
     refine A5 hF (fun (_ : Unit) s' => OK h [] ∧ WS s' ⟨Al 123 [(0, .str p0), (1, .str p1), (5, .int .i64 a143), (6, .int .i64 (if (p1.length : Int) < (p0.length : Int) then (p1.length : Int) else (p0.length : Int)))], Hp h []⟩) (fun J160 hF => ?_) ?_
     ·refine FB ?_
      refine Fz ?_
      refine Es ?_
      refine ZI rfl rfl CB hF (fun x161 _ hF => ?_)
      refine Fx ?_
      refine Fz ?_
      refine Es ?_
      refine ZI rfl rfl CB hF (fun x162 _ hF => ?_)
      refine Ln ?_
      refine Es ?_
      refine D4 rfl rfl (gK ..) ?_
      refine Lc ?_
      refine AY ?_
      refine Au rfl hF (fun hb163 hF => ?_) fun hb163 hF => ?_
      ·refine QQ ?_
       repeat (first | with_reducible refine Exit.sel_goto ?_ | with_reducible refine Exit.blk_goto ?_)
       refine NX rfl ?_
       replace hF := hG145 _ (Ak hF)
       refine hJ51 a143 _ hF ?_
       exact ⟨oy ok, wy ok⟩
      ·refine Cl ?_
       refine Po ?_
       refine LY ?_
       refine Au rfl hF (fun hb164 hF => ?_) fun hb164 hF => ?_
       ·refine DS ?_
        exact ⟨(), hF, oy ok, wy ok⟩
       ·refine Cl ?_
        refine A5 hF (fun (v : Int × Int) s' => match v with | (a166, a167) => OK h [] ∧ WS s' ⟨Al 123 [(0, .str p0), (1, .str p1), (5, .int .i64 a143), (6, .int .i64 (if (p1.length : Int) < (p0.length : Int) then (p1.length : Int) else (p0.length : Int))), (7, .int .u8 a166), (8, .int .u8 a167)], Hp h []⟩) (fun J168 hF => ?_) ?_
        ·refine Ib ?_
         refine K9 ?_
         refine Au rfl hF (fun hb169 hF => ?_) fun hb169 hF => ?_
         ·refine Wr ?_
          refine IY ?_
          exact ⟨((x162.toNat : Int), (x161.toNat : Int)), hF, oy ok, wy ok⟩
         ·refine Cl ?_
          exact ⟨((x161.toNat : Int), (x162.toNat : Int)), hF, oy ok, wy ok⟩
        ·rintro ⟨a166, a167⟩ s' hF ⟨ok, hws⟩
         refine AO hws ?_
         clear hws s'
         refine I1 ?_
         refine V1 ?_
         refine CM ?_
         refine Cp (b := (decide ((65 : Int) ≤ a166))) 3 47 (.bool ((decide ((65 : Int) ≤ a166)) && (decide (a166 ≤ (90 : Int))))) (fun hb170 => ?_) (fun hb170 => ?_) ?_
         ·refine TL ?_
          exact th
         ·refine IE ?_
          exact th
         refine CM ?_
         refine Cp (b := ((decide ((65 : Int) ≤ a166)) && (decide (a166 ≤ (90 : Int))))) 6 54 (.bool (((decide ((65 : Int) ≤ a166)) && (decide (a166 ≤ (90 : Int)))) && (a167 == (IntKind.wrap .u8 ((IntKind.wrap .u8 (a166 + (97 : Int))) - (65 : Int)))))) (fun hb171 => ?_) (fun hb171 => ?_) ?_
         ·refine V7 ?_
          refine I6 ?_
          refine AF ?_
          refine Ix ?_
          refine Tq ?_
          exact th
         ·refine MA ?_
          exact th
         refine AY ?_
         refine Au rfl hF (fun hb172 hF => ?_) fun hb172 hF => ?_
         ·refine DS ?_
          exact ⟨(), hF, oy ok, wy ok⟩
         ·refine VQ ?_
          replace hF := hG145 _ (Ak hF)
          exact rt
     ·rintro ⟨⟩ s' hF ⟨ok, hws⟩
      refine AO hws ?_
      clear hws s'
      refine O4 ?_
      refine ih147 (IntKind.wrap .i64 (a143 + (1 : Int))) _ hF ?_
      exact ⟨oy ok, wy ok⟩
    ·refine DS ?_
     replace hF := hG145 _ (Ak hF)
     exact ⟨(), hF, oy ok, wy ok⟩
  ·rintro ⟨⟩ s' hF ⟨ok, hws⟩
   refine AO hws ?_
   clear hws s'
   refine Ec ?_
   refine T7 ?_
   refine TJ ?_
   refine T0 ?_
   refine Ep ?_
   exact rt
theorem JH (p0 : TS) (p1 : TK) (q0 : Nat) (q1 : Nat) (b1_3 : Nat) {G : Int × TS × TK → Prop} (h : Heap) (O : List (Nat × AObj)) (hq0 : q0 ≠ 0) (hq1 : q1 ≠ 0) (zb1_3 : b1_3 = 0 → p1.Pairs = []) (ok : OK h ((q0, .cells [.sl 1 (List.map AL p0.b) 0, .int .i64 p0.at_]) :: (q1, .cells [.int .i64 p1.Kind, .int .i64 p1.At, .str p1.Name, Aq 2 b1_3 p1.Pairs, .str p1.Text, .int .i64 p1.Refs]) :: mo b1_3 cP p1.Pairs :: O)) (hF : Am (CE p0 p1) G) : CallsA Tryz.prog 79 [.ptr q0 0, .ptr q1 0] (Hp h ((q0, .cells [.sl 1 (List.map AL p0.b) 0, .int .i64 p0.at_]) :: (q1, .cells [.int .i64 p1.Kind, .int .i64 p1.At, .str p1.Name, Aq 2 b1_3 p1.Pairs, .str p1.Text, .int .i64 p1.Refs]) :: mo b1_3 cP p1.Pairs :: O)) fun d h' => ∃ r, G r ∧ d = .int .i64 r.1 ∧ ∃ b1_3' : Nat, (b1_3' = 0 → r.2.2.Pairs = []) ∧ OK h ((q0, .cells [.sl 1 (List.map AL r.2.1.b) 0, .int .i64 r.2.1.at_]) :: (q1, .cells [.int .i64 r.2.2.Kind, .int .i64 r.2.2.At, .str r.2.2.Name, Aq 2 b1_3' r.2.2.Pairs, .str r.2.2.Text, .int .i64 r.2.2.Refs]) :: mo b1_3' cP r.2.2.Pairs :: O) ∧ h' = Hp h ((q0, .cells [.sl 1 (List.map AL r.2.1.b) 0, .int .i64 r.2.1.at_]) :: (q1, .cells [.int .i64 r.2.2.Kind, .int .i64 r.2.2.At, .str r.2.2.Name, Aq 2 b1_3' r.2.2.Pairs, .str r.2.2.Text, .int .i64 r.2.2.Refs]) :: mo b1_3' cP r.2.2.Pairs :: O) := by
 refine CallsA.ret ?_
 refine CJ Tryz.func79 rfl gg Tryz.ntmps79 rfl ?_
 rw [CE] at hF
 refine HI ?_
 refine TY ?_
 refine Cv (j := 1) (cs' := [.int .i64 (1 : Int), .int .i64 p1.At, .str p1.Name, Aq 2 b1_3 p1.Pairs, .str p1.Text, .int .i64 p1.Refs]) ok rfl rfl rfl hq1 rfl AN rfl rfl (fun ok => ?_)
 refine Ii ?_
 refine L5 ?_
 refine Cv (j := 0) (cs' := [.sl 1 (List.map AL p0.b) 0, .int .i64 (5 : Int)]) ok rfl rfl rfl hq0 rfl AN rfl rfl (fun ok => ?_)
 refine Ms ?_
 refine S_a (v := .str ([] : List UInt8)) rfl ?_
 refine AY ?_
 refine A5 hF (fun (v : (List UInt8) × Int × (List UInt8) × Int × Int × (List UInt8) × (List TP) × (List UInt8) × Int) s' => match v with | (a58, a59, a60, a61, a62, a63, a65, a66, a67) => ∃ g64 : Nat, (g64 = 0 → a65 = []) ∧ OK h ((q0, .cells [.sl 1 (List.map AL a58) 0, .int .i64 a59]) :: (q1, .cells [.int .i64 a61, .int .i64 a62, .str a63, Aq 2 g64 a65, .str a66, .int .i64 a67]) :: mo g64 cP a65 :: O) ∧ WS s' ⟨Al 113 [(0, .ptr q0 0), (5, .str a60)], Hp h ((q0, .cells [.sl 1 (List.map AL a58) 0, .int .i64 a59]) :: (q1, .cells [.int .i64 a61, .int .i64 a62, .str a63, Aq 2 g64 a65, .str a66, .int .i64 a67]) :: mo g64 cP a65 :: O)⟩) (fun J68 hF => ?_) ?_
 ·refine Bg ?_
  refine Fq (cs := [.str ([118, 101, 114, 115, 105, 111, 110] : List UInt8), .str ([101, 110, 99, 111, 100, 105, 110, 103] : List UInt8), .str ([115, 116, 97, 110, 100, 97, 108, 111, 110, 101] : List UInt8)]) (es := (List.map JC [([118, 101, 114, 115, 105, 111, 110] : List UInt8), ([101, 110, 99, 111, 100, 105, 110, 103] : List UInt8), ([115, 116, 97, 110, 100, 97, 108, 111, 110, 101] : List UInt8)])) rfl Oo rfl (by kernel_rfl) (by kernel_rfl) ?_
  refine HU rfl LL ?_
  refine Ia ?_
  refine Cg (σ := (List UInt8) × Int × Int × Int × (List UInt8) × (List TP) × (List UInt8) × Int × (List UInt8) × Int) hF (fun (v : (List UInt8) × Int × Int × Int × (List UInt8) × (List TP) × (List UInt8) × Int × (List UInt8) × Int) s' => match v with | (a69, a70, a71, a72, a73, a75, a76, a77, a78, a79) => ∃ g74 : Nat, (g74 = 0 → a75 = []) ∧ OK h ((q0, .cells [.sl 1 (List.map AL a69) 0, .int .i64 a70]) :: (q1, .cells [.int .i64 a71, .int .i64 a72, .str a73, Aq 2 g74 a75, .str a76, .int .i64 a77]) :: mo g74 cP a75 :: O) ∧ WS s' ⟨Al 113 [(0, .ptr q0 0), (1, .ptr q1 0), (5, .str a78), (18, .sl 1 (List.map JC [([118, 101, 114, 115, 105, 111, 110] : List UInt8), ([101, 110, 99, 111, 100, 105, 110, 103] : List UInt8), ([115, 116, 97, 110, 100, 97, 108, 111, 110, 101] : List UInt8)]) 0), (19, .int .i64 ([([118, 101, 114, 115, 105, 111, 110] : List UInt8), ([101, 110, 99, 111, 100, 105, 110, 103] : List UInt8), ([115, 116, 97, 110, 100, 97, 108, 111, 110, 101] : List UInt8)].length : Int)), (20, .int .i64 a79)], Hp h ((q0, .cells [.sl 1 (List.map AL a69) 0, .int .i64 a70]) :: (q1, .cells [.int .i64 a71, .int .i64 a72, .str a73, Aq 2 g74 a75, .str a76, .int .i64 a77]) :: mo g74 cP a75 :: O)⟩) ?_ ?_
  ·exact ⟨b1_3, zb1_3, oy ok, wy ok⟩
  ·rintro G80 hG81 rec82 ⟨a69, a70, a71, a72, a73, a75, a76, a77, a78, a79⟩ s' ih83 hF ⟨g74, zg74, ok, hws⟩
   refine AO hws ?_
   clear hws s'
   rw [AC] at hF
   refine Ih ?_
   refine Au rfl hF (fun hb84 hF => ?_) fun hb84 hF => ?_
   ·refine Cl ?_
    refine A5 hF (fun (v : (List UInt8) × Int × (List TP) × (List UInt8)) s' => match v with | (a105, a106, a108, a109) => ∃ g107 : Nat, (g107 = 0 → a108 = []) ∧ OK h ((q0, .cells [.sl 1 (List.map AL a105) 0, .int .i64 a106]) :: (q1, .cells [.int .i64 a71, .int .i64 a72, .str a73, Aq 2 g107 a108, .str a76, .int .i64 a77]) :: mo g107 cP a108 :: O) ∧ WS s' ⟨Al 113 [(0, .ptr q0 0), (1, .ptr q1 0), (5, .str a109), (18, .sl 1 (List.map JC [([118, 101, 114, 115, 105, 111, 110] : List UInt8), ([101, 110, 99, 111, 100, 105, 110, 103] : List UInt8), ([115, 116, 97, 110, 100, 97, 108, 111, 110, 101] : List UInt8)]) 0), (19, .int .i64 ([([118, 101, 114, 115, 105, 111, 110] : List UInt8), ([101, 110, 99, 111, 100, 105, 110, 103] : List UInt8), ([115, 116, 97, 110, 100, 97, 108, 111, 110, 101] : List UInt8)].length : Int)), (20, .int .i64 a79)], Hp h ((q0, .cells [.sl 1 (List.map AL a105) 0, .int .i64 a106]) :: (q1, .cells [.int .i64 a71, .int .i64 a72, .str a73, Aq 2 g107 a108, .str a76, .int .i64 a77]) :: mo g107 cP a108 :: O)⟩) (fun J110 hF => ?_) ?_
    ·refine NU ?_
     refine Gh rfl rfl LL As hF (fun x111 _ hF => ?_)
     refine F7 ?_
     refine IM ?_
     refine Ii ?_
     refine Qm ?_
     refine cl (okT (fun _ hF => B0 _ (p0 := (⟨a69, a70⟩ : TS)) (q0 := q0) h ((q1, .cells [.int .i64 a71, .int .i64 a72, .str a73, Aq 2 g74 a75, .str a76, .int .i64 a77]) :: mo g74 cP a75 :: O) hq0 ok hF) hF fun x112 _ _ _ hq hF => ?_)
     obtain ⟨rfl, ok, rfl⟩ := hq
     refine Ln ?_
     refine Qm ?_
     refine II ?_
     refine Bu 11 47 hF (fun J114 hb113 hF => ?_) (fun J114 hb113 hF => ?_) (fun v115 hF => ?_)
     ·refine GU ?_
      refine WG ?_
      exact tw
     ·refine UM ?_
      refine aE ?_
      refine AF ?_
      refine ea ?_
      refine Ps ?_
      refine HC rfl Ca Dw (EY rfl) Iz hF (fun x116 _ hF => ?_)
      refine AF ?_
      refine Ul ?_
      refine ZN ?_
      refine AF ?_
      refine cl (AT (fun _ h hF => EM _ _ h hF) _ hF fun x117 _ hF => ?_)
      refine OA ?_
      refine EK ?_
      exact tw
     ·refine AY ?_
      refine Au rfl hF (fun hb118 hF => ?_) fun hb118 hF => ?_
      ·refine Ec ?_
       refine Sl ?_
       refine AY ?_
       refine Au rfl hF (fun hb119 hF => ?_) fun hb119 hF => ?_
       ·refine DI ?_
        replace hF := hG81 _ (Ak hF)
        refine rr ?_
        exact ⟨_, _, (.refl _), hy ok, _, Ak hF, rfl, g74, zg74, oy ok, rfl⟩
       ·refine Cl ?_
        refine DS ?_
        exact ⟨(a69, a70, a75, a78), hF, g74, zg74, oy ok, wy ok⟩
      ·refine Km ?_
       refine Es ?_
       refine TJ ?_
       refine RR ?_
       refine Cv (j := 0) (cs' := [.sl 1 (List.map AL a69) 0, .int .i64 (IntKind.wrap .i64 (x112 + (x111.length : Int)))]) ok rfl rfl rfl hq0 rfl AN rfl rfl (fun ok => ?_)
       refine Ht ?_
       refine GF ?_
       refine cl (okT (fun _ hF => Gm (p0 := (⟨a69, (IntKind.wrap .i64 (x112 + (x111.length : Int)))⟩ : TS)) (q0 := q0) h ((q1, .cells [.int .i64 a71, .int .i64 a72, .str a73, Aq 2 g74 a75, .str a76, .int .i64 a77]) :: mo g74 cP a75 :: O) hq0 ok hF) hF fun x120 _ _ _ hq hF => ?_)
       obtain ⟨rfl, ok, rfl⟩ := hq
       refine MB ?_
       refine Au rfl hF (fun hb121 hF => ?_) fun hb121 hF => ?_
       ·refine DI ?_
        replace hF := hG81 _ (Ak hF)
        refine rr ?_
        exact ⟨_, _, (.refl _), hy ok, _, Ak hF, rfl, g74, zg74, oy ok, rfl⟩
       ·refine Km ?_
        refine cl (okT (fun _ hF => Gk (p0 := x120.2) (q0 := q0) h ((q1, .cells [.int .i64 a71, .int .i64 a72, .str a73, Aq 2 g74 a75, .str a76, .int .i64 a77]) :: mo g74 cP a75 :: O) hq0 ok hF) hF fun x122 _ _ _ hq hF => ?_)
        obtain ⟨rfl, ok, rfl⟩ := hq
        refine I7 ?_
        refine Sd ?_
        refine Ln ?_
        refine Tz ?_
        refine Bu 6 73 hF (fun J124 hb123 hF => ?_) (fun J124 hb123 hF => ?_) (fun v125 hF => ?_)
        ·refine WX ?_
         refine KN ?_
         exact tw
        ·refine Kp ?_
         refine V2 ?_
         refine Re ?_
         refine AF ?_
         refine cl (AT (fun _ h hF => Pn _ _ h hF) _ hF fun x126 _ hF => ?_)
         refine OA ?_
         refine EK ?_
         exact tw
        ·refine AY ?_
         refine Au rfl hF (fun hb127 hF => ?_) fun hb127 hF => ?_
         ·refine DI ?_
          replace hF := hG81 _ (Ak hF)
          refine rr ?_
          exact ⟨_, _, (.refl _), hy ok, _, Ak hF, rfl, g74, zg74, oy ok, rfl⟩
         ·refine HE ?_
          refine EW (mdl [(84, 1)]) (by kernel_rfl) (by kernel_rfl) ?_
          refine Iw ?_
          refine Mq ?_
          refine YF ?_
          refine DT (j := 1) ok rfl rfl rfl (by assumption) (Bf (v := Aq _ _ _) LX GB rfl) ?_
          refine JK ?_
          refine Jp ?_
          refine Re ?_
          refine CN (v := .agg (cP (⟨x111, x122.1.1⟩ : TP))) (Ej IN Wa rfl) ?_
          refine Fq (cs := [.str (⟨x111, x122.1.1⟩ : TP).Name, .str (⟨x111, x122.1.1⟩ : TP).Value]) (es := (List.map cP [(⟨x111, x122.1.1⟩ : TP)])) rfl LQ rfl (by kernel_rfl) (by kernel_rfl) ?_
          refine I4 (j := 2) (M := [(⟨x111, x122.1.1⟩ : TP)]) ok zg74 rfl rfl JS (fun _ => rfl) rfl LQ Ry hF ?_
          intro u128 zu128 ok hF
          obtain ⟨a129, ha129, hF⟩ := D9 hF
          rw [← ha129] at ok zu128
          rw [← ha129]
          refine Hy ?_
          refine YF ?_
          refine bP (j := 1) (cs' := [.int .i64 a71, .int .i64 a72, .str a73, Aq 2 u128 a129, .str a76, .int .i64 a77]) ok rfl rfl rfl hq1 GB rfl rfl (fun ok => ?_)
          refine AY ?_
          refine Sl ?_
          refine AY ?_
          refine Au rfl hF (fun hb130 hF => ?_) fun hb130 hF => ?_
          ·refine Hu ?_
           refine Jp ?_
           refine Re ?_
           refine IM ?_
           refine AY ?_
           exact ⟨(x122.2.b, x122.2.at_, a129, x122.1.1), hF, u128, zu128, oy ok, wy ok⟩
          ·refine Cl ?_
           exact ⟨(x122.2.b, x122.2.at_, a129, a78), hF, u128, zu128, oy ok, wy ok⟩
    ·rintro ⟨a105, a106, a108, a109⟩ s' hF ⟨g107, zg107, ok, hws⟩
     refine AO hws ?_
     clear hws s'
     refine R5 ?_
     refine ih83 (a105, a106, a71, a72, a73, a108, a76, a77, a109, (IntKind.wrap .i64 (a79 + (1 : Int)))) _ hF ?_
     exact ⟨g107, zg107, oy ok, wy ok⟩
   ·refine DS ?_
    replace hF := hG81 _ (Ak hF)
    exact ⟨(a69, a70, a78, a71, a72, a73, a75, a76, a77), hF, g74, zg74, oy ok, wy ok⟩
 ·rintro ⟨a58, a59, a60, a61, a62, a63, a65, a66, a67⟩ s' hF ⟨g64, zg64, ok, hws⟩
  refine AO hws ?_
  clear hws s'
  refine Rf ?_
  refine Qm ?_
  refine cl (okT (fun _ hF => B0 _ (p0 := (⟨a58, a59⟩ : TS)) (q0 := q0) h ((q1, .cells [.int .i64 a61, .int .i64 a62, .str a63, Aq 2 g64 a65, .str a66, .int .i64 a67]) :: mo g64 cP a65 :: O) hq0 ok hF) hF fun x131 _ _ _ hq hF => ?_)
  obtain ⟨rfl, ok, rfl⟩ := hq
  refine L5 ?_
  refine Cv (j := 0) (cs' := [.sl 1 (List.map AL a58) 0, .int .i64 x131]) ok rfl rfl rfl hq0 rfl AN rfl rfl (fun ok => ?_)
  refine Ht ?_
  refine GF ?_
  refine cl (okT (fun _ hF => CG _ (p0 := (⟨a58, x131⟩ : TS)) (q0 := q0) h ((q1, .cells [.int .i64 a61, .int .i64 a62, .str a63, Aq 2 g64 a65, .str a66, .int .i64 a67]) :: mo g64 cP a65 :: O) hq0 ok hF) hF fun x132 _ _ _ hq hF => ?_)
  obtain ⟨rfl, ok, rfl⟩ := hq
  refine Se ?_
  refine Au rfl hF (fun hb133 hF => ?_) fun hb133 hF => ?_
  ·refine If ?_
   refine rr ?_
   exact ⟨_, _, (.refl _), hy ok, _, Ak hF, rfl, g64, zg64, oy ok, rfl⟩
  ·refine HE ?_
   refine Fz ?_
   refine RA ?_
   refine CM ?_
   refine Bu 4 112 hF (fun J135 hb134 hF => ?_) (fun J135 hb134 hF => ?_) (fun v136 hF => ?_)
   ·refine Kp ?_
    refine cl (AT (fun _ h hF => Fs _ _ h hF) _ hF fun x137 _ hF => ?_)
    refine OA ?_
    refine Hv ?_
    exact tw
   ·refine KK ?_
    exact tw
   ·refine AY ?_
    refine Au rfl hF (fun hb138 hF => ?_) fun hb138 hF => ?_
    ·refine DI ?_
     refine rr ?_
     exact ⟨_, _, (.refl _), hy ok, _, Ak hF, rfl, g64, zg64, oy ok, rfl⟩
    ·refine SN ?_
     refine rr ?_
     exact ⟨_, _, (.refl _), hy ok, _, Ak hF, rfl, g64, zg64, oy ok, rfl⟩
theorem Fm (p0 : TS) (p1 : TK) (p2 : Int) (p3 : List UInt8) (q0 : Nat) (q1 : Nat) (b1_3 : Nat) {G : Int × TS × TK → Prop} (h : Heap) (O : List (Nat × AObj)) (hq0 : q0 ≠ 0) (hq1 : q1 ≠ 0) (zb1_3 : b1_3 = 0 → p1.Pairs = []) (ok : OK h ((q0, .cells [.sl 1 (List.map AL p0.b) 0, .int .i64 p0.at_]) :: (q1, .cells [.int .i64 p1.Kind, .int .i64 p1.At, .str p1.Name, Aq 2 b1_3 p1.Pairs, .str p1.Text, .int .i64 p1.Refs]) :: mo b1_3 cP p1.Pairs :: O)) (hF : Am (Bb p0 p1 p2 p3) G) : CallsA Tryz.prog 80 [.ptr q0 0, .ptr q1 0, .int .i64 p2, .str p3] (Hp h ((q0, .cells [.sl 1 (List.map AL p0.b) 0, .int .i64 p0.at_]) :: (q1, .cells [.int .i64 p1.Kind, .int .i64 p1.At, .str p1.Name, Aq 2 b1_3 p1.Pairs, .str p1.Text, .int .i64 p1.Refs]) :: mo b1_3 cP p1.Pairs :: O)) fun d h' => ∃ r, G r ∧ d = .int .i64 r.1 ∧ ∃ b1_3' : Nat, (b1_3' = 0 → r.2.2.Pairs = []) ∧ OK h ((q0, .cells [.sl 1 (List.map AL r.2.1.b) 0, .int .i64 r.2.1.at_]) :: (q1, .cells [.int .i64 r.2.2.Kind, .int .i64 r.2.2.At, .str r.2.2.Name, Aq 2 b1_3' r.2.2.Pairs, .str r.2.2.Text, .int .i64 r.2.2.Refs]) :: mo b1_3' cP r.2.2.Pairs :: O) ∧ h' = Hp h ((q0, .cells [.sl 1 (List.map AL r.2.1.b) 0, .int .i64 r.2.1.at_]) :: (q1, .cells [.int .i64 r.2.2.Kind, .int .i64 r.2.2.At, .str r.2.2.Name, Aq 2 b1_3' r.2.2.Pairs, .str r.2.2.Text, .int .i64 r.2.2.Refs]) :: mo b1_3' cP r.2.2.Pairs :: O) := by
 refine CallsA.ret ?_
 refine CJ Tryz.func80 rfl gr Tryz.ntmps80 rfl ?_
 rw [Bb] at hF
 refine T9 ?_
 refine EW (mdl []) (by kernel_rfl) (by kernel_rfl) ?_
 refine V9 ?_
 refine Jn ?_
 refine HC rfl Ca Dw (EY rfl) Iz hF (fun x1 _ hF => ?_)
 refine NK ?_
 refine ET ?_
 refine JK ?_
 refine ZN ?_
 refine cl (SI _ hF fun x2 _ hF => ?_)
 refine Ln ?_
 refine K9 ?_
 refine Au rfl hF (fun hb3 hF => ?_) fun hb3 hF => ?_
 ·refine DI ?_
  refine rr ?_
  exact ⟨_, _, (.refl _), hy ok, _, Ak hF, rfl, b1_3, zb1_3, oy ok, rfl⟩
 ·refine Km ?_
  refine S7 ?_
  refine HC rfl Ca Dw JA (EY rfl) hF (fun x4 _ hF => ?_)
  refine Re ?_
  refine Hy ?_
  refine DF rfl Lh As ?_
  refine Cv (j := 1) (cs' := [.int .i64 p1.Kind, .int .i64 p1.At, .str p1.Name, Aq 2 b1_3 p1.Pairs, .str x4, .int .i64 p1.Refs]) ok rfl rfl rfl hq1 rfl As rfl rfl (fun ok => ?_)
  refine Ii ?_
  refine Pa ?_
  refine Es ?_
  refine Jn ?_
  refine TJ ?_
  refine I6 ?_
  refine RR ?_
  refine Cv (j := 0) (cs' := [.sl 1 (List.map AL p0.b) 0, .int .i64 (IntKind.wrap .i64 (p0.at_ + (IntKind.wrap .i64 ((IntKind.wrap .i64 (p2 + x2)) + (p3.length : Int)))))]) ok rfl rfl rfl hq0 rfl AN rfl rfl (fun ok => ?_)
  refine AY ?_
  refine DI ?_
  refine rr ?_
  exact ⟨_, _, (.refl _), hy ok, _, Ak hF, rfl, b1_3, zb1_3, oy ok, rfl⟩
theorem G5 (p0 : Int) {G : Bool → Prop} (h : Heap) (hF : Am (Eu p0) G) : CallsA Tryz.prog 103 [.int .i32 p0] h fun d h' => ∃ r, G r ∧ d = .bool r ∧ h' = h := by
 refine CallsA.ret ?_
 refine Be Tryz.func103 rfl cX Tryz.ntmps103 rfl (fun ok => ?_)
 rw [Eu] at hF
 refine Ic ?_
 refine I1 ?_
 refine K9 ?_
 refine Au rfl hF (fun hb1 hF => ?_) fun hb1 hF => ?_
 ·refine FA ?_
  refine RE ?_
  refine Cp (b := (decide ((97 : Int) ≤ p0))) 3 10 (.bool ((decide ((97 : Int) ≤ p0)) && (decide (p0 ≤ (122 : Int))))) (fun hb2 => ?_) (fun hb2 => ?_) ?_
  ·refine TL ?_
   exact th
  ·refine IE ?_
   exact th
  refine CM ?_
  refine Cp (b := ((decide ((97 : Int) ≤ p0)) && (decide (p0 ≤ (122 : Int))))) 7 18 (.bool (((decide ((97 : Int) ≤ p0)) && (decide (p0 ≤ (122 : Int)))) || ((decide ((65 : Int) ≤ p0)) && (decide (p0 ≤ (90 : Int)))))) (fun hb3 => ?_) (fun hb3 => ?_) ?_
  ·refine XB ?_
   refine Ov ?_
   refine KN ?_
   exact th
  ·refine KO ?_
   refine Lc ?_
   refine TA ?_
   refine Cp (b := (decide ((65 : Int) ≤ p0))) 3 17 (.bool ((decide ((65 : Int) ≤ p0)) && (decide (p0 ≤ (90 : Int))))) (fun hb5 => ?_) (fun hb5 => ?_) ?_
   ·refine dJ ?_
    refine AF ?_
    refine SB ?_
    exact th
   ·refine M9 ?_
    refine Xr ?_
    exact th
   refine M6 ?_
   exact th
  refine CM ?_
  refine Cp (b := (((decide ((97 : Int) ≤ p0)) && (decide (p0 ≤ (122 : Int)))) || ((decide ((65 : Int) ≤ p0)) && (decide (p0 ≤ (90 : Int)))))) 3 22 (.bool ((((decide ((97 : Int) ≤ p0)) && (decide (p0 ≤ (122 : Int)))) || ((decide ((65 : Int) ≤ p0)) && (decide (p0 ≤ (90 : Int))))) || (p0 == (95 : Int)))) (fun hb6 => ?_) (fun hb6 => ?_) ?_
  ·refine Md ?_
   exact th
  ·refine RJ ?_
   exact th
  refine Ep ?_
  exact rt
 ·refine Cl ?_
  refine FA ?_
  refine CN (v := .agg (Bi (⟨(192 : Int), (214 : Int)⟩ : Aj))) (Ej C4 Dj rfl) ?_
  refine CN (v := .agg (Bi (⟨(216 : Int), (246 : Int)⟩ : Aj))) (Ej C4 Dj rfl) ?_
  refine CN (v := .agg (Bi (⟨(248 : Int), (767 : Int)⟩ : Aj))) (Ej C4 Dj rfl) ?_
  refine CN (v := .agg (Bi (⟨(880 : Int), (893 : Int)⟩ : Aj))) (Ej C4 Dj rfl) ?_
  refine CN (v := .agg (Bi (⟨(895 : Int), (8191 : Int)⟩ : Aj))) (Ej C4 Dj rfl) ?_
  refine CN (v := .agg (Bi (⟨(8204 : Int), (8205 : Int)⟩ : Aj))) (Ej C4 Dj rfl) ?_
  refine CN (v := .agg (Bi (⟨(8304 : Int), (8591 : Int)⟩ : Aj))) (Ej C4 Dj rfl) ?_
  refine CN (v := .agg (Bi (⟨(11264 : Int), (12271 : Int)⟩ : Aj))) (Ej C4 Dj rfl) ?_
  refine CN (v := .agg (Bi (⟨(12289 : Int), (55295 : Int)⟩ : Aj))) (Ej C4 Dj rfl) ?_
  refine CN (v := .agg (Bi (⟨(63744 : Int), (64975 : Int)⟩ : Aj))) (Ej C4 Dj rfl) ?_
  refine CN (v := .agg (Bi (⟨(65008 : Int), (65533 : Int)⟩ : Aj))) (Ej C4 Dj rfl) ?_
  refine CN (v := .agg (Bi (⟨(65536 : Int), (983039 : Int)⟩ : Aj))) (Ej C4 Dj rfl) ?_
  refine Fq (cs := [.int .i32 (⟨(192 : Int), (214 : Int)⟩ : Aj).lo, .int .i32 (⟨(192 : Int), (214 : Int)⟩ : Aj).hi, .int .i32 (⟨(216 : Int), (246 : Int)⟩ : Aj).lo, .int .i32 (⟨(216 : Int), (246 : Int)⟩ : Aj).hi, .int .i32 (⟨(248 : Int), (767 : Int)⟩ : Aj).lo, .int .i32 (⟨(248 : Int), (767 : Int)⟩ : Aj).hi, .int .i32 (⟨(880 : Int), (893 : Int)⟩ : Aj).lo, .int .i32 (⟨(880 : Int), (893 : Int)⟩ : Aj).hi, .int .i32 (⟨(895 : Int), (8191 : Int)⟩ : Aj).lo, .int .i32 (⟨(895 : Int), (8191 : Int)⟩ : Aj).hi, .int .i32 (⟨(8204 : Int), (8205 : Int)⟩ : Aj).lo, .int .i32 (⟨(8204 : Int), (8205 : Int)⟩ : Aj).hi, .int .i32 (⟨(8304 : Int), (8591 : Int)⟩ : Aj).lo, .int .i32 (⟨(8304 : Int), (8591 : Int)⟩ : Aj).hi, .int .i32 (⟨(11264 : Int), (12271 : Int)⟩ : Aj).lo, .int .i32 (⟨(11264 : Int), (12271 : Int)⟩ : Aj).hi, .int .i32 (⟨(12289 : Int), (55295 : Int)⟩ : Aj).lo, .int .i32 (⟨(12289 : Int), (55295 : Int)⟩ : Aj).hi, .int .i32 (⟨(63744 : Int), (64975 : Int)⟩ : Aj).lo, .int .i32 (⟨(63744 : Int), (64975 : Int)⟩ : Aj).hi, .int .i32 (⟨(65008 : Int), (65533 : Int)⟩ : Aj).lo, .int .i32 (⟨(65008 : Int), (65533 : Int)⟩ : Aj).hi, .int .i32 (⟨(65536 : Int), (983039 : Int)⟩ : Aj).lo, .int .i32 (⟨(65536 : Int), (983039 : Int)⟩ : Aj).hi]) (es := (List.map Bi [(⟨(192 : Int), (214 : Int)⟩ : Aj), (⟨(216 : Int), (246 : Int)⟩ : Aj), (⟨(248 : Int), (767 : Int)⟩ : Aj), (⟨(880 : Int), (893 : Int)⟩ : Aj), (⟨(895 : Int), (8191 : Int)⟩ : Aj), (⟨(8204 : Int), (8205 : Int)⟩ : Aj), (⟨(8304 : Int), (8591 : Int)⟩ : Aj), (⟨(11264 : Int), (12271 : Int)⟩ : Aj), (⟨(12289 : Int), (55295 : Int)⟩ : Aj), (⟨(63744 : Int), (64975 : Int)⟩ : Aj), (⟨(65008 : Int), (65533 : Int)⟩ : Aj), (⟨(65536 : Int), (983039 : Int)⟩ : Aj)])) rfl Mu rfl (by kernel_rfl) (by kernel_rfl) ?_
  refine cl (AT (fun _ h hF => J1 _ _ h hF) _ hF fun x7 _ hF => ?_)
  refine Ep ?_
  exact rt
theorem Jy (p0 : Int) {G : Bool → Prop} (h : Heap) (hF : Am (Fj p0) G) : CallsA Tryz.prog 104 [.int .i32 p0] h fun d h' => ∃ r, G r ∧ d = .bool r ∧ h' = h := by
 refine CallsA.ret ?_
 refine Be Tryz.func104 rfl cu Tryz.ntmps104 rfl (fun ok => ?_)
 rw [Fj] at hF
 refine Ic ?_
 refine FA ?_
 refine cl (AT (fun _ h hF => G5 _ h hF) _ hF fun x1 _ hF => ?_)
 refine CM ?_
 refine Cp (b := x1) 3 8 (.bool (x1 || (p0 == (45 : Int)))) (fun hb2 => ?_) (fun hb2 => ?_) ?_
 ·refine Md ?_
  exact th
 ·refine RJ ?_
  exact th
 refine CM ?_
 refine Cp (b := (x1 || (p0 == (45 : Int)))) 3 12 (.bool ((x1 || (p0 == (45 : Int))) || (p0 == (46 : Int)))) (fun hb3 => ?_) (fun hb3 => ?_) ?_
 ·refine Md ?_
  exact th
 ·refine RJ ?_
  exact th
 refine CM ?_
 refine Cp (b := ((x1 || (p0 == (45 : Int))) || (p0 == (46 : Int)))) 7 20 (.bool (((x1 || (p0 == (45 : Int))) || (p0 == (46 : Int))) || ((decide ((48 : Int) ≤ p0)) && (decide (p0 ≤ (57 : Int)))))) (fun hb4 => ?_) (fun hb4 => ?_) ?_
 ·refine XB ?_
  refine Ov ?_
  refine KN ?_
  exact th
 ·refine KO ?_
  refine Lc ?_
  refine TA ?_
  refine Cp (b := (decide ((48 : Int) ≤ p0))) 3 19 (.bool ((decide ((48 : Int) ≤ p0)) && (decide (p0 ≤ (57 : Int))))) (fun hb6 => ?_) (fun hb6 => ?_) ?_
  ·refine dJ ?_
   refine AF ?_
   refine SB ?_
   exact th
  ·refine M9 ?_
   refine Xr ?_
   exact th
  refine M6 ?_
  exact th
 refine CM ?_
 refine Cp (b := (((x1 || (p0 == (45 : Int))) || (p0 == (46 : Int))) || ((decide ((48 : Int) ≤ p0)) && (decide (p0 ≤ (57 : Int)))))) 3 24 (.bool ((((x1 || (p0 == (45 : Int))) || (p0 == (46 : Int))) || ((decide ((48 : Int) ≤ p0)) && (decide (p0 ≤ (57 : Int))))) || (p0 == (183 : Int)))) (fun hb7 => ?_) (fun hb7 => ?_) ?_
 ·refine Md ?_
  exact th
 ·refine RJ ?_
  exact th
 refine CM ?_
 refine Bu 6 31 hF (fun J9 hb8 hF => ?_) (fun J9 hb8 hF => ?_) (fun v10 hF => ?_)
 ·refine WX ?_
  refine KN ?_
  exact tw
 ·refine KO ?_
  refine CN (v := .agg (Bi (⟨(768 : Int), (879 : Int)⟩ : Aj))) (Ej C4 Dj rfl) ?_
  refine AF ?_
  refine CN (v := .agg (Bi (⟨(8255 : Int), (8256 : Int)⟩ : Aj))) (Ej C4 Dj rfl) ?_
  refine AF ?_
  refine Fq (cs := [.int .i32 (⟨(768 : Int), (879 : Int)⟩ : Aj).lo, .int .i32 (⟨(768 : Int), (879 : Int)⟩ : Aj).hi, .int .i32 (⟨(8255 : Int), (8256 : Int)⟩ : Aj).lo, .int .i32 (⟨(8255 : Int), (8256 : Int)⟩ : Aj).hi]) (es := (List.map Bi [(⟨(768 : Int), (879 : Int)⟩ : Aj), (⟨(8255 : Int), (8256 : Int)⟩ : Aj)])) rfl Mu rfl (by kernel_rfl) (by kernel_rfl) ?_
  refine AF ?_
  refine cl (AT (fun _ h hF => J1 _ _ h hF) _ hF fun x11 _ hF => ?_)
  refine EK ?_
  exact tw
 ·refine Ep ?_
  exact rt
theorem Fh (p0 : List UInt8) {G : Bool → Prop} (h : Heap) (hF : Am (Ee p0) G) : CallsA Tryz.prog 68 [.str p0] h fun d h' => ∃ r, G r ∧ d = .bool r ∧ h' = h := by
 refine CallsA.ret ?_
 refine Be Tryz.func68 rfl gD Tryz.ntmps68 rfl (fun ok => ?_)
 rw [Ee] at hF
 refine Ic ?_
 refine Ec ?_
 refine Sl ?_
 refine CM ?_
 refine Cp (b := (p0 == ([] : List UInt8))) 4 11 (.bool ((p0 == ([] : List UInt8)) || (decide ((100 : Int) < (p0.length : Int))))) (fun hb1 => ?_) (fun hb1 => ?_) ?_
 ·refine Od ?_
  exact th
 ·refine Kp ?_
  refine Mv ?_
  refine W3 ?_
  refine EK ?_
  exact th
 refine CM ?_
 refine Bu 4 16 hF (fun J3 hb2 hF => ?_) (fun J3 hb2 hF => ?_) (fun v4 hF => ?_)
 ·refine Od ?_
  exact tw
 ·refine Kp ?_
  refine cl (Mk _ hF fun x5 _ hF => ?_)
  refine OA ?_
  refine EK ?_
  exact tw
 ·refine AY ?_
  refine Au rfl hF (fun hb6 hF => ?_) fun hb6 hF => ?_
  ·refine Ki ?_
   exact rt
  ·refine Cl ?_
   refine A5 hF (fun (_ : Unit) s' => OK h [] ∧ WS s' ⟨Al 35 [], Hp h []⟩) (fun J18 hF => ?_) ?_
   ·refine Fz ?_
    refine bI ok rfl CB ?_
    intro i19 hi19 ok
    refine AY ?_
    refine FB ?_
    refine Cg (σ := Nat) hF (fun (a20 : Nat) s' => OK h [(i19, .iter p0 a20)] ∧ WS s' ⟨Al 35 [(18, .ptr i19 0)], Hp h [(i19, .iter p0 a20)]⟩) ?_ ?_
    ·exact ⟨oy ok, wy ok⟩
    ·rintro G21 hG22 rec23 a20 s' ih24 hF ⟨ok, hws⟩
     refine AO hws ?_
     clear hws s'
     rw [FK] at hF
     refine Bg ?_
     refine bQ (j := 0) ok rfl rfl hi19 hF (fun _ ok hF => ?_) (fun hF => ?_)
     ·refine O9 ?_
      refine Ht ?_
      refine Zv rfl rfl ?_
      refine Cl ?_
      refine NU ?_
      refine Zp ?_
      refine V4 ?_
      refine II ?_
      refine Bu 4 29 hF (fun J26 hb25 hF => ?_) (fun J26 hb25 hF => ?_) (fun v27 hF => ?_)
      ·refine KO ?_
       refine cl (AT (fun _ h hF => G5 _ h hF) _ hF fun x28 _ hF => ?_)
       refine OA ?_
       refine Hv ?_
       exact tw
      ·refine KK ?_
       exact tw
      ·refine CM ?_
       refine Bu 4 34 hF (fun J30 hb29 hF => ?_) (fun J30 hb29 hF => ?_) (fun v31 hF => ?_)
       ·refine Od ?_
        exact tw
       ·refine KO ?_
        refine cl (AT (fun _ h hF => Jy _ h hF) _ hF fun x32 _ hF => ?_)
        refine OA ?_
        refine EK ?_
        exact tw
       ·refine AY ?_
        refine Au rfl hF (fun hb33 hF => ?_) fun hb33 hF => ?_
        ·refine Ki ?_
         replace hF := hG22 _ (Ak hF)
         exact rt
        ·refine Cl ?_
         refine ih24 (a20 + wdS p0 a20) _ hF ?_
         exact ⟨oy ok, wy ok⟩
     ·refine O9 ?_
      refine Ht ?_
      refine Yu rfl rfl ?_
      refine DS ?_
      replace hF := hG22 _ (Ak hF)
      exact ⟨(), hF, oy ok, wy ok⟩
   ·rintro ⟨⟩ s' hF ⟨ok, hws⟩
    refine AO hws ?_
    clear hws s'
    refine Ki ?_
    exact rt
theorem GM (p0 : List UInt8) {G : (List UInt8) × (List UInt8) × Bool → Prop} (h : Heap) (hF : Am (CT p0) G) : CallsA Tryz.prog 136 [.str p0] h fun d h' => ∃ r, G r ∧ d = .tup [.str r.1, .str r.2.1, .bool r.2.2] ∧ h' = h := by
 refine CallsA.ret ?_
 refine Be Tryz.func136 rfl dG Tryz.ntmps136 rfl (fun ok => ?_)
 rw [CT] at hF
 refine Bg ?_
 refine S_a (v := .str ([] : List UInt8)) rfl ?_
 refine S_a (v := .str ([] : List UInt8)) rfl ?_
 refine CS ?_
 refine Fz ?_
 refine cl (X0 _ hF fun x1 _ hF => ?_)
 refine Xj ?_
 refine IM ?_
 refine CS ?_
 refine Ec ?_
 refine NU ?_
 refine CM ?_
 refine Nb ?_
 refine CM ?_
 refine Bu 3 18 hF (fun J3 hb2 hF => ?_) (fun J3 hb2 hF => ?_) (fun v4 hF => ?_)
 ·refine Kp ?_
  refine cl (AT (fun _ h hF => Fh _ h hF) _ hF fun x5 _ hF => ?_)
  refine Hv ?_
  exact tw
 ·refine IE ?_
  exact tw
 ·refine CS ?_
  refine Au rfl hF (fun hb6 hF => ?_) fun hb6 hF => ?_
  ·refine Fz ?_
   refine S_a (v := .str ([] : List UInt8)) rfl ?_
   refine UP ?_
   exact rt
  ·refine Bg ?_
   refine RB ?_
   refine Bu 3 25 hF (fun J8 hb7 hF => ?_) (fun J8 hb7 hF => ?_) (fun v9 hF => ?_)
   ·refine Kp ?_
    refine cl (AT (fun _ h hF => Fh _ h hF) _ hF fun x10 _ hF => ?_)
    refine Hv ?_
    exact tw
   ·refine IE ?_
    exact tw
   ·refine CM ?_
    refine Bu 3 29 hF (fun J12 hb11 hF => ?_) (fun J12 hb11 hF => ?_) (fun v13 hF => ?_)
    ·refine Kp ?_
     refine cl (AT (fun _ h hF => Fh _ h hF) _ hF fun x14 _ hF => ?_)
     refine Hv ?_
     exact tw
    ·refine IE ?_
     exact tw
    ·refine CS ?_
     refine Au rfl hF (fun hb15 hF => ?_) fun hb15 hF => ?_
     ·refine Q1 ?_
      refine IM ?_
      refine UP ?_
      exact rt
     ·refine Cl ?_
      refine Bg ?_
      refine S_a (v := .str ([] : List UInt8)) rfl ?_
      refine S_a (v := .str ([] : List UInt8)) rfl ?_
      refine Ep ?_
      exact rt
theorem Ew (p0 : TS) (q0 : Nat) {G : ((List UInt8) × Int) × TS → Prop} (h : Heap) (O : List (Nat × AObj)) (hq0 : q0 ≠ 0) (ok : OK h ((q0, .cells [.sl 1 (List.map AL p0.b) 0, .int .i64 p0.at_]) :: O)) (hF : Am (Bl p0) G) : CallsA Tryz.prog 122 [.ptr q0 0] (Hp h ((q0, .cells [.sl 1 (List.map AL p0.b) 0, .int .i64 p0.at_]) :: O)) fun d h' => ∃ r, G r ∧ d = .tup [.str r.1.1, .int .i64 r.1.2] ∧ OK h ((q0, .cells [.sl 1 (List.map AL r.2.b) 0, .int .i64 r.2.at_]) :: O) ∧ h' = Hp h ((q0, .cells [.sl 1 (List.map AL r.2.b) 0, .int .i64 r.2.at_]) :: O) := by
 refine CallsA.ret ?_
 refine CJ Tryz.func122 rfl cH Tryz.ntmps122 rfl ?_
 rw [Bl] at hF
 refine Bg ?_
 refine S_a (v := .str ([] : List UInt8)) rfl ?_
 refine Fx ?_
 refine GF ?_
 refine Pa ?_
 refine Fx ?_
 refine A5 hF (fun (a17 : Int) s' => OK h ((q0, .cells [.sl 1 (List.map AL p0.b) 0, .int .i64 p0.at_]) :: O) ∧ WS s' ⟨Al 81 [(0, .ptr q0 0), (4, .int .i64 a17)], Hp h ((q0, .cells [.sl 1 (List.map AL p0.b) 0, .int .i64 p0.at_]) :: O)⟩) (fun J18 hF => ?_) ?_
 ·refine FB ?_
  refine Cg (σ := Int) hF (fun (a19 : Int) s' => OK h ((q0, .cells [.sl 1 (List.map AL p0.b) 0, .int .i64 p0.at_]) :: O) ∧ WS s' ⟨Al 81 [(0, .ptr q0 0), (4, .int .i64 a19)], Hp h ((q0, .cells [.sl 1 (List.map AL p0.b) 0, .int .i64 p0.at_]) :: O)⟩) ?_ ?_
  ·exact ⟨oy ok, wy ok⟩
  ·rintro G20 hG21 rec22 a19 s' ih23 hF ⟨ok, hws⟩
   refine AO hws ?_
   clear hws s'
   rw [AW] at hF
   refine I1 ?_
   refine cS ?_
   refine Mc ?_
   refine K9 ?_
   refine Au rfl hF (fun hb24 hF => ?_) fun hb24 hF => ?_
   ·refine WD ?_
    refine Ph ?_
    refine dD ?_
    refine Es ?_
    refine HC rfl Ca Dw (EY rfl) Iz hF (fun x25 _ hF => ?_)
    refine cl (JE _ hF fun x26 _ hF => ?_)
    refine I7 ?_
    refine V5 ?_
    refine Tz ?_
    refine Bu 17 51 hF (fun J28 hb27 hF => ?_) (fun J28 hb27 hF => ?_) (fun v29 hF => ?_)
    ·refine KO ?_
     refine cl (AT (fun _ h hF => Jy _ h hF) _ hF fun x30 _ hF => ?_)
     refine OA ?_
     refine TA ?_
     refine Bu 12 50 hF (fun J32 hb31 hF => ?_) (fun J32 hb31 hF => ?_) (fun v33 hF => ?_)
     ·refine GU ?_
      refine XB ?_
      refine Za ?_
      refine Ov ?_
      refine D3 ?_
      refine SB ?_
      exact tw
     ·refine KO ?_
      refine fR ?_
      refine ep ?_
      refine fm ?_
      refine dW ?_
      refine Zh ?_
      refine TA ?_
      refine Bu 4 49 hF (fun J35 hb34 hF => ?_) (fun J35 hb34 hF => ?_) (fun v36 hF => ?_)
      ·refine KO ?_
       refine cl (AT (fun _ h hF => G5 _ h hF) _ hF fun x37 _ hF => ?_)
       refine OA ?_
       refine AF ?_
       refine SB ?_
       exact tw
      ·refine Wp ?_
       refine Xr ?_
       exact tw
      ·refine Xr ?_
       exact tw
     ·refine KN ?_
      exact tw
    ·refine GU ?_
     refine Qh ?_
     refine Qh ?_
     refine Qh ?_
     refine Qh ?_
     refine Qh ?_
     refine Za ?_
     refine Ov ?_
     refine M6 ?_
     exact tw
    ·refine AY ?_
     refine Au rfl hF (fun hb38 hF => ?_) fun hb38 hF => ?_
     ·refine DS ?_
      replace hF := hG21 _ (Ak hF)
      exact ⟨a19, hF, oy ok, wy ok⟩
     ·refine Cl ?_
      refine RH ?_
      refine Zr ?_
      refine ih23 (IntKind.wrap .i64 (a19 + x26.2)) _ hF ?_
      exact ⟨oy ok, wy ok⟩
   ·refine DS ?_
    replace hF := hG21 _ (Ak hF)
    exact ⟨a19, hF, oy ok, wy ok⟩
 ·rintro a17 s' hF ⟨ok, hws⟩
  refine AO hws ?_
  clear hws s'
  refine Ec ?_
  refine EW (mdl []) (by kernel_rfl) (by kernel_rfl) ?_
  refine V9 ?_
  refine Es ?_
  refine HC rfl Ca Dw (EY rfl) (EY rfl) hF (fun x39 _ hF => ?_)
  refine Re ?_
  refine IM ?_
  refine Ht ?_
  refine Sl ?_
  refine AY ?_
  refine Au rfl hF (fun hb40 hF => ?_) fun hb40 hF => ?_
  ·refine Bg ?_
   refine S_a (v := .str ([] : List UInt8)) rfl ?_
   refine Fp ?_
   refine rr ?_
   exact ⟨_, _, (.tupC (.refl _)), hy ok, _, Ak hF, rfl, oy ok, rfl⟩
  ·refine HE ?_
   refine Fz ?_
   refine cl (AT (fun _ h hF => GM _ h hF) _ hF fun x41 _ hF => ?_)
   refine Xj ?_
   refine IM ?_
   refine KM ?_
   refine CM ?_
   refine OC ?_
   refine Au rfl hF (fun hb42 hF => ?_) fun hb42 hF => ?_
   ·refine Bg ?_
    refine S_a (v := .str ([] : List UInt8)) rfl ?_
    refine Fp ?_
    refine rr ?_
    exact ⟨_, _, (.tupC (.refl _)), hy ok, _, Ak hF, rfl, oy ok, rfl⟩
   ·refine Km ?_
    refine Es ?_
    refine L5 ?_
    refine Cv (j := 0) (cs' := [.sl 1 (List.map AL p0.b) 0, .int .i64 a17]) ok rfl rfl rfl hq0 rfl AN rfl rfl (fun ok => ?_)
    refine AY ?_
    refine Fz ?_
    refine IM ?_
    refine Fp ?_
    refine rr ?_
    exact ⟨_, _, (.tupC (.refl _)), hy ok, _, Ak hF, rfl, oy ok, rfl⟩
theorem I2 (p0 : TS) (p1 : TK) (q0 : Nat) (q1 : Nat) (b1_3 : Nat) {G : Int × TS × TK → Prop} (h : Heap) (O : List (Nat × AObj)) (hq0 : q0 ≠ 0) (hq1 : q1 ≠ 0) (zb1_3 : b1_3 = 0 → p1.Pairs = []) (ok : OK h ((q0, .cells [.sl 1 (List.map AL p0.b) 0, .int .i64 p0.at_]) :: (q1, .cells [.int .i64 p1.Kind, .int .i64 p1.At, .str p1.Name, Aq 2 b1_3 p1.Pairs, .str p1.Text, .int .i64 p1.Refs]) :: mo b1_3 cP p1.Pairs :: O)) (hF : Am (Bv p0 p1) G) : CallsA Tryz.prog 82 [.ptr q0 0, .ptr q1 0] (Hp h ((q0, .cells [.sl 1 (List.map AL p0.b) 0, .int .i64 p0.at_]) :: (q1, .cells [.int .i64 p1.Kind, .int .i64 p1.At, .str p1.Name, Aq 2 b1_3 p1.Pairs, .str p1.Text, .int .i64 p1.Refs]) :: mo b1_3 cP p1.Pairs :: O)) fun d h' => ∃ r, G r ∧ d = .int .i64 r.1 ∧ ∃ b1_3' : Nat, (b1_3' = 0 → r.2.2.Pairs = []) ∧ OK h ((q0, .cells [.sl 1 (List.map AL r.2.1.b) 0, .int .i64 r.2.1.at_]) :: (q1, .cells [.int .i64 r.2.2.Kind, .int .i64 r.2.2.At, .str r.2.2.Name, Aq 2 b1_3' r.2.2.Pairs, .str r.2.2.Text, .int .i64 r.2.2.Refs]) :: mo b1_3' cP r.2.2.Pairs :: O) ∧ h' = Hp h ((q0, .cells [.sl 1 (List.map AL r.2.1.b) 0, .int .i64 r.2.1.at_]) :: (q1, .cells [.int .i64 r.2.2.Kind, .int .i64 r.2.2.At, .str r.2.2.Name, Aq 2 b1_3' r.2.2.Pairs, .str r.2.2.Text, .int .i64 r.2.2.Refs]) :: mo b1_3' cP r.2.2.Pairs :: O) := by
 refine CallsA.ret ?_
 refine CJ Tryz.func82 rfl eM Tryz.ntmps82 rfl ?_
 rw [Bv] at hF
 refine HI ?_
 refine TY ?_
 refine Cv (j := 1) (cs' := [.int .i64 (8 : Int), .int .i64 p1.At, .str p1.Name, Aq 2 b1_3 p1.Pairs, .str p1.Text, .int .i64 p1.Refs]) ok rfl rfl rfl hq1 rfl AN rfl rfl (fun ok => ?_)
 refine Ii ?_
 refine Pa ?_
 refine RR ?_
 refine Cv (j := 0) (cs' := [.sl 1 (List.map AL p0.b) 0, .int .i64 (IntKind.wrap .i64 (p0.at_ + (2 : Int)))]) ok rfl rfl rfl hq0 rfl AN rfl rfl (fun ok => ?_)
 refine Ii ?_
 refine cl (okT (fun _ hF => Ew (p0 := (⟨p0.b, (IntKind.wrap .i64 (p0.at_ + (2 : Int)))⟩ : TS)) (q0 := q0) h ((q1, .cells [.int .i64 (8 : Int), .int .i64 p1.At, .str p1.Name, Aq 2 b1_3 p1.Pairs, .str p1.Text, .int .i64 p1.Refs]) :: mo b1_3 cP p1.Pairs :: O) hq0 ok hF) hF fun x1 _ _ _ hq hF => ?_)
 obtain ⟨rfl, ok, rfl⟩ := hq
 refine Sg ?_
 refine Mt ?_
 refine O5 ?_
 refine R4 ?_
 refine CS ?_
 refine Au rfl hF (fun hb2 hF => ?_) fun hb2 hF => ?_
 ·refine If ?_
  refine rr ?_
  exact ⟨_, _, (.refl _), hy ok, _, Ak hF, rfl, b1_3, zb1_3, oy ok, rfl⟩
 ·refine Fz ?_
  refine cl (AT (fun _ h hF => Fh _ h hF) _ hF fun x3 _ hF => ?_)
  refine Nb ?_
  refine CS ?_
  refine Au rfl hF (fun hb4 hF => ?_) fun hb4 hF => ?_
  ·refine DI ?_
   refine rr ?_
   exact ⟨_, _, (.refl _), hy ok, _, Ak hF, rfl, b1_3, zb1_3, oy ok, rfl⟩
  ·refine Fz ?_
   refine cl (AT (fun _ h hF => Fs _ _ h hF) _ hF fun x5 _ hF => ?_)
   refine CS ?_
   refine Au rfl hF (fun hb6 hF => ?_) fun hb6 hF => ?_
   ·refine DI ?_
    refine rr ?_
    exact ⟨_, _, (.refl _), hy ok, _, Ak hF, rfl, b1_3, zb1_3, oy ok, rfl⟩
   ·refine Km ?_
    refine JK ?_
    refine Hy ?_
    refine DF rfl Je As ?_
    refine Cv (j := 1) (cs' := [.int .i64 (8 : Int), .int .i64 p1.At, .str x1.1.1, Aq 2 b1_3 p1.Pairs, .str p1.Text, .int .i64 p1.Refs]) ok rfl rfl rfl hq1 rfl As rfl rfl (fun ok => ?_)
    refine Ht ?_
    refine GF ?_
    refine cl (okT (fun _ hF => A3 _ (p0 := x1.2) (q0 := q0) h ((q1, .cells [.int .i64 (8 : Int), .int .i64 p1.At, .str x1.1.1, Aq 2 b1_3 p1.Pairs, .str p1.Text, .int .i64 p1.Refs]) :: mo b1_3 cP p1.Pairs :: O) hq0 ok hF) hF fun x7 _ _ _ hq hF => ?_)
    obtain ⟨rfl, ok, rfl⟩ := hq
    refine AY ?_
    refine Au rfl hF (fun hb8 hF => ?_) fun hb8 hF => ?_
    ·refine GF ?_
     refine cl (okT (fun _ hF => CG _ (p0 := x1.2) (q0 := q0) h ((q1, .cells [.int .i64 (8 : Int), .int .i64 p1.At, .str x1.1.1, Aq 2 b1_3 p1.Pairs, .str p1.Text, .int .i64 p1.Refs]) :: mo b1_3 cP p1.Pairs :: O) hq0 ok hF) hF fun x9 _ _ _ hq hF => ?_)
     obtain ⟨rfl, ok, rfl⟩ := hq
     refine Fp ?_
     refine rr ?_
     exact ⟨_, _, (.refl _), hy ok, _, Ak hF, rfl, b1_3, zb1_3, oy ok, rfl⟩
    ·refine Km ?_
     refine Qm ?_
     refine cl (okT (fun _ hF => B0 _ (p0 := x1.2) (q0 := q0) h ((q1, .cells [.int .i64 (8 : Int), .int .i64 p1.At, .str x1.1.1, Aq 2 b1_3 p1.Pairs, .str p1.Text, .int .i64 p1.Refs]) :: mo b1_3 cP p1.Pairs :: O) hq0 ok hF) hF fun x10 _ _ _ hq hF => ?_)
     obtain ⟨rfl, ok, rfl⟩ := hq
     refine Ln ?_
     refine Qm ?_
     refine LY ?_
     refine Au rfl hF (fun hb11 hF => ?_) fun hb11 hF => ?_
     ·refine DI ?_
      refine rr ?_
      exact ⟨_, _, (.refl _), hy ok, _, Ak hF, rfl, b1_3, zb1_3, oy ok, rfl⟩
     ·refine Km ?_
      refine Es ?_
      refine L5 ?_
      refine Cv (j := 0) (cs' := [.sl 1 (List.map AL x1.2.b) 0, .int .i64 x10]) ok rfl rfl rfl hq0 rfl AN rfl rfl (fun ok => ?_)
      refine Ii ?_
      refine Iw ?_
      obtain ⟨hpe, ok⟩ := Bh 2 ok rfl
      rw [hpe]; clear hpe
      obtain ⟨hpe, ok⟩ := Bh 2 ok rfl
      rw [hpe]; clear hpe
      obtain ⟨hpe, ok⟩ := Bh 2 ok rfl
      rw [hpe]; clear hpe
      refine cl (okT (fun _ hF => Fm _ _ (p0 := (⟨x1.2.b, x10⟩ : TS)) (p1 := (⟨(8 : Int), p1.At, x1.1.1, p1.Pairs, p1.Text, p1.Refs⟩ : TK)) (q0 := q0) (q1 := q1) (b1_3 := b1_3) h (O) hq0 hq1 zb1_3 ok hF) hF fun x12 _ _ _ hq hF => ?_)
      obtain ⟨rfl, u13, zu13, ok, rfl⟩ := hq
      refine Fp ?_
      refine rr ?_
      exact ⟨_, _, (.refl _), hy ok, _, Ak hF, rfl, u13, zu13, oy ok, rfl⟩
theorem IH (p0 : TS) (p1 : TK) (q0 : Nat) (q1 : Nat) (b1_3 : Nat) {G : Int × TS × TK → Prop} (h : Heap) (O : List (Nat × AObj)) (hq0 : q0 ≠ 0) (hq1 : q1 ≠ 0) (zb1_3 : b1_3 = 0 → p1.Pairs = []) (ok : OK h ((q0, .cells [.sl 1 (List.map AL p0.b) 0, .int .i64 p0.at_]) :: (q1, .cells [.int .i64 p1.Kind, .int .i64 p1.At, .str p1.Name, Aq 2 b1_3 p1.Pairs, .str p1.Text, .int .i64 p1.Refs]) :: mo b1_3 cP p1.Pairs :: O)) (hF : Am (BI p0 p1) G) : CallsA Tryz.prog 83 [.ptr q0 0, .ptr q1 0] (Hp h ((q0, .cells [.sl 1 (List.map AL p0.b) 0, .int .i64 p0.at_]) :: (q1, .cells [.int .i64 p1.Kind, .int .i64 p1.At, .str p1.Name, Aq 2 b1_3 p1.Pairs, .str p1.Text, .int .i64 p1.Refs]) :: mo b1_3 cP p1.Pairs :: O)) fun d h' => ∃ r, G r ∧ d = .int .i64 r.1 ∧ ∃ b1_3' : Nat, (b1_3' = 0 → r.2.2.Pairs = []) ∧ OK h ((q0, .cells [.sl 1 (List.map AL r.2.1.b) 0, .int .i64 r.2.1.at_]) :: (q1, .cells [.int .i64 r.2.2.Kind, .int .i64 r.2.2.At, .str r.2.2.Name, Aq 2 b1_3' r.2.2.Pairs, .str r.2.2.Text, .int .i64 r.2.2.Refs]) :: mo b1_3' cP r.2.2.Pairs :: O) ∧ h' = Hp h ((q0, .cells [.sl 1 (List.map AL r.2.1.b) 0, .int .i64 r.2.1.at_]) :: (q1, .cells [.int .i64 r.2.2.Kind, .int .i64 r.2.2.At, .str r.2.2.Name, Aq 2 b1_3' r.2.2.Pairs, .str r.2.2.Text, .int .i64 r.2.2.Refs]) :: mo b1_3' cP r.2.2.Pairs :: O) := by
 refine CallsA.ret ?_
 refine CJ Tryz.func83 rfl e7 Tryz.ntmps83 rfl ?_
 rw [BI] at hF
 refine HI ?_
 refine TY ?_
 refine Cv (j := 1) (cs' := [.int .i64 (3 : Int), .int .i64 p1.At, .str p1.Name, Aq 2 b1_3 p1.Pairs, .str p1.Text, .int .i64 p1.Refs]) ok rfl rfl rfl hq1 rfl AN rfl rfl (fun ok => ?_)
 refine Ii ?_
 refine Pa ?_
 refine RR ?_
 refine Cv (j := 0) (cs' := [.sl 1 (List.map AL p0.b) 0, .int .i64 (IntKind.wrap .i64 (p0.at_ + (2 : Int)))]) ok rfl rfl rfl hq0 rfl AN rfl rfl (fun ok => ?_)
 refine Ii ?_
 refine cl (okT (fun _ hF => Ew (p0 := (⟨p0.b, (IntKind.wrap .i64 (p0.at_ + (2 : Int)))⟩ : TS)) (q0 := q0) h ((q1, .cells [.int .i64 (3 : Int), .int .i64 p1.At, .str p1.Name, Aq 2 b1_3 p1.Pairs, .str p1.Text, .int .i64 p1.Refs]) :: mo b1_3 cP p1.Pairs :: O) hq0 ok hF) hF fun x1 _ _ _ hq hF => ?_)
 obtain ⟨rfl, ok, rfl⟩ := hq
 refine Sg ?_
 refine WU ?_
 refine Au rfl hF (fun hb2 hF => ?_) fun hb2 hF => ?_
 ·refine If ?_
  refine rr ?_
  exact ⟨_, _, (.refl _), hy ok, _, Ak hF, rfl, b1_3, zb1_3, oy ok, rfl⟩
 ·refine Km ?_
  refine JK ?_
  refine Hy ?_
  refine DF rfl Je As ?_
  refine Cv (j := 1) (cs' := [.int .i64 (3 : Int), .int .i64 p1.At, .str x1.1.1, Aq 2 b1_3 p1.Pairs, .str p1.Text, .int .i64 p1.Refs]) ok rfl rfl rfl hq1 rfl As rfl rfl (fun ok => ?_)
  refine Ii ?_
  refine Iw ?_
  refine Qm ?_
  refine cl (okT (fun _ hF => B0 _ (p0 := x1.2) (q0 := q0) h ((q1, .cells [.int .i64 (3 : Int), .int .i64 p1.At, .str x1.1.1, Aq 2 b1_3 p1.Pairs, .str p1.Text, .int .i64 p1.Refs]) :: mo b1_3 cP p1.Pairs :: O) hq0 ok hF) hF fun x3 _ _ _ hq hF => ?_)
  obtain ⟨rfl, ok, rfl⟩ := hq
  refine L5 ?_
  refine Cv (j := 0) (cs' := [.sl 1 (List.map AL x1.2.b) 0, .int .i64 x3]) ok rfl rfl rfl hq0 rfl AN rfl rfl (fun ok => ?_)
  refine Ii ?_
  refine cl (okT (fun _ hF => CG _ (p0 := (⟨x1.2.b, x3⟩ : TS)) (q0 := q0) h ((q1, .cells [.int .i64 (3 : Int), .int .i64 p1.At, .str x1.1.1, Aq 2 b1_3 p1.Pairs, .str p1.Text, .int .i64 p1.Refs]) :: mo b1_3 cP p1.Pairs :: O) hq0 ok hF) hF fun x4 _ _ _ hq hF => ?_)
  obtain ⟨rfl, ok, rfl⟩ := hq
  refine Fp ?_
  refine rr ?_
  exact ⟨_, _, (.refl _), hy ok, _, Ak hF, rfl, b1_3, zb1_3, oy ok, rfl⟩
theorem Nj (p0 : Int) {G : Int → Prop} (h : Heap) (hF : Am (F9 p0) G) : CallsA Tryz.prog 194 [.int .u8 p0] h fun d h' => ∃ r, G r ∧ d = .int .i64 r ∧ h' = h := by
 refine CallsA.ret ?_
 refine Be Tryz.func194 rfl cq Tryz.ntmps194 rfl (fun ok => ?_)
 rw [F9] at hF
 refine T9 ?_
 refine O5 ?_
 refine RE ?_
 refine Cp (b := (decide ((48 : Int) ≤ p0))) 3 9 (.bool ((decide ((48 : Int) ≤ p0)) && (decide (p0 ≤ (57 : Int))))) (fun hb1 => ?_) (fun hb1 => ?_) ?_
 ·refine TL ?_
  exact th
 ·refine IE ?_
  exact th
 refine CS ?_
 refine Au rfl hF (fun hb2 hF => ?_) fun hb2 hF => ?_
 ·refine FA ?_
  refine cJ ?_
  refine Fp ?_
  exact rt
 ·refine FA ?_
  refine RE ?_
  refine Cp (b := (decide ((97 : Int) ≤ p0))) 3 19 (.bool ((decide ((97 : Int) ≤ p0)) && (decide (p0 ≤ (102 : Int))))) (fun hb3 => ?_) (fun hb3 => ?_) ?_
  ·refine TL ?_
   exact th
  ·refine IE ?_
   exact th
  refine CS ?_
  refine Au rfl hF (fun hb4 hF => ?_) fun hb4 hF => ?_
  ·refine FA ?_
   refine cJ ?_
   refine I6 ?_
   refine Fp ?_
   exact rt
  ·refine FA ?_
   refine RE ?_
   refine Cp (b := (decide ((65 : Int) ≤ p0))) 3 30 (.bool ((decide ((65 : Int) ≤ p0)) && (decide (p0 ≤ (70 : Int))))) (fun hb5 => ?_) (fun hb5 => ?_) ?_
   ·refine TL ?_
    exact th
   ·refine IE ?_
    exact th
   refine CS ?_
   refine Au rfl hF (fun hb6 hF => ?_) fun hb6 hF => ?_
   ·refine FA ?_
    refine cJ ?_
    refine I6 ?_
    refine Fp ?_
    exact rt
   ·refine SN ?_
    exact rt
theorem M3 (p0 : List UInt8) {G : Int × Int → Prop} (h : Heap) (hF : Am (EI p0) G) : CallsA Tryz.prog 192 [.str p0] h fun d h' => ∃ r, G r ∧ d = .tup [.int .i32 r.1, .int .i64 r.2] ∧ h' = h := by
 refine CallsA.ret ?_
 refine Be Tryz.func192 rfl cr Tryz.ntmps192 rfl (fun ok => ?_)
 rw [EI] at hF
 refine Bg ?_
 refine IY ?_
 refine Ec ?_
 refine Fz ?_
 refine TF ?_
 refine Nf ?_
 refine Au rfl hF (fun hb1 hF => ?_) fun hb1 hF => ?_
 ·refine Qz ?_
  exact rt
 ·refine Bg ?_
  refine Nf ?_
  refine Au rfl hF (fun hb2 hF => ?_) fun hb2 hF => ?_
  ·refine Qz ?_
   exact rt
  ·refine Bg ?_
   refine Nf ?_
   refine Au rfl hF (fun hb3 hF => ?_) fun hb3 hF => ?_
   ·refine Qz ?_
    exact rt
   ·refine Bg ?_
    refine Nf ?_
    refine Au rfl hF (fun hb4 hF => ?_) fun hb4 hF => ?_
    ·refine Qz ?_
     exact rt
    ·refine Bg ?_
     refine Nf ?_
     refine Au rfl hF (fun hb5 hF => ?_) fun hb5 hF => ?_
     ·refine Qz ?_
      exact rt
     ·refine Cl ?_
      refine Fz ?_
      refine cl (AT (fun _ h hF => Fr _ _ h hF) _ hF fun x6 _ hF => ?_)
      refine Sg ?_
      refine CS ?_
      refine HI ?_
      refine A5 hF (fun (v : (List UInt8) × Int) s' => match v with | (a9, a10) => OK h [] ∧ WS s' ⟨Al 67 [(4, .str a9), (5, .bool x6.2), (6, .int .i64 a10)], Hp h []⟩) (fun J11 hF => ?_) ?_
      ·refine Fz ?_
       refine cl (AT (fun _ h hF => Fr _ _ h hF) _ hF fun x12 _ hF => ?_)
       refine Sg ?_
       refine KM ?_
       refine Uw ?_
       refine Au rfl hF (fun hb13 hF => ?_) fun hb13 hF => ?_
       ·refine Hu ?_
        refine JK ?_
        refine IM ?_
        refine Fx ?_
        exact ⟨(x12.1, (16 : Int)), hF, oy ok, wy ok⟩
       ·refine Cl ?_
        exact ⟨(x6.1, (10 : Int)), hF, oy ok, wy ok⟩
      ·rintro ⟨a9, a10⟩ s' hF ⟨ok, hws⟩
       refine AO hws ?_
       clear hws s'
       refine Nc ?_
       refine CM ?_
       refine Nb ?_
       refine CM ?_
       refine Cp (b := (!x6.2)) 3 41 (.bool ((!x6.2) || (a9 == ([] : List UInt8)))) (fun hb14 => ?_) (fun hb14 => ?_) ?_
       ·refine Md ?_
        exact th
       ·refine Kp ?_
        refine LK ?_
        refine EK ?_
        exact th
       refine AY ?_
       refine Au rfl hF (fun hb15 hF => ?_) fun hb15 hF => ?_
       ·refine Qz ?_
        exact rt
       ·refine Cl ?_
        refine HI ?_
        refine A5 hF (fun (a22 : Int) s' => OK h [] ∧ WS s' ⟨Al 67 [(9, .int .i64 a22)], Hp h []⟩) (fun J23 hF => ?_) ?_
        ·refine Fz ?_
         refine ZN ?_
         refine Mc ?_
         refine Ia ?_
         refine Cg (σ := Int × Int) hF (fun (v : Int × Int) s' => match v with | (a24, a25) => OK h [] ∧ WS s' ⟨Al 67 [(6, .int .i64 a10), (9, .int .i64 a24), (43, .sl 1 (List.map AL a9) 0), (44, .int .i64 (a9.length : Int)), (45, .int .i64 a25)], Hp h []⟩) ?_ ?_
         ·exact ⟨oy ok, wy ok⟩
         ·rintro G26 hG27 rec28 ⟨a24, a25⟩ s' ih29 hF ⟨ok, hws⟩
          refine AO hws ?_
          clear hws s'
          rw [B8] at hF
          refine Ih ?_
          refine Au rfl hF (fun hb30 hF => ?_) fun hb30 hF => ?_
          ·refine Sn ?_
           refine Bg ?_
           refine Gh rfl rfl Ca Dw hF (fun x31 _ hF => ?_)
           refine bd ?_
           refine Yv ?_
           refine cl (AT (fun _ h hF => Nj _ h hF) _ hF fun x32 _ hF => ?_)
           refine Ln ?_
           refine Es ?_
           refine Lc ?_
           refine AY ?_
           refine Au rfl hF (fun hb33 hF => ?_) fun hb33 hF => ?_
           ·refine Qz ?_
            replace hF := hG27 _ (Ak hF)
            exact rt
           ·refine Cl ?_
            refine Wr ?_
            refine D4 rfl rfl (NM ..) ?_
            refine Jn ?_
            refine bU rfl rfl ?_
            refine Fx ?_
            refine R5 ?_
            refine ih29 ((if (1114112 : Int) < (IntKind.wrap .i64 ((IntKind.wrap .i64 (a24 * a10)) + x32)) then (1114112 : Int) else (IntKind.wrap .i64 ((IntKind.wrap .i64 (a24 * a10)) + x32))), (IntKind.wrap .i64 (a25 + (1 : Int)))) _ hF ?_
            exact ⟨oy ok, wy ok⟩
          ·refine DS ?_
           replace hF := hG27 _ (Ak hF)
           exact ⟨a24, hF, oy ok, wy ok⟩
        ·rintro a22 s' hF ⟨ok, hws⟩
         refine AO hws ?_
         clear hws s'
         refine I1 ?_
         refine Lb rfl (Yn SK QJ) ?_
         refine cl (AT (fun _ h hF => JD _ h hF) _ hF fun x34 _ hF => ?_)
         refine OC ?_
         refine Au rfl hF (fun hb35 hF => ?_) fun hb35 hF => ?_
         ·refine Qz ?_
          exact rt
         ·refine Cl ?_
          refine FA ?_
          refine Lb rfl (Yn SK QJ) ?_
          refine IU ?_
          exact rt
theorem MI (p0 : List UInt8) (p1 : Int) {G : Int × Int × Int → Prop} (h : Heap) (hF : Am (Dr p0 p1) G) : CallsA Tryz.prog 183 [.sl 1 (List.map AL p0) 0, .int .i64 p1] h fun d h' => ∃ r, G r ∧ d = .tup [.int .i32 r.1, .int .i64 r.2.1, .int .i64 r.2.2] ∧ h' = h := by
 refine CallsA.ret ?_
 refine Be Tryz.func183 rfl cG Tryz.ntmps183 rfl (fun ok => ?_)
 rw [Dr] at hF
 refine Bg ?_
 refine O8 ?_
 refine V5 ?_
 refine TI ?_
 refine Cp (b := (decide (p1 < (0 : Int)))) 5 17 (.bool ((decide (p1 < (0 : Int))) || (decide ((p0.length : Int) ≤ p1)))) (fun hb1 => ?_) (fun hb1 => ?_) ?_
 ·refine Lm ?_
  exact th
 ·refine KO ?_
  refine V2 ?_
  refine Mc ?_
  refine AF ?_
  refine Lc ?_
  refine EK ?_
  exact th
 refine CM ?_
 refine Bu 6 24 hF (fun J3 hb2 hF => ?_) (fun J3 hb2 hF => ?_) (fun v4 hF => ?_)
 ·refine WX ?_
  refine KN ?_
  exact tw
 ·refine Xf ?_
  refine W0 ?_
  refine Gh rfl rfl Ca Dw hF (fun x5 _ hF => ?_)
  refine eA ?_
  refine AF ?_
  refine R4 ?_
  refine EK ?_
  exact tw
 ·refine AY ?_
  refine Au rfl hF (fun hb6 hF => ?_) fun hb6 hF => ?_
  ·refine Bg ?_
   refine RZ ?_
   exact rt
  ·refine Cl ?_
   refine Xo ?_
   refine HC rfl Ca Dw (EY rfl) Iz hF (fun x7 _ hF => ?_)
   refine cl (Hw _ hF fun x8 _ hF => ?_)
   refine Ln ?_
   refine K9 ?_
   refine Au rfl hF (fun hb9 hF => ?_) fun hb9 hF => ?_
   ·refine Bg ?_
    refine RZ ?_
    exact rt
   ·refine Cl ?_
    refine ET ?_
    refine Jn ?_
    refine Es ?_
    refine Jn ?_
    refine HC rfl Ca Dw (EY rfl) (EY rfl) hF (fun x10 _ hF => ?_)
    refine Re ?_
    refine cl (AT (fun _ h hF => M3 _ h hF) _ hF fun x11 _ hF => ?_)
    refine I7 ?_
    refine V5 ?_
    refine MB ?_
    refine Au rfl hF (fun hb12 hF => ?_) fun hb12 hF => ?_
    ·refine FA ?_
     refine RZ ?_
     exact rt
    ·refine Cl ?_
     refine Ib ?_
     refine Jn ?_
     refine I6 ?_
     refine RZ ?_
     exact rt
theorem Ka (p0 : List UInt8) (p1 : Bool) {G : (List UInt8) × Int × Int → Prop} (h : Heap) (hF : Am (DQ p0 p1) G) : CallsA Tryz.prog 164 [.sl 1 (List.map AL p0) 0, .bool p1] h fun d h' => ∃ r, G r ∧ d = .tup [.str r.1, .int .i64 r.2.1, .int .i64 r.2.2] ∧ h' = h := by
 refine CallsA.ret ?_
 refine Be Tryz.func164 rfl cA Tryz.ntmps164 rfl (fun ok => ?_)
 rw [DQ] at hF
 refine Bg ?_
 refine S_a (v := .str ([] : List UInt8)) rfl ?_
 refine IY ?_
 refine Bg ?_
 refine S_a (v := .snil) rfl ?_
 refine Qv 7 1 ok rfl rfl ?_
 intro r1 hr1 ok
 refine AY ?_
 refine A5 hF (fun (a52 : (List UInt8)) s' => ∃ g53 : Nat, g53 ≠ 0 ∧ OK h [(g53, .room)] ∧ WS s' ⟨Al 79 [(7, .sl 1 (List.map AL a52) g53)], Hp h [(g53, .room)]⟩) (fun J54 hF => ?_) ?_
 ·refine HI ?_
  refine FB ?_
  refine Cg (σ := (List UInt8) × Int) hF (fun (v : (List UInt8) × Int) s' => match v with | (a55, a57) => ∃ g56 : Nat, g56 ≠ 0 ∧ OK h [(g56, .room)] ∧ WS s' ⟨Al 79 [(0, .sl 1 (List.map AL p0) 0), (1, .bool p1), (7, .sl 1 (List.map AL a55) g56), (8, .int .i64 a57)], Hp h [(g56, .room)]⟩) ?_ ?_
  ·exact ⟨r1, hr1, oy ok, wy ok⟩
  ·rintro G58 hG59 rec60 ⟨a55, a57⟩ s' ih61 hF ⟨g56, hg56, ok, hws⟩
   refine AO hws ?_
   clear hws s'
   rw [A7] at hF
   refine I1 ?_
   refine VZ ?_
   refine K9 ?_
   refine Au rfl hF (fun hb62 hF => ?_) fun hb62 hF => ?_
   ·refine WD ?_
    refine Xo ?_
    refine cl (AT (fun _ h hF => KS _ _ h hF) _ hF fun x63 _ hF => ?_)
    refine Qj ?_
    refine O8 ?_
    refine IY ?_
    refine A5 hF (fun (v : Int × Int) s' => match v with | (a85, a86) => OK h [(g56, .room)] ∧ WS s' ⟨Al 79 [(0, .sl 1 (List.map AL p0) 0), (1, .bool p1), (7, .sl 1 (List.map AL a55) g56), (9, .int .i32 a85), (10, .int .i64 a86)], Hp h [(g56, .room)]⟩) (fun J87 hF => ?_) ?_
    ·refine O5 ?_
     refine R4 ?_
     refine CS ?_
     refine Au rfl hF (fun hb88 hF => ?_) fun hb88 hF => ?_
     ·refine Ib ?_
      refine S_a (v := .str ([] : List UInt8)) rfl ?_
      refine IU ?_
      replace hF := hG59 _ (Ak hF)
      exact rt
     ·refine Ec ?_
      refine CR (mdl [(38, 5), (39, 5)]) ?_
      refine Es ?_
      refine II ?_
      refine Bu 11 42 hF (fun J90 hb89 hF => ?_) (fun J90 hb89 hF => ?_) (fun v91 hF => ?_)
      ·refine XB ?_
       refine Qh ?_
       refine Qh ?_
       refine Ov ?_
       refine KN ?_
       exact tw
      ·refine D3 ?_
       refine CM ?_
       refine OA ?_
       refine TA ?_
       refine Bu 7 41 hF (fun J93 hb92 hF => ?_) (fun J93 hb92 hF => ?_) (fun v94 hF => ?_)
       ·refine Xf ?_
        refine W0 ?_
        refine HC rfl Ca Dw (EY rfl) Iz hF (fun x95 _ hF => ?_)
        refine AF ?_
        refine QR (cs := [.int .u8 93, .int .u8 93, .int .u8 62]) ok rfl GL rfl (by kernel_rfl) ?_
        intro i96 hi96 ok
        refine AF ?_
        refine VE (v := .sl 1 (List.map AL ([93, 93, 62] : List UInt8)) 0) (by kernel_rfl) 0 ok rfl rfl hi96 rfl Ca KI rfl rfl (fun ok => ?_)
        refine AF ?_
        refine cl (AT (fun _ h hF => EM _ _ h hF) _ hF fun x98 _ hF => ?_)
        refine AF ?_
        refine SB ?_
        exact tw
       ·refine GU ?_
        refine M9 ?_
        refine Xr ?_
        exact tw
       ·refine M6 ?_
        exact tw
      ·refine CS ?_
       refine Au rfl hF (fun hb99 hF => ?_) fun hb99 hF => ?_
       ·refine FA ?_
        refine S_a (v := .str ([] : List UInt8)) rfl ?_
        refine IU ?_
        replace hF := hG59 _ (Ak hF)
        exact rt
       ·refine FA ?_
        refine Pw ?_
        refine Au rfl hF (fun hb100 hF => ?_) fun hb100 hF => ?_
        ·refine Xo ?_
         refine cl (AT (fun _ h hF => MI _ _ h hF) _ hF fun x101 _ hF => ?_)
         refine Qj ?_
         refine O8 ?_
         refine V4 ?_
         refine MB ?_
         refine Au rfl hF (fun hb102 hF => ?_) fun hb102 hF => ?_
         ·refine Ib ?_
          refine S_a (v := .str ([] : List UInt8)) rfl ?_
          refine IU ?_
          replace hF := hG59 _ (Ak hF)
          exact rt
         ·refine Cl ?_
          exact ⟨(x101.1, x101.2.1), hF, oy ok, wy ok⟩
        ·refine Bg ?_
         refine RB ?_
         refine Cp (b := p1) 11 71 (.bool (p1 && (((x63.1 == (9 : Int)) || (x63.1 == (10 : Int))) || (x63.1 == (13 : Int))))) (fun hb103 => ?_) (fun hb103 => ?_) ?_
         ·refine Tv ?_
          refine TA ?_
          refine Cp (b := (x63.1 == (9 : Int))) 3 66 (.bool ((x63.1 == (9 : Int)) || (x63.1 == (10 : Int)))) (fun hb106 => ?_) (fun hb106 => ?_) ?_
          ·refine M9 ?_
           refine D3 ?_
           refine SB ?_
           exact th
          ·refine Tv ?_
           refine AF ?_
           refine cn ?_
           exact th
          refine D3 ?_
          refine Uw ?_
          refine Cp (b := ((x63.1 == (9 : Int)) || (x63.1 == (10 : Int)))) 3 70 (.bool (((x63.1 == (9 : Int)) || (x63.1 == (10 : Int))) || (x63.1 == (13 : Int)))) (fun hb107 => ?_) (fun hb107 => ?_) ?_
          ·refine M9 ?_
           refine D3 ?_
           refine SB ?_
           exact th
          ·refine Tv ?_
           refine AF ?_
           refine cn ?_
           exact th
          refine KN ?_
          exact th
         ·refine XB ?_
          refine M9 ?_
          refine Qh ?_
          refine Ov ?_
          refine M6 ?_
          exact th
         refine CS ?_
         refine Au rfl hF (fun hb108 hF => ?_) fun hb108 hF => ?_
         ·refine Hu ?_
          refine Fx ?_
          exact ⟨((32 : Int), x63.2.1), hF, oy ok, wy ok⟩
         ·refine Cl ?_
          exact ⟨(x63.1, x63.2.1), hF, oy ok, wy ok⟩
    ·rintro ⟨a85, a86⟩ s' hF ⟨ok, hws⟩
     refine AO hws ?_
     clear hws s'
     refine Ec ?_
     refine CR (mdl [(75, 2)]) ?_
     refine S7 ?_
     refine Lb rfl (gO aw aq CB XT) ?_
     refine eb (j := 0) ok rfl rfl rfl rfl hg56 GL aK hF ?_
     intro r109 hr109 ok hF
     refine NK ?_
     refine TH ?_
     refine ih61 ((a55 ++ (Utf8.encode a85).data.toList), a86) _ hF ?_
     exact ⟨r109, hr109, oy ok, wy ok⟩
   ·refine DS ?_
    replace hF := hG59 _ (Ak hF)
    exact ⟨a55, hF, g56, hg56, oy ok, wy ok⟩
 ·rintro a52 s' hF ⟨g53, hg53, ok, hws⟩
  refine AO hws ?_
  clear hws s'
  refine ET ?_
  refine Eg 77 (v := .sl 1 (List.map AL a52) 0) (.zero _ _ _) ?_
  refine Re ?_
  refine IM ?_
  refine IU ?_
  exact rt
theorem KL (p0 : List UInt8) {G : (List UInt8) × Int × Int → Prop} (h : Heap) (hF : Am (CK p0) G) : CallsA Tryz.prog 123 [.sl 1 (List.map AL p0) 0] h fun d h' => ∃ r, G r ∧ d = .tup [.str r.1, .int .i64 r.2.1, .int .i64 r.2.2] ∧ h' = h := by
 refine CallsA.ret ?_
 refine Be Tryz.func123 rfl dM Tryz.ntmps123 rfl (fun ok => ?_)
 rw [CK] at hF
 refine Bg ?_
 refine S_a (v := .str ([] : List UInt8)) rfl ?_
 refine IY ?_
 refine ET ?_
 refine cl (AT (fun _ h hF => Ka _ _ h hF) _ hF fun x1 _ hF => ?_)
 refine Zp ?_
 refine O9 ?_
 refine IM ?_
 refine IU ?_
 exact rt
theorem Ke (p0 : TS) (p1 : TK) (q0 : Nat) (q1 : Nat) (b1_3 : Nat) {G : Int × TS × TK → Prop} (h : Heap) (O : List (Nat × AObj)) (hq0 : q0 ≠ 0) (hq1 : q1 ≠ 0) (zb1_3 : b1_3 = 0 → p1.Pairs = []) (ok : OK h ((q0, .cells [.sl 1 (List.map AL p0.b) 0, .int .i64 p0.at_]) :: (q1, .cells [.int .i64 p1.Kind, .int .i64 p1.At, .str p1.Name, Aq 2 b1_3 p1.Pairs, .str p1.Text, .int .i64 p1.Refs]) :: mo b1_3 cP p1.Pairs :: O)) (hF : Am (Cj p0 p1) G) : CallsA Tryz.prog 84 [.ptr q0 0, .ptr q1 0] (Hp h ((q0, .cells [.sl 1 (List.map AL p0.b) 0, .int .i64 p0.at_]) :: (q1, .cells [.int .i64 p1.Kind, .int .i64 p1.At, .str p1.Name, Aq 2 b1_3 p1.Pairs, .str p1.Text, .int .i64 p1.Refs]) :: mo b1_3 cP p1.Pairs :: O)) fun d h' => ∃ r, G r ∧ d = .int .i64 r.1 ∧ ∃ b1_3' : Nat, (b1_3' = 0 → r.2.2.Pairs = []) ∧ OK h ((q0, .cells [.sl 1 (List.map AL r.2.1.b) 0, .int .i64 r.2.1.at_]) :: (q1, .cells [.int .i64 r.2.2.Kind, .int .i64 r.2.2.At, .str r.2.2.Name, Aq 2 b1_3' r.2.2.Pairs, .str r.2.2.Text, .int .i64 r.2.2.Refs]) :: mo b1_3' cP r.2.2.Pairs :: O) ∧ h' = Hp h ((q0, .cells [.sl 1 (List.map AL r.2.1.b) 0, .int .i64 r.2.1.at_]) :: (q1, .cells [.int .i64 r.2.2.Kind, .int .i64 r.2.2.At, .str r.2.2.Name, Aq 2 b1_3' r.2.2.Pairs, .str r.2.2.Text, .int .i64 r.2.2.Refs]) :: mo b1_3' cP r.2.2.Pairs :: O) := by
 refine CallsA.ret ?_
 refine CJ Tryz.func84 rfl gv Tryz.ntmps84 rfl ?_
 rw [Cj] at hF
 refine HI ?_
 refine O2 ?_
 refine Nu ?_
 refine T9 ?_
 refine CR (mdl [(6, 1)]) ?_
 refine DB ok rfl IN ?_
 intro i1 hi1 ok
 refine Ms ?_
 refine S_a (v := .snil) rfl ?_
 refine Eg 7 (v := .sl 1 (List.map AL ([] : List UInt8)) 0) (.nil _) ?_
 refine Ii ?_
 refine L5 ?_
 refine Z8 ?_
 refine RR ?_
 refine Cv (j := 1) (cs' := [.sl 1 (List.map AL p0.b) 0, .int .i64 (IntKind.wrap .i64 (p0.at_ + (1 : Int)))]) ok rfl rfl rfl hq0 rfl AN rfl rfl (fun ok => ?_)
 refine Ii ?_
 obtain ⟨hpe, ok⟩ := Bh 1 ok rfl
 rw [hpe]; clear hpe
 refine cl (okT (fun _ hF => Ew (p0 := (⟨p0.b, (IntKind.wrap .i64 (p0.at_ + (1 : Int)))⟩ : TS)) (q0 := q0) h ((i1, .cells [.str ([] : List UInt8), .str ([] : List UInt8)]) :: (q1, .cells [.int .i64 p1.Kind, .int .i64 p1.At, .str p1.Name, Aq 2 b1_3 p1.Pairs, .str p1.Text, .int .i64 p1.Refs]) :: mo b1_3 cP p1.Pairs :: O) hq0 ok hF) hF fun x2 _ _ _ hq hF => ?_)
 obtain ⟨rfl, ok, rfl⟩ := hq
 refine Sg ?_
 refine WU ?_
 refine Au rfl hF (fun hb3 hF => ?_) fun hb3 hF => ?_
 ·refine If ?_
  refine rr ?_
  exact ⟨_, _, (.refl _), hy ok, _, Ak hF, rfl, b1_3, zb1_3, oy ok, rfl⟩
 ·refine Km ?_
  refine Iw ?_
  refine JK ?_
  refine Hy ?_
  refine DF rfl Je As ?_
  refine Cv (j := 2) (cs' := [.int .i64 p1.Kind, .int .i64 p1.At, .str x2.1.1, Aq 2 b1_3 p1.Pairs, .str p1.Text, .int .i64 p1.Refs]) ok rfl rfl rfl hq1 rfl As rfl rfl (fun ok => ?_)
  refine Hy ?_
  refine eK ?_
  refine Cv (j := 2) (cs' := [.int .i64 (2 : Int), .int .i64 p1.At, .str x2.1.1, Aq 2 b1_3 p1.Pairs, .str p1.Text, .int .i64 p1.Refs]) ok rfl rfl rfl hq1 rfl AN rfl rfl (fun ok => ?_)
  refine Ht ?_
  refine So ?_
  refine VM (σ := (List UInt8) × Int × Int × Int × (List UInt8) × (List TP) × (List UInt8) × Int × (List UInt8) × (List UInt8)) hF (fun (v : (List UInt8) × Int × Int × Int × (List UInt8) × (List TP) × (List UInt8) × Int × (List UInt8) × (List UInt8)) s' => match v with | (a4, a5, a6, a7, a8, a10, a11, a12, a13, a14) => ∃ g9 : Nat, (g9 = 0 → a10 = []) ∧ OK h ((q0, .cells [.sl 1 (List.map AL a4) 0, .int .i64 a5]) :: (i1, .cells [.str a13, .str a14]) :: (q1, .cells [.int .i64 a6, .int .i64 a7, .str a8, Aq 2 g9 a10, .str a11, .int .i64 a12]) :: mo g9 cP a10 :: O) ∧ WS s' ⟨Al 118 [(0, .ptr q0 0), (1, .ptr q1 0), (6, .ptr i1 0)], Hp h ((q0, .cells [.sl 1 (List.map AL a4) 0, .int .i64 a5]) :: (i1, .cells [.str a13, .str a14]) :: (q1, .cells [.int .i64 a6, .int .i64 a7, .str a8, Aq 2 g9 a10, .str a11, .int .i64 a12]) :: mo g9 cP a10 :: O)⟩) ?_ ?_
  ·exact ⟨b1_3, zb1_3, oy ok, wy ok⟩
  ·rintro G15 hG16 rec17 ⟨a4, a5, a6, a7, a8, a10, a11, a12, a13, a14⟩ s' ih18 hF ⟨g9, zg9, ok, hws⟩
   refine AO hws ?_
   clear hws s'
   rw [Az] at hF
   refine GF ?_
   refine Pa ?_
   refine Fx ?_
   refine Rf ?_
   refine Es ?_
   refine cl (okT (fun _ hF => B0 _ (p0 := (⟨a4, a5⟩ : TS)) (q0 := q0) h ((i1, .cells [.str a13, .str a14]) :: (q1, .cells [.int .i64 a6, .int .i64 a7, .str a8, Aq 2 g9 a10, .str a11, .int .i64 a12]) :: mo g9 cP a10 :: O) hq0 ok hF) hF fun x19 _ _ _ hq hF => ?_)
   obtain ⟨rfl, ok, rfl⟩ := hq
   refine L5 ?_
   refine Cv (j := 0) (cs' := [.sl 1 (List.map AL a4) 0, .int .i64 x19]) ok rfl rfl rfl hq0 rfl AN rfl rfl (fun ok => ?_)
   refine Ht ?_
   refine GF ?_
   refine cl (okT (fun _ hF => A3 _ (p0 := (⟨a4, x19⟩ : TS)) (q0 := q0) h ((i1, .cells [.str a13, .str a14]) :: (q1, .cells [.int .i64 a6, .int .i64 a7, .str a8, Aq 2 g9 a10, .str a11, .int .i64 a12]) :: mo g9 cP a10 :: O) hq0 ok hF) hF fun x20 _ _ _ hq hF => ?_)
   obtain ⟨rfl, ok, rfl⟩ := hq
   refine AY ?_
   refine Au rfl hF (fun hb21 hF => ?_) fun hb21 hF => ?_
   ·refine TY ?_
    refine Cv (j := 2) (cs' := [.int .i64 (4 : Int), .int .i64 a7, .str a8, Aq 2 g9 a10, .str a11, .int .i64 a12]) ok rfl rfl rfl hq1 rfl AN rfl rfl (fun ok => ?_)
    refine Ii ?_
    refine cl (okT (fun _ hF => CG _ (p0 := (⟨a4, x19⟩ : TS)) (q0 := q0) h ((i1, .cells [.str a13, .str a14]) :: (q1, .cells [.int .i64 (4 : Int), .int .i64 a7, .str a8, Aq 2 g9 a10, .str a11, .int .i64 a12]) :: mo g9 cP a10 :: O) hq0 ok hF) hF fun x22 _ _ _ hq hF => ?_)
    obtain ⟨rfl, ok, rfl⟩ := hq
    refine Fp ?_
    replace hF := hG16 _ (Ak hF)
    refine rr ?_
    exact ⟨_, _, (.refl _), hy ok, _, Ak hF, rfl, g9, zg9, oy ok, rfl⟩
   ·refine HE ?_
    refine GF ?_
    refine cl (okT (fun _ hF => A3 _ (p0 := (⟨a4, x19⟩ : TS)) (q0 := q0) h ((i1, .cells [.str a13, .str a14]) :: (q1, .cells [.int .i64 a6, .int .i64 a7, .str a8, Aq 2 g9 a10, .str a11, .int .i64 a12]) :: mo g9 cP a10 :: O) hq0 ok hF) hF fun x23 _ _ _ hq hF => ?_)
    obtain ⟨rfl, ok, rfl⟩ := hq
    refine AY ?_
    refine Au rfl hF (fun hb24 hF => ?_) fun hb24 hF => ?_
    ·refine GF ?_
     refine cl (okT (fun _ hF => CG _ (p0 := (⟨a4, x19⟩ : TS)) (q0 := q0) h ((i1, .cells [.str a13, .str a14]) :: (q1, .cells [.int .i64 a6, .int .i64 a7, .str a8, Aq 2 g9 a10, .str a11, .int .i64 a12]) :: mo g9 cP a10 :: O) hq0 ok hF) hF fun x25 _ _ _ hq hF => ?_)
     obtain ⟨rfl, ok, rfl⟩ := hq
     refine Fp ?_
     replace hF := hG16 _ (Ak hF)
     refine rr ?_
     exact ⟨_, _, (.refl _), hy ok, _, Ak hF, rfl, g9, zg9, oy ok, rfl⟩
    ·refine HE ?_
     refine GF ?_
     refine Pa ?_
     refine Es ?_
     refine LY ?_
     refine Au rfl hF (fun hb26 hF => ?_) fun hb26 hF => ?_
     ·refine DI ?_
      replace hF := hG16 _ (Ak hF)
      refine rr ?_
      exact ⟨_, _, (.refl _), hy ok, _, Ak hF, rfl, g9, zg9, oy ok, rfl⟩
     ·refine HE ?_
      refine GF ?_
      refine cl (okT (fun _ hF => Ew (p0 := (⟨a4, x19⟩ : TS)) (q0 := q0) h ((i1, .cells [.str a13, .str a14]) :: (q1, .cells [.int .i64 a6, .int .i64 a7, .str a8, Aq 2 g9 a10, .str a11, .int .i64 a12]) :: mo g9 cP a10 :: O) hq0 ok hF) hF fun x27 _ _ _ hq hF => ?_)
      obtain ⟨rfl, ok, rfl⟩ := hq
      refine I7 ?_
      refine ZO ?_
      refine Cv (j := 1) (cs' := [.str x27.1.1, .str a14]) ok rfl rfl rfl hi1 rfl As rfl rfl (fun ok => ?_)
      refine Se ?_
      refine Au rfl hF (fun hb28 hF => ?_) fun hb28 hF => ?_
      ·refine If ?_
       replace hF := hG16 _ (Ak hF)
       refine rr ?_
       exact ⟨_, _, (.refl _), hy ok, _, Ak hF, rfl, g9, zg9, oy ok, rfl⟩
      ·refine HE ?_
       refine GF ?_
       refine cl (okT (fun _ hF => Gm (p0 := x27.2) (q0 := q0) h ((i1, .cells [.str x27.1.1, .str a14]) :: (q1, .cells [.int .i64 a6, .int .i64 a7, .str a8, Aq 2 g9 a10, .str a11, .int .i64 a12]) :: mo g9 cP a10 :: O) hq0 ok hF) hF fun x29 _ _ _ hq hF => ?_)
       obtain ⟨rfl, ok, rfl⟩ := hq
       refine Se ?_
       refine Au rfl hF (fun hb30 hF => ?_) fun hb30 hF => ?_
       ·refine If ?_
        replace hF := hG16 _ (Ak hF)
        refine rr ?_
        exact ⟨_, _, (.refl _), hy ok, _, Ak hF, rfl, g9, zg9, oy ok, rfl⟩
       ·refine HE ?_
        refine GF ?_
        refine cl (okT (fun _ hF => Gk (p0 := x29.2) (q0 := q0) h ((i1, .cells [.str x27.1.1, .str a14]) :: (q1, .cells [.int .i64 a6, .int .i64 a7, .str a8, Aq 2 g9 a10, .str a11, .int .i64 a12]) :: mo g9 cP a10 :: O) hq0 ok hF) hF fun x31 _ _ _ hq hF => ?_)
        obtain ⟨rfl, ok, rfl⟩ := hq
        refine I7 ?_
        refine Sd ?_
        refine Se ?_
        refine Au rfl hF (fun hb32 hF => ?_) fun hb32 hF => ?_
        ·refine If ?_
         replace hF := hG16 _ (Ak hF)
         refine rr ?_
         exact ⟨_, _, (.refl _), hy ok, _, Ak hF, rfl, g9, zg9, oy ok, rfl⟩
        ·refine HE ?_
         refine ET ?_
         refine cl (AT (fun _ h hF => KL _ h hF) _ hF fun x33 _ hF => ?_)
         refine Qj ?_
         refine YR ?_
         refine Cv (j := 1) (cs' := [.str x27.1.1, .str x33.1]) ok rfl rfl rfl hi1 rfl As rfl rfl (fun ok => ?_)
         refine Se ?_
         refine Au rfl hF (fun hb34 hF => ?_) fun hb34 hF => ?_
         ·refine If ?_
          replace hF := hG16 _ (Ak hF)
          refine rr ?_
          exact ⟨_, _, (.refl _), hy ok, _, Ak hF, rfl, g9, zg9, oy ok, rfl⟩
         ·refine Cl ?_
          refine A5 hF (fun (_ : Unit) s' => OK h ((q0, .cells [.sl 1 (List.map AL x31.2.b) 0, .int .i64 x31.2.at_]) :: (i1, .cells [.str x27.1.1, .str x33.1]) :: (q1, .cells [.int .i64 a6, .int .i64 a7, .str a8, Aq 2 g9 a10, .str a11, .int .i64 a12]) :: mo g9 cP a10 :: O) ∧ WS s' ⟨Al 118 [(0, .ptr q0 0), (1, .ptr q1 0), (6, .ptr i1 0)], Hp h ((q0, .cells [.sl 1 (List.map AL x31.2.b) 0, .int .i64 x31.2.at_]) :: (i1, .cells [.str x27.1.1, .str x33.1]) :: (q1, .cells [.int .i64 a6, .int .i64 a7, .str a8, Aq 2 g9 a10, .str a11, .int .i64 a12]) :: mo g9 cP a10 :: O)⟩) (fun J40 hF => ?_) ?_
          ·refine Ph ?_
           refine YF ?_
           refine e8 ?_
           refine Kg zg9 rfl IR ?_
           refine Ia ?_
           refine Cg (σ := Int) hF (fun (a41 : Int) s' => OK h ((q0, .cells [.sl 1 (List.map AL x31.2.b) 0, .int .i64 x31.2.at_]) :: (i1, .cells [.str x27.1.1, .str x33.1]) :: (q1, .cells [.int .i64 a6, .int .i64 a7, .str a8, Aq 2 g9 a10, .str a11, .int .i64 a12]) :: mo g9 cP a10 :: O) ∧ WS s' ⟨Al 118 [(0, .ptr q0 0), (1, .ptr q1 0), (6, .ptr i1 0), (96, Aq 2 g9 a10), (97, .int .i64 (a10.length : Int)), (98, .int .i64 a41)], Hp h ((q0, .cells [.sl 1 (List.map AL x31.2.b) 0, .int .i64 x31.2.at_]) :: (i1, .cells [.str x27.1.1, .str x33.1]) :: (q1, .cells [.int .i64 a6, .int .i64 a7, .str a8, Aq 2 g9 a10, .str a11, .int .i64 a12]) :: mo g9 cP a10 :: O)⟩) ?_ ?_
           ·exact ⟨oy ok, wy ok⟩
           ·rintro G42 hG43 rec44 a41 s' ih45 hF ⟨ok, hws⟩
            refine AO hws ?_
            clear hws s'
            rw [CI] at hF
            refine Ih ?_
            refine Au rfl hF (fun hb46 hF => ?_) fun hb46 hF => ?_
            ·refine TG ?_
             refine CR (mdl [(11, 1)]) ?_
             refine DV zg9 rfl rfl IR EC hF (fun x47 hx47 hF => ?_)
             refine Fw (q := 2) (j := 3) (f0 := 0) ok rfl zg9 rfl rfl (fun _ => rfl) hx47 rfl rfl (A4 (vs := cP x47) HM EC rfl rfl) ?_
             refine DB ok rfl IN ?_
             intro i48 hi48 ok
             refine Cv (j := 0) (cs' := [.str x47.Name, .str x47.Value]) ok rfl rfl rfl hi48 rfl EC rfl rfl (fun ok => ?_)
             refine Ms ?_
             refine ZO ?_
             refine Sr ?_
             refine ZO ?_
             refine b9 ?_
             refine LK ?_
             refine AY ?_
             refine Au rfl hF (fun hb49 hF => ?_) fun hb49 hF => ?_
             ·refine DI ?_
              replace hF := hG43 _ (Ak hF)
              replace hF := hG16 _ (Ak hF)
              refine rr ?_
              exact ⟨_, _, (.refl _), hy ok, _, Ak hF, rfl, g9, zg9, oy ok, rfl⟩
             ·refine KZ ?_
              refine ih45 (IntKind.wrap .i64 (a41 + (1 : Int))) _ hF ?_
              exact ⟨oy ok, wy ok⟩
            ·refine DS ?_
             replace hF := hG43 _ (Ak hF)
             exact ⟨(), hF, oy ok, wy ok⟩
          ·rintro ⟨⟩ s' hF ⟨ok, hws⟩
           refine AO hws ?_
           clear hws s'
           refine Ec ?_
           refine EW (mdl [(115, 1)]) (by kernel_rfl) (by kernel_rfl) ?_
           refine Iw ?_
           refine Mq ?_
           refine YF ?_
           refine e8 ?_
           refine DT (j := 1) ok rfl rfl rfl hi1 (A4 (vs := cP (⟨x27.1.1, x33.1⟩ : TP)) HM EC rfl rfl) ?_
           refine Fq (cs := [.str (⟨x27.1.1, x33.1⟩ : TP).Name, .str (⟨x27.1.1, x33.1⟩ : TP).Value]) (es := (List.map cP [(⟨x27.1.1, x33.1⟩ : TP)])) rfl LQ rfl (by kernel_rfl) (by kernel_rfl) ?_
           refine I4 (j := 3) (M := [(⟨x27.1.1, x33.1⟩ : TP)]) ok zg9 rfl rfl JS (fun _ => rfl) rfl LQ Ry hF ?_
           intro u50 zu50 ok hF
           obtain ⟨a51, ha51, hF⟩ := D9 hF
           rw [← ha51] at ok zu50
           rw [← ha51]
           refine Hy ?_
           refine YF ?_
           refine bP (j := 2) (cs' := [.int .i64 a6, .int .i64 a7, .str a8, Aq 2 u50 a51, .str a11, .int .i64 a12]) ok rfl rfl rfl hq1 GB rfl rfl (fun ok => ?_)
           refine AY ?_
           refine QQ ?_
           repeat (first | with_reducible refine Exit.sel_goto ?_ | with_reducible refine Exit.blk_goto ?_)
           refine NX rfl ?_
           refine ih18 (x31.2.b, x31.2.at_, a6, a7, a8, a51, a11, a12, x27.1.1, x33.1) _ hF ?_
           exact ⟨u50, zu50, oy ok, wy ok⟩
theorem K4 (p0 : List UInt8) {G : (List UInt8) × Int × Int → Prop} (h : Heap) (hF : Am (Dh p0) G) : CallsA Tryz.prog 125 [.sl 1 (List.map AL p0) 0] h fun d h' => ∃ r, G r ∧ d = .tup [.str r.1, .int .i64 r.2.1, .int .i64 r.2.2] ∧ h' = h := by
 refine CallsA.ret ?_
 refine Be Tryz.func125 rfl cQ Tryz.ntmps125 rfl (fun ok => ?_)
 rw [Dh] at hF
 refine Bg ?_
 refine S_a (v := .str ([] : List UInt8)) rfl ?_
 refine IY ?_
 refine ET ?_
 refine cl (AT (fun _ h hF => Ka _ _ h hF) _ hF fun x1 _ hF => ?_)
 refine Zp ?_
 refine O9 ?_
 refine IM ?_
 refine IU ?_
 exact rt
theorem JL (p0 : TS) (p1 : TK) (q0 : Nat) (q1 : Nat) (b1_3 : Nat) {G : Int × TS × TK → Prop} (h : Heap) (O : List (Nat × AObj)) (hq0 : q0 ≠ 0) (hq1 : q1 ≠ 0) (zb1_3 : b1_3 = 0 → p1.Pairs = []) (ok : OK h ((q0, .cells [.sl 1 (List.map AL p0.b) 0, .int .i64 p0.at_]) :: (q1, .cells [.int .i64 p1.Kind, .int .i64 p1.At, .str p1.Name, Aq 2 b1_3 p1.Pairs, .str p1.Text, .int .i64 p1.Refs]) :: mo b1_3 cP p1.Pairs :: O)) (hF : Am (BR p0 p1) G) : CallsA Tryz.prog 85 [.ptr q0 0, .ptr q1 0] (Hp h ((q0, .cells [.sl 1 (List.map AL p0.b) 0, .int .i64 p0.at_]) :: (q1, .cells [.int .i64 p1.Kind, .int .i64 p1.At, .str p1.Name, Aq 2 b1_3 p1.Pairs, .str p1.Text, .int .i64 p1.Refs]) :: mo b1_3 cP p1.Pairs :: O)) fun d h' => ∃ r, G r ∧ d = .int .i64 r.1 ∧ ∃ b1_3' : Nat, (b1_3' = 0 → r.2.2.Pairs = []) ∧ OK h ((q0, .cells [.sl 1 (List.map AL r.2.1.b) 0, .int .i64 r.2.1.at_]) :: (q1, .cells [.int .i64 r.2.2.Kind, .int .i64 r.2.2.At, .str r.2.2.Name, Aq 2 b1_3' r.2.2.Pairs, .str r.2.2.Text, .int .i64 r.2.2.Refs]) :: mo b1_3' cP r.2.2.Pairs :: O) ∧ h' = Hp h ((q0, .cells [.sl 1 (List.map AL r.2.1.b) 0, .int .i64 r.2.1.at_]) :: (q1, .cells [.int .i64 r.2.2.Kind, .int .i64 r.2.2.At, .str r.2.2.Name, Aq 2 b1_3' r.2.2.Pairs, .str r.2.2.Text, .int .i64 r.2.2.Refs]) :: mo b1_3' cP r.2.2.Pairs :: O) := by
 refine CallsA.ret ?_
 refine CJ Tryz.func85 rfl gu Tryz.ntmps85 rfl ?_
 rw [BR] at hF
 refine HI ?_
 refine TY ?_
 refine Cv (j := 1) (cs' := [.int .i64 (5 : Int), .int .i64 p1.At, .str p1.Name, Aq 2 b1_3 p1.Pairs, .str p1.Text, .int .i64 p1.Refs]) ok rfl rfl rfl hq1 rfl AN rfl rfl (fun ok => ?_)
 refine Ht ?_
 refine EW (mdl []) (by kernel_rfl) (by kernel_rfl) ?_
 refine V9 ?_
 refine HC rfl Ca Dw (EY rfl) Iz hF (fun x1 _ hF => ?_)
 refine NK ?_
 refine A5 hF (fun (a5 : (List UInt8)) s' => OK h ((q0, .cells [.sl 1 (List.map AL p0.b) 0, .int .i64 p0.at_]) :: (q1, .cells [.int .i64 (5 : Int), .int .i64 p1.At, .str p1.Name, Aq 2 b1_3 p1.Pairs, .str p1.Text, .int .i64 p1.Refs]) :: mo b1_3 cP p1.Pairs :: O) ∧ WS s' ⟨Al 56 [(0, .ptr q0 0), (1, .ptr q1 0), (5, .sl 1 (List.map AL a5) 0)], Hp h ((q0, .cells [.sl 1 (List.map AL p0.b) 0, .int .i64 p0.at_]) :: (q1, .cells [.int .i64 (5 : Int), .int .i64 p1.At, .str p1.Name, Aq 2 b1_3 p1.Pairs, .str p1.Text, .int .i64 p1.Refs]) :: mo b1_3 cP p1.Pairs :: O)⟩) (fun J6 hF => ?_) ?_
 ·refine ET ?_
  refine cl (Hw _ hF fun x7 _ hF => ?_)
  refine Yv ?_
  refine Lc ?_
  refine AY ?_
  refine Au rfl hF (fun hb8 hF => ?_) fun hb8 hF => ?_
  ·refine Hu ?_
   refine S7 ?_
   refine HC rfl Ca Dw JA (EY rfl) hF (fun x9 _ hF => ?_)
   refine NK ?_
   exact ⟨x9, hF, oy ok, wy ok⟩
  ·refine Cl ?_
   exact ⟨x1, hF, oy ok, wy ok⟩
 ·rintro a5 s' hF ⟨ok, hws⟩
  refine AO hws ?_
  clear hws s'
  refine ET ?_
  refine cl (AT (fun _ h hF => K4 _ h hF) _ hF fun x10 _ hF => ?_)
  refine Xj ?_
  refine IY ?_
  refine Ec ?_
  refine CR (mdl [(39, 5), (40, 5)]) ?_
  refine Iw ?_
  refine Iw ?_
  refine JK ?_
  refine Jp ?_
  refine QR (cs := [.int .u8 38]) ok rfl GL rfl (by kernel_rfl) ?_
  intro i11 hi11 ok
  refine VE (v := .sl 1 (List.map AL ([38] : List UInt8)) 0) (by kernel_rfl) 0 ok rfl rfl hi11 rfl Ca KI rfl rfl (fun ok => ?_)
  refine cl (SP _ hF fun x13 _ hF => ?_)
  refine Hy ?_
  refine DF rfl Lh As ?_
  refine Cv (j := 2) (cs' := [.int .i64 (5 : Int), .int .i64 p1.At, .str p1.Name, Aq 2 b1_3 p1.Pairs, .str x10.1, .int .i64 p1.Refs]) ok rfl rfl rfl hq1 rfl As rfl rfl (fun ok => ?_)
  refine Hy ?_
  refine DF rfl Om AN ?_
  refine Cv (j := 2) (cs' := [.int .i64 (5 : Int), .int .i64 p1.At, .str p1.Name, Aq 2 b1_3 p1.Pairs, .str x10.1, .int .i64 x13]) ok rfl rfl rfl hq1 rfl AN rfl rfl (fun ok => ?_)
  refine Ii ?_
  refine L5 ?_
  refine Z8 ?_
  refine VZ ?_
  refine RR ?_
  refine Cv (j := 1) (cs' := [.sl 1 (List.map AL p0.b) 0, .int .i64 (IntKind.wrap .i64 (p0.at_ + (a5.length : Int)))]) ok rfl rfl rfl hq0 rfl AN rfl rfl (fun ok => ?_)
  refine AY ?_
  refine If ?_
  refine rr ?_
  exact ⟨_, _, (.refl _), hy ok, _, Ak hF, rfl, b1_3, zb1_3, oy ok, rfl⟩
theorem I8 (p0 : TS) (p1 : TK) (q0 : Nat) (q1 : Nat) (b1_3 : Nat) {G : Int × TS × TK → Prop} (h : Heap) (O : List (Nat × AObj)) (hq0 : q0 ≠ 0) (hq1 : q1 ≠ 0) (zb1_3 : b1_3 = 0 → p1.Pairs = []) (ok : OK h ((q0, .cells [.sl 1 (List.map AL p0.b) 0, .int .i64 p0.at_]) :: (q1, .cells [.int .i64 p1.Kind, .int .i64 p1.At, .str p1.Name, Aq 2 b1_3 p1.Pairs, .str p1.Text, .int .i64 p1.Refs]) :: mo b1_3 cP p1.Pairs :: O)) (hF : Am (AJ p0 p1) G) : CallsA Tryz.prog 48 [.ptr q0 0, .ptr q1 0] (Hp h ((q0, .cells [.sl 1 (List.map AL p0.b) 0, .int .i64 p0.at_]) :: (q1, .cells [.int .i64 p1.Kind, .int .i64 p1.At, .str p1.Name, Aq 2 b1_3 p1.Pairs, .str p1.Text, .int .i64 p1.Refs]) :: mo b1_3 cP p1.Pairs :: O)) fun d h' => ∃ r, G r ∧ d = .int .i64 r.1 ∧ ∃ b1_3' : Nat, (b1_3' = 0 → r.2.2.Pairs = []) ∧ OK h ((q0, .cells [.sl 1 (List.map AL r.2.1.b) 0, .int .i64 r.2.1.at_]) :: (q1, .cells [.int .i64 r.2.2.Kind, .int .i64 r.2.2.At, .str r.2.2.Name, Aq 2 b1_3' r.2.2.Pairs, .str r.2.2.Text, .int .i64 r.2.2.Refs]) :: mo b1_3' cP r.2.2.Pairs :: O) ∧ h' = Hp h ((q0, .cells [.sl 1 (List.map AL r.2.1.b) 0, .int .i64 r.2.1.at_]) :: (q1, .cells [.int .i64 r.2.2.Kind, .int .i64 r.2.2.At, .str r.2.2.Name, Aq 2 b1_3' r.2.2.Pairs, .str r.2.2.Text, .int .i64 r.2.2.Refs]) :: mo b1_3' cP r.2.2.Pairs :: O) := by
 refine CallsA.ret ?_
 refine CJ Tryz.func48 rfl gz Tryz.ntmps48 rfl ?_
 rw [AJ] at hF
 refine T9 ?_
 refine FB ?_
 refine GF ?_
 refine Pa ?_
 refine II ?_
 refine Bu 3 15 hF (fun J2 hb1 hF => ?_) (fun J2 hb1 hF => ?_) (fun v3 hF => ?_)
 ·refine YM ?_
  refine cl (okT (fun _ hF => A3 _ (p0 := p0) (q0 := q0) h ((q1, .cells [.int .i64 p1.Kind, .int .i64 p1.At, .str p1.Name, Aq 2 b1_3 p1.Pairs, .str p1.Text, .int .i64 p1.Refs]) :: mo b1_3 cP p1.Pairs :: O) hq0 ok hF) hF fun x4 _ _ _ hq hF => ?_)
  obtain ⟨rfl, ok, rfl⟩ := hq
  refine Hv ?_
  exact tw
 ·refine IE ?_
  exact tw
 ·refine CM ?_
  refine Bu 4 20 hF (fun J6 hb5 hF => ?_) (fun J6 hb5 hF => ?_) (fun v7 hF => ?_)
  ·refine YM ?_
   refine cl (okT (fun _ hF => B0 _ (p0 := p0) (q0 := q0) h ((q1, .cells [.int .i64 p1.Kind, .int .i64 p1.At, .str p1.Name, Aq 2 b1_3 p1.Pairs, .str p1.Text, .int .i64 p1.Refs]) :: mo b1_3 cP p1.Pairs :: O) hq0 ok hF) hF fun x8 _ _ _ hq hF => ?_)
   obtain ⟨rfl, ok, rfl⟩ := hq
   refine dL ?_
   exact tw
  ·refine KK ?_
   exact tw
  ·refine CS ?_
   refine Au rfl hF (fun hb9 hF => ?_) fun hb9 hF => ?_
   ·refine Rf ?_
    obtain ⟨hpe, ok⟩ := Bh 2 ok rfl
    rw [hpe]; clear hpe
    obtain ⟨hpe, ok⟩ := Bh 2 ok rfl
    rw [hpe]; clear hpe
    obtain ⟨hpe, ok⟩ := Bh 2 ok rfl
    rw [hpe]; clear hpe
    refine cl (okT (fun _ hF => JH (p0 := p0) (p1 := p1) (q0 := q0) (q1 := q1) (b1_3 := b1_3) h (O) hq0 hq1 zb1_3 ok hF) hF fun x10 _ _ _ hq hF => ?_)
    obtain ⟨rfl, u11, zu11, ok, rfl⟩ := hq
    refine Fp ?_
    refine rr ?_
    exact ⟨_, _, (.refl _), hy ok, _, Ak hF, rfl, u11, zu11, oy ok, rfl⟩
   ·refine GF ?_
    refine cl (okT (fun _ hF => A3 _ (p0 := p0) (q0 := q0) h ((q1, .cells [.int .i64 p1.Kind, .int .i64 p1.At, .str p1.Name, Aq 2 b1_3 p1.Pairs, .str p1.Text, .int .i64 p1.Refs]) :: mo b1_3 cP p1.Pairs :: O) hq0 ok hF) hF fun x12 _ _ _ hq hF => ?_)
    obtain ⟨rfl, ok, rfl⟩ := hq
    refine CS ?_
    refine Au rfl hF (fun hb13 hF => ?_) fun hb13 hF => ?_
    ·refine TY ?_
     refine Cv (j := 1) (cs' := [.int .i64 (7 : Int), .int .i64 p1.At, .str p1.Name, Aq 2 b1_3 p1.Pairs, .str p1.Text, .int .i64 p1.Refs]) ok rfl rfl rfl hq1 rfl AN rfl rfl (fun ok => ?_)
     refine Ht ?_
     refine Rf ?_
     obtain ⟨hpe, ok⟩ := Bh 2 ok rfl
     rw [hpe]; clear hpe
     obtain ⟨hpe, ok⟩ := Bh 2 ok rfl
     rw [hpe]; clear hpe
     obtain ⟨hpe, ok⟩ := Bh 2 ok rfl
     rw [hpe]; clear hpe
     refine cl (okT (fun _ hF => Fm _ _ (p0 := p0) (p1 := (⟨(7 : Int), p1.At, p1.Name, p1.Pairs, p1.Text, p1.Refs⟩ : TK)) (q0 := q0) (q1 := q1) (b1_3 := b1_3) h (O) hq0 hq1 zb1_3 ok hF) hF fun x14 _ _ _ hq hF => ?_)
     obtain ⟨rfl, u15, zu15, ok, rfl⟩ := hq
     refine Se ?_
     refine Au rfl hF (fun hb16 hF => ?_) fun hb16 hF => ?_
     ·refine If ?_
      refine rr ?_
      exact ⟨_, _, (.refl _), hy ok, _, Ak hF, rfl, u15, zu15, oy ok, rfl⟩
     ·refine Km ?_
      refine cl (okT (fun _ hF => CG _ (p0 := x14.2.1) (q0 := q0) h ((q1, .cells [.int .i64 x14.2.2.Kind, .int .i64 x14.2.2.At, .str x14.2.2.Name, Aq 2 u15 x14.2.2.Pairs, .str x14.2.2.Text, .int .i64 x14.2.2.Refs]) :: mo u15 cP x14.2.2.Pairs :: O) hq0 ok hF) hF fun x17 _ _ _ hq hF => ?_)
      obtain ⟨rfl, ok, rfl⟩ := hq
      refine Fp ?_
      refine rr ?_
      exact ⟨_, _, (.refl _), hy ok, _, Ak hF, rfl, u15, zu15, oy ok, rfl⟩
    ·refine GF ?_
     refine cl (okT (fun _ hF => A3 _ (p0 := p0) (q0 := q0) h ((q1, .cells [.int .i64 p1.Kind, .int .i64 p1.At, .str p1.Name, Aq 2 b1_3 p1.Pairs, .str p1.Text, .int .i64 p1.Refs]) :: mo b1_3 cP p1.Pairs :: O) hq0 ok hF) hF fun x18 _ _ _ hq hF => ?_)
     obtain ⟨rfl, ok, rfl⟩ := hq
     refine CS ?_
     refine Au rfl hF (fun hb19 hF => ?_) fun hb19 hF => ?_
     ·refine TY ?_
      refine Cv (j := 1) (cs' := [.int .i64 (6 : Int), .int .i64 p1.At, .str p1.Name, Aq 2 b1_3 p1.Pairs, .str p1.Text, .int .i64 p1.Refs]) ok rfl rfl rfl hq1 rfl AN rfl rfl (fun ok => ?_)
      refine Ii ?_
      refine Iw ?_
      obtain ⟨hpe, ok⟩ := Bh 2 ok rfl
      rw [hpe]; clear hpe
      obtain ⟨hpe, ok⟩ := Bh 2 ok rfl
      rw [hpe]; clear hpe
      obtain ⟨hpe, ok⟩ := Bh 2 ok rfl
      rw [hpe]; clear hpe
      refine cl (okT (fun _ hF => Fm _ _ (p0 := p0) (p1 := (⟨(6 : Int), p1.At, p1.Name, p1.Pairs, p1.Text, p1.Refs⟩ : TK)) (q0 := q0) (q1 := q1) (b1_3 := b1_3) h (O) hq0 hq1 zb1_3 ok hF) hF fun x20 _ _ _ hq hF => ?_)
      obtain ⟨rfl, u21, zu21, ok, rfl⟩ := hq
      refine Fp ?_
      refine rr ?_
      exact ⟨_, _, (.refl _), hy ok, _, Ak hF, rfl, u21, zu21, oy ok, rfl⟩
     ·refine GF ?_
      refine cl (okT (fun _ hF => A3 _ (p0 := p0) (q0 := q0) h ((q1, .cells [.int .i64 p1.Kind, .int .i64 p1.At, .str p1.Name, Aq 2 b1_3 p1.Pairs, .str p1.Text, .int .i64 p1.Refs]) :: mo b1_3 cP p1.Pairs :: O) hq0 ok hF) hF fun x22 _ _ _ hq hF => ?_)
      obtain ⟨rfl, ok, rfl⟩ := hq
      refine CS ?_
      refine Au rfl hF (fun hb23 hF => ?_) fun hb23 hF => ?_
      ·refine DI ?_
       refine rr ?_
       exact ⟨_, _, (.refl _), hy ok, _, Ak hF, rfl, b1_3, zb1_3, oy ok, rfl⟩
      ·refine GF ?_
       refine cl (okT (fun _ hF => A3 _ (p0 := p0) (q0 := q0) h ((q1, .cells [.int .i64 p1.Kind, .int .i64 p1.At, .str p1.Name, Aq 2 b1_3 p1.Pairs, .str p1.Text, .int .i64 p1.Refs]) :: mo b1_3 cP p1.Pairs :: O) hq0 ok hF) hF fun x24 _ _ _ hq hF => ?_)
       obtain ⟨rfl, ok, rfl⟩ := hq
       refine CS ?_
       refine Au rfl hF (fun hb25 hF => ?_) fun hb25 hF => ?_
       ·refine DI ?_
        refine rr ?_
        exact ⟨_, _, (.refl _), hy ok, _, Ak hF, rfl, b1_3, zb1_3, oy ok, rfl⟩
       ·refine GF ?_
        refine cl (okT (fun _ hF => A3 _ (p0 := p0) (q0 := q0) h ((q1, .cells [.int .i64 p1.Kind, .int .i64 p1.At, .str p1.Name, Aq 2 b1_3 p1.Pairs, .str p1.Text, .int .i64 p1.Refs]) :: mo b1_3 cP p1.Pairs :: O) hq0 ok hF) hF fun x26 _ _ _ hq hF => ?_)
        obtain ⟨rfl, ok, rfl⟩ := hq
        refine CS ?_
        refine Au rfl hF (fun hb27 hF => ?_) fun hb27 hF => ?_
        ·refine Rf ?_
         obtain ⟨hpe, ok⟩ := Bh 2 ok rfl
         rw [hpe]; clear hpe
         obtain ⟨hpe, ok⟩ := Bh 2 ok rfl
         rw [hpe]; clear hpe
         obtain ⟨hpe, ok⟩ := Bh 2 ok rfl
         rw [hpe]; clear hpe
         refine cl (okT (fun _ hF => I2 (p0 := p0) (p1 := p1) (q0 := q0) (q1 := q1) (b1_3 := b1_3) h (O) hq0 hq1 zb1_3 ok hF) hF fun x28 _ _ _ hq hF => ?_)
         obtain ⟨rfl, u29, zu29, ok, rfl⟩ := hq
         refine Fp ?_
         refine rr ?_
         exact ⟨_, _, (.refl _), hy ok, _, Ak hF, rfl, u29, zu29, oy ok, rfl⟩
        ·refine GF ?_
         refine cl (okT (fun _ hF => A3 _ (p0 := p0) (q0 := q0) h ((q1, .cells [.int .i64 p1.Kind, .int .i64 p1.At, .str p1.Name, Aq 2 b1_3 p1.Pairs, .str p1.Text, .int .i64 p1.Refs]) :: mo b1_3 cP p1.Pairs :: O) hq0 ok hF) hF fun x30 _ _ _ hq hF => ?_)
         obtain ⟨rfl, ok, rfl⟩ := hq
         refine CS ?_
         refine Au rfl hF (fun hb31 hF => ?_) fun hb31 hF => ?_
         ·refine Rf ?_
          obtain ⟨hpe, ok⟩ := Bh 2 ok rfl
          rw [hpe]; clear hpe
          obtain ⟨hpe, ok⟩ := Bh 2 ok rfl
          rw [hpe]; clear hpe
          obtain ⟨hpe, ok⟩ := Bh 2 ok rfl
          rw [hpe]; clear hpe
          refine cl (okT (fun _ hF => IH (p0 := p0) (p1 := p1) (q0 := q0) (q1 := q1) (b1_3 := b1_3) h (O) hq0 hq1 zb1_3 ok hF) hF fun x32 _ _ _ hq hF => ?_)
          obtain ⟨rfl, u33, zu33, ok, rfl⟩ := hq
          refine Fp ?_
          refine rr ?_
          exact ⟨_, _, (.refl _), hy ok, _, Ak hF, rfl, u33, zu33, oy ok, rfl⟩
         ·refine GF ?_
          refine cl (okT (fun _ hF => A3 _ (p0 := p0) (q0 := q0) h ((q1, .cells [.int .i64 p1.Kind, .int .i64 p1.At, .str p1.Name, Aq 2 b1_3 p1.Pairs, .str p1.Text, .int .i64 p1.Refs]) :: mo b1_3 cP p1.Pairs :: O) hq0 ok hF) hF fun x34 _ _ _ hq hF => ?_)
          obtain ⟨rfl, ok, rfl⟩ := hq
          refine CS ?_
          refine Au rfl hF (fun hb35 hF => ?_) fun hb35 hF => ?_
          ·refine Rf ?_
           obtain ⟨hpe, ok⟩ := Bh 2 ok rfl
           rw [hpe]; clear hpe
           obtain ⟨hpe, ok⟩ := Bh 2 ok rfl
           rw [hpe]; clear hpe
           obtain ⟨hpe, ok⟩ := Bh 2 ok rfl
           rw [hpe]; clear hpe
           refine cl (okT (fun _ hF => Ke (p0 := p0) (p1 := p1) (q0 := q0) (q1 := q1) (b1_3 := b1_3) h (O) hq0 hq1 zb1_3 ok hF) hF fun x36 _ _ _ hq hF => ?_)
           obtain ⟨rfl, u37, zu37, ok, rfl⟩ := hq
           refine Fp ?_
           refine rr ?_
           exact ⟨_, _, (.refl _), hy ok, _, Ak hF, rfl, u37, zu37, oy ok, rfl⟩
          ·refine Km ?_
           refine Iw ?_
           obtain ⟨hpe, ok⟩ := Bh 2 ok rfl
           rw [hpe]; clear hpe
           obtain ⟨hpe, ok⟩ := Bh 2 ok rfl
           rw [hpe]; clear hpe
           obtain ⟨hpe, ok⟩ := Bh 2 ok rfl
           rw [hpe]; clear hpe
           refine cl (okT (fun _ hF => JL (p0 := p0) (p1 := p1) (q0 := q0) (q1 := q1) (b1_3 := b1_3) h (O) hq0 hq1 zb1_3 ok hF) hF fun x38 _ _ _ hq hF => ?_)
           obtain ⟨rfl, u39, zu39, ok, rfl⟩ := hq
           refine Fp ?_
           refine rr ?_
           exact ⟨_, _, (.refl _), hy ok, _, Ak hF, rfl, u39, zu39, oy ok, rfl⟩
theorem QW (p0 : List UInt8) {G : (List TK) × Int × Int → Prop} (h : Heap) (hF : Am (DH p0) G) : CallsA Tryz.prog 22 [.sl 1 (List.map AL p0) 0] h fun d h' => ∃ r, G r ∧ d = .tup [.sl 6 (List.map cTK r.1) 0, .int .i64 r.2.1, .int .i64 r.2.2] ∧ h' = h := by
 refine CallsA.ret ?_
 refine Be Tryz.func22 rfl fF Tryz.ntmps22 rfl (fun ok => ?_)
 rw [DH] at hF
 refine Bg ?_
 refine S_a (v := .snil) rfl ?_
 refine Eg 2 (v := .sl 6 (List.map cTK ([] : List TK)) 0) (.nil _) ?_
 refine IY ?_
 refine O2 ?_
 refine Nu ?_
 refine Ec ?_
 refine ET ?_
 refine Mc ?_
 refine Tm ?_
 refine Au rfl hF (fun hb1 hF => ?_) fun hb1 hF => ?_
 ·refine Bg ?_
  refine S_a (v := .snil) rfl ?_
  refine Eg 2 (v := .sl 6 (List.map cTK ([] : List TK)) 0) (.nil _) ?_
  refine IU ?_
  exact rt
 ·refine HE ?_
  refine CR (mdl [(18, 1)]) ?_
  refine Jp ?_
  refine cl (AT (fun _ h hF => HT _ h hF) _ hF fun x2 _ hF => ?_)
  refine CN (v := .agg (cTS (⟨x2, (0 : Int)⟩ : TS))) (Ej XV Y3 rfl) ?_
  refine Uz (cs := [.sl 1 (List.map AL (⟨x2, (0 : Int)⟩ : TS).b) 0, .int .i64 (⟨x2, (0 : Int)⟩ : TS).at_]) ok rfl rfl rfl rfl ?_
  intro i3 hi3 ok
  refine Ye ?_
  refine Ht ?_
  refine Ph ?_
  refine dD ?_
  refine cl (AT (fun _ h hF => JT _ h hF) _ hF fun x4 _ hF => ?_)
  refine I7 ?_
  refine V4 ?_
  refine MB ?_
  refine Au rfl hF (fun hb5 hF => ?_) fun hb5 hF => ?_
  ·refine Ib ?_
   refine S_a (v := .snil) rfl ?_
   refine Eg 2 (v := .sl 6 (List.map cTK ([] : List TK)) 0) (.nil _) ?_
   refine IU ?_
   exact rt
  ·refine Cl ?_
   refine Bg ?_
   refine S_a (v := .snil) rfl ?_
   refine NI cTK ok (fun ok => ?_)
   refine AY ?_
   refine T9 ?_
   refine So ?_
   refine VM (σ := (List UInt8) × Int × (List TK)) hF (fun (v : (List UInt8) × Int × (List TK)) s' => match v with | (a7, a8, a10) => ∃ g9 : Nat, (g9 = 0 → a10 = []) ∧ OK h [mo g9 cTK a10, (i3, .cells [.sl 1 (List.map AL a7) 0, .int .i64 a8])] ∧ WS s' ⟨Al 58 [(5, .ptr i3 0), (8, Aq 6 g9 a10)], Hp h [mo g9 cTK a10, (i3, .cells [.sl 1 (List.map AL a7) 0, .int .i64 a8])]⟩) ?_ ?_
   ·exact ⟨0, (fun _ => rfl), oy ok, wy ok⟩
   ·rintro G11 hG12 rec13 ⟨a7, a8, a10⟩ s' ih14 hF ⟨g9, zg9, ok, hws⟩
    refine AO hws ?_
    clear hws s'
    rw [B4] at hF
    refine Ec ?_
    refine Ec ?_
    refine EW (mdl []) (by kernel_rfl) (by kernel_rfl) ?_
    refine Iw ?_
    refine L5 ?_
    refine Z8 ?_
    refine Mq ?_
    refine aE ?_
    refine DT (j := 1) ok rfl rfl rfl (by assumption) (Bf (v := .sl _ _ _) S5 NO rfl) ?_
    refine Mc ?_
    refine LY ?_
    refine Au rfl hF (fun hb15 hF => ?_) fun hb15 hF => ?_
    ·refine SG ?_
     refine X3 ?_
     refine QS 0 2 ok zg9 rfl rfl (fun _ => rfl) (fun ok => ?_)
     refine IU ?_
     replace hF := hG12 _ (Ak hF)
     exact rt
    ·refine Km ?_
     refine L5 ?_
     refine Z8 ?_
     refine Mt ?_
     refine CR (mdl [(11, 1)]) ?_
     refine Es ?_
     refine CN (v := .agg [.int .i64 (0 : Int), .int .i64 a8, .str ([] : List UInt8), .snil, .str ([] : List UInt8), .int .i64 (0 : Int)]) (Ej OM ZA rfl) ?_
     refine DB ok rfl OM ?_
     intro i17 hi17 ok
     refine NI cP ok (fun ok => ?_)
     refine Cv (j := 1) (cs' := [.int .i64 (0 : Int), .int .i64 a8, .str ([] : List UInt8), .snil, .str ([] : List UInt8), .int .i64 (0 : Int)]) ok rfl rfl rfl hi17 rfl F8 rfl rfl (fun ok => ?_)
     refine NI cP ok (fun ok => ?_)
     refine Ii ?_
     obtain ⟨hpe, ok⟩ := Bh 2 ok rfl
     rw [hpe]; clear hpe
     obtain ⟨hpe, ok⟩ := Bh 4 ok rfl
     rw [hpe]; clear hpe
     refine cl (okT (fun _ hF => I8 (p0 := (⟨a7, a8⟩ : TS)) (p1 := (⟨(0 : Int), a8, ([] : List UInt8), ([] : List TP), ([] : List UInt8), (0 : Int)⟩ : TK)) (q0 := i3) (q1 := i17) (b1_3 := 0) h [mo 0 cP ([] : List TP), mo g9 cTK a10] hi3 hi17 (fun _ => rfl) ok hF) hF fun x20 _ _ _ hq hF => ?_)
     obtain ⟨rfl, u21, zu21, ok, rfl⟩ := hq
     refine WU ?_
     refine Au rfl hF (fun hb22 hF => ?_) fun hb22 hF => ?_
     ·refine Ib ?_
      refine S_a (v := .snil) rfl ?_
      refine Eg 2 (v := .sl 6 (List.map cTK ([] : List TK)) 0) (.nil _) ?_
      refine IU ?_
      replace hF := hG12 _ (Ak hF)
      exact rt
     ·refine HE ?_
      refine CR (mdl [(57, 1)]) ?_
      refine de (c := cP) (e := x20.2.2.Pairs) (cs' := [.int .i64 x20.2.2.Kind, .int .i64 x20.2.2.At, .str x20.2.2.Name, .sl 2 (List.map cP x20.2.2.Pairs) 0, .str x20.2.2.Text, .int .i64 x20.2.2.Refs]) 1 2 3 ok zu21 rfl hi17 rfl (by decide) (fun _ => rfl) rfl rfl (fun ok => ?_)
      refine Uc 1 11 ok rfl rfl hi17 (fun ok => ?_)
      refine LG ?_
      refine AX rfl (A4 (vs := cTK x20.2.2) HP F8 rfl rfl) ?_
      refine Fq (cs := [.int .i64 x20.2.2.Kind, .int .i64 x20.2.2.At, .str x20.2.2.Name, .sl 2 (List.map cP x20.2.2.Pairs) 0, .str x20.2.2.Text, .int .i64 x20.2.2.Refs]) (es := (List.map cTK [x20.2.2])) rfl Sb rfl (by kernel_rfl) (by kernel_rfl) ?_
      refine I4 (j := 4) (M := [x20.2.2]) ok zg9 rfl rfl JS (fun _ => rfl) rfl Sb YV hF ?_
      intro u26 zu26 ok hF
      obtain ⟨a27, ha27, hF⟩ := D9 hF
      rw [← ha27] at ok zu26
      rw [← ha27]
      refine Sa ?_
      refine QQ ?_
      repeat (first | with_reducible refine Exit.sel_goto ?_ | with_reducible refine Exit.blk_goto ?_)
      refine NX rfl ?_
      refine ih14 (x20.2.1.b, x20.2.1.at_, a27) _ hF ?_
      obtain ⟨hpe, ok⟩ := Bh 4 ok rfl
      rw [hpe]; clear hpe
      exact ⟨u26, zu26, oy ok, wy ok⟩
theorem Pf {G : Ao → Prop} (h : Heap) (hF : Am (Im) G) : CallsA Tryz.prog 23 [] h fun d h' => ∃ r, G r ∧ d = .agg (A0 r) ∧ h' = h := by
 refine CallsA.ret ?_
 refine Be Tryz.func23 rfl gj Tryz.ntmps23 rfl (fun ok => ?_)
 rw [Im] at hF
 refine Ec ?_
 refine CR (mdl [(0, 1)]) ?_
 refine DB ok rfl F3 ?_
 intro i1 hi1 ok
 refine Ms ?_
 refine CN (v := .agg [.snil]) (Ej F3 LU rfl) ?_
 refine Eg 1 (v := .agg (A0 (⟨([] : List Ai)⟩ : Ao))) (.aggC (.cons (.nil _) (.nil))) ?_
 refine Cv (j := 0) (cs' := [.sl 2 (List.map Af (⟨([] : List Ai)⟩ : Ao).binds) 0]) ok rfl rfl rfl hi1 rfl CX rfl rfl (fun ok => ?_)
 refine AY ?_
 refine Mn ?_
 refine xr ?_
 refine F6 (fn := Tryz.f23) rfl (.cell rfl (GO (j := 0) ok rfl hi1 (A4 (vs := [.sl 2 (List.map Af (⟨([] : List Ai)⟩ : Ao).binds) 0]) Fb CX rfl rfl)) .nil) ?_
 exact ⟨_, _, (.aggC (.refl _)), ok.wh, _, Ak hF, rfl, rfl⟩
theorem FQ (p0 : AA) (p1 : Ad) (q0 : Nat) (b0_0 : Nat) (x0 : List (Ag × Nat)) {G : Int × AA → Prop} (h : Heap) (O : List (Nat × AObj)) (hq0 : q0 ≠ 0) (hb0_0 : b0_0 ≠ 0) (hx0 : List.map Prod.fst x0 = p0.open_) (zk0 : zkR x0) (ok : OK h ((q0, .cells [.msl 8 b0_0 0 (List.length p0.open_), .int .i64 p0.nodes, .bool p0.done]) :: (b0_0, .cells (fl cK (List.reverse x0))) :: (E5 x0 ++ O))) (hF : Am (Ba p0 p1) G) : CallsA Tryz.prog 49 [.ptr q0 0, .agg (Ae p1)] (Hp h ((q0, .cells [.msl 8 b0_0 0 (List.length p0.open_), .int .i64 p0.nodes, .bool p0.done]) :: (b0_0, .cells (fl cK (List.reverse x0))) :: (E5 x0 ++ O))) fun d h' => ∃ r, G r ∧ d = .int .i64 r.1 ∧ ∃ (b0_0' : Nat) (x0' : List (Ag × Nat)), b0_0' ≠ 0 ∧ List.map Prod.fst x0' = r.2.open_ ∧ zkR x0' ∧ OK h ((q0, .cells [.msl 8 b0_0' 0 (List.length r.2.open_), .int .i64 r.2.nodes, .bool r.2.done]) :: (b0_0', .cells (fl cK (List.reverse x0'))) :: (E5 x0' ++ O)) ∧ h' = Hp h ((q0, .cells [.msl 8 b0_0' 0 (List.length r.2.open_), .int .i64 r.2.nodes, .bool r.2.done]) :: (b0_0', .cells (fl cK (List.reverse x0'))) :: (E5 x0' ++ O)) := by
 refine CallsA.ret ?_
 refine CJ Tryz.func49 rfl fI Tryz.ntmps49 rfl ?_
 rw [Ba] at hF
 refine Bg ?_
 refine Dc (v := .agg (Ae p1)) (cs := Ae p1) rfl rfl rfl rfl ?_
 refine Mt ?_
 refine Bg ?_
 refine Br rfl Cx As (by rw [Ab]; rfl) ?_
 refine AX rfl (Bf BN As (congrArg (List.drop 5) (Ab p1))) ?_
 refine Mv ?_
 refine Tm ?_
 refine Au rfl hF (fun hb1 hF => ?_) fun hb1 hF => ?_
 ·refine DI ?_
  refine rr ?_
  exact ⟨_, _, (.refl _), hy ok, _, Ak hF, rfl, b0_0, x0, hb0_0, hx0, zk0, oy ok, rfl⟩
 ·refine Km ?_
  refine I3 (K1 (e := p0.open_) (j := 0) ok rfl hq0 hF fun x2 he3 hF => ?_) (.k .nil)
  obtain ⟨t4, xs5, rfl, hx6⟩ := Hn hx0 he3
  have zt7 := (BT.1 zk0).1
  have zs8 := (BT.1 zk0).2
  have hp9 := Ji IB hx6
  have hck : cK (x2.1, t4) = [.int .i64 x2.1.node.Kind, .str x2.1.node.Name.URI, .str x2.1.node.Name.Local, .sl 3 (List.map Ac x2.1.node.Attrs) 0, Aq 6 t4 x2.1.node.Kids, .str x2.1.node.Text, .str x2.1.raw, .sl 2 (List.map Af x2.1.in_.binds) 0] := rfl
  rw [Cf, Dz, List.cons_append, hck] at ok
  rw [Cf, Dz, List.cons_append, hck]
  clear hck
  refine Ye ?_
  refine Ht ?_
  refine Uh (mdl [(20, 1), (17, 3)]) [0, 1, 2, 3, 4, 5, 6, 7, 8, 9, 11, 12, 13] [10, 14] [14, 10] [_, _, _, _, _, _, _, _, _, _, _, _, _] [_, _] [_, _] (by kernel_rfl) rfl rfl rfl rfl (by kernel_rfl) ?_
  refine Mq ?_
  refine T8 ?_
  refine Jv (j := 1) (f0 := 4) ok rfl rfl rfl hb0_0 (by omega) (Bf (v := Aq 6 t4 x2.1.node.Kids) Dl Bw rfl) ?_
  refine AX rfl (A4 (vs := Ae p1) CQ AK (by rw [Ab]; rfl) (by rw [Ab]; rfl)) ?_
  refine Kg zt7 rfl C7 ?_
  refine Fq (cs := [.int .i64 (0 : Int), .str ([] : List UInt8), .str ([] : List UInt8), .snil, .snil, .str ([] : List UInt8)]) (es := [[.int .i64 (0 : Int), .str ([] : List UInt8), .str ([] : List UInt8), .snil, .snil, .str ([] : List UInt8)]]) rfl IP rfl (by kernel_rfl) rfl ?_
  refine XN (c := Ae) (e := x2.1.node.Kids) (zs := [.int .i64 (0 : Int), .str ([] : List UInt8), .str ([] : List UInt8), .snil, .snil, .str ([] : List UInt8)]) (z0 := (⟨(0 : Int), (⟨([] : List UInt8), ([] : List UInt8)⟩ : Ah), ([] : List Aa), ([] : List Ad), ([] : List UInt8)⟩ : Ad)) (j := 2) ok zt7 rfl rfl rfl rfl B6 rfl IP OD hF ?_
  intro u10 hu10 ok hF
  refine b6 (e := x2.1.node.Kids) rfl rfl C7 AK ?_
  refine Hy ?_
  refine T8 ?_
  refine AY ?_
  refine ⟨?_, ?_⟩
  ·refine VL (c := Ae) (e := x2.1.node.Kids) (b := p1) (zs := [.int .i64 (0 : Int), .str ([] : List UInt8), .str ([] : List UInt8), .snil, .snil, .str ([] : List UInt8)]) (j := 2) ok rfl rfl rfl hu10 B6 rfl rfl AK rfl (fun ok => ?_)
   obtain ⟨a12, ha12, hF⟩ := D9 hF
   rw [← ha12] at ok
   rw [← ha12]
   have hml : .msl 6 u10 0 (List.length x2.1.node.Kids + 1) = Aq 6 u10 a12 := by rw [Fe hu10, ha12, List.length_append]; rfl
   try rw [hml] at ok
   try rw [hml]
   clear hml
   refine Yh (j := 1) (f0 := 4) (cs' := [.int .i64 x2.1.node.Kind, .str x2.1.node.Name.URI, .str x2.1.node.Name.Local, .sl 3 (List.map Ac x2.1.node.Attrs) 0, Aq 6 u10 a12, .str x2.1.node.Text, .str x2.1.raw, .sl 2 (List.map Af x2.1.in_.binds) 0]) ok rfl rfl rfl hb0_0 (by omega) Bw rfl rfl (fun ok => ?_)
   refine Ii ?_
   refine WB ?_
   refine T3 ?_
   refine I6 ?_
   refine WB ?_
   refine Cv (j := 0) (cs' := [.msl 8 b0_0 0 (List.length p0.open_), .int .i64 (IntKind.wrap .i64 (p0.nodes + (1 : Int))), .bool p0.done]) ok rfl rfl rfl hq0 rfl AN rfl rfl (fun ok => ?_)
   refine AY ?_
   refine DI ?_
   have hck : cK ((⟨(⟨x2.1.node.Kind, x2.1.node.Name, x2.1.node.Attrs, a12, x2.1.node.Text⟩ : Ad), x2.1.raw, x2.1.in_⟩ : Ag), u10) = [.int .i64 x2.1.node.Kind, .str x2.1.node.Name.URI, .str x2.1.node.Name.Local, .sl 3 (List.map Ac x2.1.node.Attrs) 0, Aq 6 u10 a12, .str x2.1.node.Text, .str x2.1.raw, .sl 2 (List.map Af x2.1.in_.binds) 0] := rfl
   rw [← hck, ← Cf (c := cK)] at ok
   rw [← hck, ← Cf (c := cK)]
   clear hck
   have hx13 : List.map Prod.fst (((⟨(⟨x2.1.node.Kind, x2.1.node.Name, x2.1.node.Attrs, a12, x2.1.node.Text⟩ : Ad), x2.1.raw, x2.1.in_⟩ : Ag), u10) :: xs5) = ((⟨(⟨x2.1.node.Kind, x2.1.node.Name, x2.1.node.Attrs, a12, x2.1.node.Text⟩ : Ad), x2.1.raw, x2.1.in_⟩ : Ag) :: x2.2) := by rw [List.map_cons, hx6]
   have zs14 : zkR (((⟨(⟨x2.1.node.Kind, x2.1.node.Name, x2.1.node.Attrs, a12, x2.1.node.Text⟩ : Ad), x2.1.raw, x2.1.in_⟩ : Ag), u10) :: xs5) := BT.2 ⟨(fun h => absurd h hu10), zs8⟩
   have hle15 : List.length p0.open_ = List.length ((⟨(⟨x2.1.node.Kind, x2.1.node.Name, x2.1.node.Attrs, a12, x2.1.node.Text⟩ : Ad), x2.1.raw, x2.1.in_⟩ : Ag) :: x2.2) := by rw [he3]; rfl
   try rw [hle15] at ok
   try rw [hle15]
   refine rr ?_
   exact ⟨_, _, (.refl _), hy ok, _, Ak hF, rfl, b0_0, (((⟨(⟨x2.1.node.Kind, x2.1.node.Name, x2.1.node.Attrs, a12, x2.1.node.Text⟩ : Ad), x2.1.raw, x2.1.in_⟩ : Ag), u10) :: xs5), hb0_0, hx13, zs14, oy ok, rfl⟩
  ·refine UZ (j := 1) (f0 := 4) (cs' := [.int .i64 x2.1.node.Kind, .str x2.1.node.Name.URI, .str x2.1.node.Name.Local, .sl 3 (List.map Ac x2.1.node.Attrs) 0, .msl 6 u10 0 (List.length x2.1.node.Kids + 1), .str x2.1.node.Text, .str x2.1.raw, .sl 2 (List.map Af x2.1.in_.binds) 0]) ok rfl rfl rfl hb0_0 (by omega) rfl Bw rfl rfl (fun ok => ?_)
   refine VL (c := Ae) (e := x2.1.node.Kids) (b := p1) (zs := [.int .i64 (0 : Int), .str ([] : List UInt8), .str ([] : List UInt8), .snil, .snil, .str ([] : List UInt8)]) (j := 2) ok rfl rfl rfl hu10 B6 rfl rfl AK rfl (fun ok => ?_)
   obtain ⟨a16, ha16, hF⟩ := D9 hF
   rw [← ha16] at ok
   rw [← ha16]
   have hml : .msl 6 u10 0 (List.length x2.1.node.Kids + 1) = Aq 6 u10 a16 := by rw [Fe hu10, ha16, List.length_append]; rfl
   try rw [hml] at ok
   try rw [hml]
   clear hml
   refine Ii ?_
   refine WB ?_
   refine T3 ?_
   refine I6 ?_
   refine WB ?_
   refine Cv (j := 0) (cs' := [.msl 8 b0_0 0 (List.length p0.open_), .int .i64 (IntKind.wrap .i64 (p0.nodes + (1 : Int))), .bool p0.done]) ok rfl rfl rfl hq0 rfl AN rfl rfl (fun ok => ?_)
   refine AY ?_
   refine DI ?_
   have hck : cK ((⟨(⟨x2.1.node.Kind, x2.1.node.Name, x2.1.node.Attrs, a16, x2.1.node.Text⟩ : Ad), x2.1.raw, x2.1.in_⟩ : Ag), u10) = [.int .i64 x2.1.node.Kind, .str x2.1.node.Name.URI, .str x2.1.node.Name.Local, .sl 3 (List.map Ac x2.1.node.Attrs) 0, Aq 6 u10 a16, .str x2.1.node.Text, .str x2.1.raw, .sl 2 (List.map Af x2.1.in_.binds) 0] := rfl
   rw [← hck, ← Cf (c := cK)] at ok
   rw [← hck, ← Cf (c := cK)]
   clear hck
   have hx17 : List.map Prod.fst (((⟨(⟨x2.1.node.Kind, x2.1.node.Name, x2.1.node.Attrs, a16, x2.1.node.Text⟩ : Ad), x2.1.raw, x2.1.in_⟩ : Ag), u10) :: xs5) = ((⟨(⟨x2.1.node.Kind, x2.1.node.Name, x2.1.node.Attrs, a16, x2.1.node.Text⟩ : Ad), x2.1.raw, x2.1.in_⟩ : Ag) :: x2.2) := by rw [List.map_cons, hx6]
   have zs18 : zkR (((⟨(⟨x2.1.node.Kind, x2.1.node.Name, x2.1.node.Attrs, a16, x2.1.node.Text⟩ : Ad), x2.1.raw, x2.1.in_⟩ : Ag), u10) :: xs5) := BT.2 ⟨(fun h => absurd h hu10), zs8⟩
   have hle19 : List.length p0.open_ = List.length ((⟨(⟨x2.1.node.Kind, x2.1.node.Name, x2.1.node.Attrs, a16, x2.1.node.Text⟩ : Ad), x2.1.raw, x2.1.in_⟩ : Ag) :: x2.2) := by rw [he3]; rfl
   try rw [hle19] at ok
   try rw [hle19]
   refine rr ?_
   exact ⟨_, _, (.refl _), hy ok, _, Ak hF, rfl, b0_0, (((⟨(⟨x2.1.node.Kind, x2.1.node.Name, x2.1.node.Attrs, a16, x2.1.node.Text⟩ : Ad), x2.1.raw, x2.1.in_⟩ : Ag), u10) :: xs5), hb0_0, hx17, zs18, oy ok, rfl⟩
theorem GY (p0 : AA) (p1 : TK) (q0 : Nat) (b0_0 : Nat) (x0 : List (Ag × Nat)) {G : Int × AA → Prop} (h : Heap) (O : List (Nat × AObj)) (hq0 : q0 ≠ 0) (hb0_0 : b0_0 ≠ 0) (hx0 : List.map Prod.fst x0 = p0.open_) (zk0 : zkR x0) (ok : OK h ((q0, .cells [.msl 8 b0_0 0 (List.length p0.open_), .int .i64 p0.nodes, .bool p0.done]) :: (b0_0, .cells (fl cK (List.reverse x0))) :: (E5 x0 ++ O))) (hF : Am (AQ p0 p1) G) : CallsA Tryz.prog 50 [.ptr q0 0, .agg (cTK p1)] (Hp h ((q0, .cells [.msl 8 b0_0 0 (List.length p0.open_), .int .i64 p0.nodes, .bool p0.done]) :: (b0_0, .cells (fl cK (List.reverse x0))) :: (E5 x0 ++ O))) fun d h' => ∃ r, G r ∧ d = .int .i64 r.1 ∧ ∃ (b0_0' : Nat) (x0' : List (Ag × Nat)), b0_0' ≠ 0 ∧ List.map Prod.fst x0' = r.2.open_ ∧ zkR x0' ∧ OK h ((q0, .cells [.msl 8 b0_0' 0 (List.length r.2.open_), .int .i64 r.2.nodes, .bool r.2.done]) :: (b0_0', .cells (fl cK (List.reverse x0'))) :: (E5 x0' ++ O)) ∧ h' = Hp h ((q0, .cells [.msl 8 b0_0' 0 (List.length r.2.open_), .int .i64 r.2.nodes, .bool r.2.done]) :: (b0_0', .cells (fl cK (List.reverse x0'))) :: (E5 x0' ++ O)) := by
 refine CallsA.ret ?_
 refine CJ Tryz.func50 rfl fO Tryz.ntmps50 rfl ?_
 rw [AQ] at hF
 refine Bg ?_
 refine Dc rfl rfl rfl rfl ?_
 refine Mt ?_
 refine Ph ?_
 refine Xl ?_
 refine ID (e := p0.open_) rfl E7 ?_
 refine LY ?_
 refine Au rfl hF (fun hb1 hF => ?_) fun hb1 hF => ?_
 ·refine Nc ?_
  refine Br rfl Lf AN rfl ?_
  refine Zn ?_
  refine II ?_
  refine Cp (b := (p1.Kind == (6 : Int))) 4 20 (.bool ((p1.Kind == (6 : Int)) || (decide ((0 : Int) < p1.Refs)))) (fun hb2 => ?_) (fun hb2 => ?_) ?_
  ·refine Od ?_
   exact th
  ·refine D3 ?_
   refine Br rfl Om AN rfl ?_
   refine AF ?_
   refine Zn ?_
   refine W3 ?_
   refine EK ?_
   exact th
  refine CM ?_
  refine Bu 5 26 hF (fun J4 hb3 hF => ?_) (fun J4 hb3 hF => ?_) (fun v5 hF => ?_)
  ·refine Lm ?_
   exact tw
  ·refine D3 ?_
   refine Wf ?_
   refine AF ?_
   refine F7 ?_
   refine AF ?_
   refine cl (L9 _ hF fun x6 _ hF => ?_)
   refine Uu ?_
   refine EK ?_
   exact tw
  ·refine AY ?_
   refine Au rfl hF (fun hb7 hF => ?_) fun hb7 hF => ?_
   ·refine DI ?_
    refine rr ?_
    exact ⟨_, _, (.refl _), hy ok, _, Ak hF, rfl, b0_0, x0, hb0_0, hx0, zk0, oy ok, rfl⟩
   ·refine SN ?_
    refine rr ?_
    exact ⟨_, _, (.refl _), hy ok, _, Ak hF, rfl, b0_0, x0, hb0_0, hx0, zk0, oy ok, rfl⟩
 ·refine Km ?_
  refine I3 (K1 (e := p0.open_) (j := 0) ok rfl hq0 hF fun x8 he9 hF => ?_) (.k .nil)
  obtain ⟨t10, xs11, rfl, hx12⟩ := Hn hx0 he9
  have zt13 := (BT.1 zk0).1
  have zs14 := (BT.1 zk0).2
  have hp15 := Ji IB hx12
  have hck : cK (x8.1, t10) = [.int .i64 x8.1.node.Kind, .str x8.1.node.Name.URI, .str x8.1.node.Name.Local, .sl 3 (List.map Ac x8.1.node.Attrs) 0, Aq 6 t10 x8.1.node.Kids, .str x8.1.node.Text, .str x8.1.raw, .sl 2 (List.map Af x8.1.in_.binds) 0] := rfl
  rw [Cf, Dz, List.cons_append, hck] at ok
  rw [Cf, Dz, List.cons_append, hck]
  clear hck
  refine Ye ?_
  refine Ii ?_
  refine Hy ?_
  refine T8 ?_
  refine Jv (j := 1) (f0 := 4) ok rfl rfl rfl hb0_0 (by omega) (Bf (v := Aq 6 t10 x8.1.node.Kids) Dl Bw rfl) ?_
  refine Kg zt13 rfl C7 ?_
  refine Ix ?_
  refine Mt ?_
  refine NU ?_
  refine Wf ?_
  refine F7 ?_
  refine Nf ?_
  refine Au rfl hF (fun hb16 hF => ?_) fun hb16 hF => ?_
  ·refine DI ?_
   have hck : cK (x8.1, t10) = [.int .i64 x8.1.node.Kind, .str x8.1.node.Name.URI, .str x8.1.node.Name.Local, .sl 3 (List.map Ac x8.1.node.Attrs) 0, Aq 6 t10 x8.1.node.Kids, .str x8.1.node.Text, .str x8.1.raw, .sl 2 (List.map Af x8.1.in_.binds) 0] := rfl
   rw [← hck, ← Cf (c := cK)] at ok
   rw [← hck, ← Cf (c := cK)]
   clear hck
   have hx17 : List.map Prod.fst ((x8.1, t10) :: xs11) = p0.open_ := by rw [List.map_cons, hx12, he9]
   have zs18 : zkR ((x8.1, t10) :: xs11) := BT.2 ⟨zt13, zs14⟩
   refine rr ?_
   exact ⟨_, _, (.refl _), hy ok, _, Ak hF, rfl, b0_0, ((x8.1, t10) :: xs11), hb0_0, hx17, zs18, oy ok, rfl⟩
  ·refine FA ?_
   refine TI ?_
   refine Bu 11 54 hF (fun J20 hb19 hF => ?_) (fun J20 hb19 hF => ?_) (fun v21 hF => ?_)
   ·refine GU ?_
    refine WG ?_
    exact tw
   ·refine UM ?_
    refine bf ?_
    refine AF ?_
    refine WY ?_
    refine AF ?_
    refine Jv (j := 1) (f0 := 4) ok rfl rfl rfl hb0_0 (by omega) (Bf (v := Aq 6 t10 x8.1.node.Kids) Dl Bw rfl) ?_
    refine Ps ?_
    refine DV zt13 rfl rfl C7 AK hF (fun x22 hx22 hF => ?_)
    refine AF ?_
    refine DF rfl Dy AN ?_
    refine AF ?_
    refine Fw (q := 6) (j := 2) (f0 := 0) ok rfl zt13 rfl rfl B6 hx22 rfl rfl (Bf EN AN (congrArg (List.drop 0) (Ab x22))) ?_
    refine AF ?_
    refine R4 ?_
    refine EK ?_
    exact tw
   ·refine CS ?_
    refine Au rfl hF (fun hb23 hF => ?_) fun hb23 hF => ?_
    ·refine GF ?_
     refine Wf ?_
     refine F7 ?_
     refine CN (v := .agg [.int .i64 (3 : Int), .str ([] : List UInt8), .str ([] : List UInt8), .snil, .snil, .str p1.Text]) (Ej DD F5 rfl) ?_
     refine Eg 58 (v := .agg (Ae (⟨(3 : Int), (⟨([] : List UInt8), ([] : List UInt8)⟩ : Ah), ([] : List Aa), ([] : List Ad), p1.Text⟩ : Ad))) (Wd.toE (.aggC (.cons (.refl _) (.cons (.refl _) (.cons (.refl _) (.cons (.nil _) (.cons (.nil _) (.refl _))))))) (Ab _)) ?_
     have hck : cK (x8.1, t10) = [.int .i64 x8.1.node.Kind, .str x8.1.node.Name.URI, .str x8.1.node.Name.Local, .sl 3 (List.map Ac x8.1.node.Attrs) 0, Aq 6 t10 x8.1.node.Kids, .str x8.1.node.Text, .str x8.1.raw, .sl 2 (List.map Af x8.1.in_.binds) 0] := rfl
     rw [← hck, ← Cf (c := cK)] at ok
     rw [← hck, ← Cf (c := cK)]
     clear hck
     have hx24 : List.map Prod.fst ((x8.1, t10) :: xs11) = p0.open_ := by rw [List.map_cons, hx12, he9]
     have zs25 : zkR ((x8.1, t10) :: xs11) := BT.2 ⟨zt13, zs14⟩
     obtain ⟨hpe, ok⟩ := Bh 1 ok rfl
     rw [hpe]; clear hpe
     obtain ⟨hpe, ok⟩ := Bh 1 ok rfl
     rw [hpe]; clear hpe
     refine cl (okT (fun _ hF => FQ _ (p0 := p0) (q0 := q0) (b0_0 := b0_0) (x0 := ((x8.1, t10) :: xs11)) h O hq0 hb0_0 hx24 zs25 ok hF) hF fun x26 _ _ _ hq hF => ?_)
     obtain ⟨rfl, u27, x28, hu27, hxu27, zku27, ok, rfl⟩ := hq
     refine Fp ?_
     refine rr ?_
     exact ⟨_, _, (.refl _), hy ok, _, Ak hF, rfl, u27, x28, hu27, hxu27, zku27, oy ok, rfl⟩
    ·refine HE ?_
     refine EW (mdl [(70, 3)]) (by kernel_rfl) (by kernel_rfl) ?_
     refine Mq ?_
     refine T8 ?_
     refine Jv (j := 1) (f0 := 4) ok rfl rfl rfl hb0_0 (by omega) (Bf (v := Aq 6 t10 x8.1.node.Kids) Dl Bw rfl) ?_
     refine Es ?_
     refine DV zt13 rfl rfl C7 AK hF (fun x29 hx29 hF => ?_)
     refine DF rfl Cx As ?_
     refine Fw (q := 6) (j := 2) (f0 := 5) ok rfl zt13 rfl rfl B6 hx29 rfl rfl (Bf BN As (congrArg (List.drop 5) (Ab x29))) ?_
     refine Wf ?_
     refine F7 ?_
     refine fB rfl rfl hF (fun hF => ?_)
     refine DV zt13 rfl rfl C7 AK hF (fun x30 hx30 hF => ?_)
     refine DF rfl Cx As ?_
     refine KP (q := 6) (j := 2) (f0 := 5) (b := (⟨x30.Kind, x30.Name, x30.Attrs, x30.Kids, (x29.Text ++ p1.Text)⟩ : Ad)) ok zt13 rfl rfl rfl B6 hx30 rfl rfl As rfl (by rw [Ab, Ab]; rfl) (fun za31 ok => ?_)
     obtain ⟨a31, ha31, hF⟩ := D9 hF
     rw [← ha31] at ok za31
     rw [← ha31]
     have hms : Aq 6 t10 x8.1.node.Kids = Aq 6 t10 a31 := CW (by rw [ha31, List.length_set])
     try rw [hms] at ok
     try rw [hms]
     clear hms
     refine Ht ?_
     refine Ph ?_
     refine T8 ?_
     refine Jv (j := 1) (f0 := 4) ok rfl rfl rfl hb0_0 (by omega) (Bf (v := Aq 6 t10 a31) Dl Bw rfl) ?_
     refine Es ?_
     refine DV za31 rfl rfl C7 AK hF (fun x32 hx32 hF => ?_)
     refine DF rfl Cx As ?_
     refine Fw (q := 6) (j := 2) (f0 := 5) ok rfl za31 rfl rfl B6 hx32 rfl rfl (Bf BN As (congrArg (List.drop 5) (Ab x32))) ?_
     refine Mv ?_
     refine Tm ?_
     refine Au rfl hF (fun hb33 hF => ?_) fun hb33 hF => ?_
     ·refine DI ?_
      have hck : cK ((⟨(⟨x8.1.node.Kind, x8.1.node.Name, x8.1.node.Attrs, a31, x8.1.node.Text⟩ : Ad), x8.1.raw, x8.1.in_⟩ : Ag), t10) = [.int .i64 x8.1.node.Kind, .str x8.1.node.Name.URI, .str x8.1.node.Name.Local, .sl 3 (List.map Ac x8.1.node.Attrs) 0, Aq 6 t10 a31, .str x8.1.node.Text, .str x8.1.raw, .sl 2 (List.map Af x8.1.in_.binds) 0] := rfl
      rw [← hck, ← Cf (c := cK)] at ok
      rw [← hck, ← Cf (c := cK)]
      clear hck
      have hx34 : List.map Prod.fst (((⟨(⟨x8.1.node.Kind, x8.1.node.Name, x8.1.node.Attrs, a31, x8.1.node.Text⟩ : Ad), x8.1.raw, x8.1.in_⟩ : Ag), t10) :: xs11) = ((⟨(⟨x8.1.node.Kind, x8.1.node.Name, x8.1.node.Attrs, a31, x8.1.node.Text⟩ : Ad), x8.1.raw, x8.1.in_⟩ : Ag) :: x8.2) := by rw [List.map_cons, hx12]
      have zs35 : zkR (((⟨(⟨x8.1.node.Kind, x8.1.node.Name, x8.1.node.Attrs, a31, x8.1.node.Text⟩ : Ad), x8.1.raw, x8.1.in_⟩ : Ag), t10) :: xs11) := BT.2 ⟨za31, zs14⟩
      have hle36 : List.length p0.open_ = List.length ((⟨(⟨x8.1.node.Kind, x8.1.node.Name, x8.1.node.Attrs, a31, x8.1.node.Text⟩ : Ad), x8.1.raw, x8.1.in_⟩ : Ag) :: x8.2) := by rw [he9]; rfl
      try rw [hle36] at ok
      try rw [hle36]
      refine rr ?_
      exact ⟨_, _, (.refl _), hy ok, _, Ak hF, rfl, b0_0, (((⟨(⟨x8.1.node.Kind, x8.1.node.Name, x8.1.node.Attrs, a31, x8.1.node.Text⟩ : Ad), x8.1.raw, x8.1.in_⟩ : Ag), t10) :: xs11), hb0_0, hx34, zs35, oy ok, rfl⟩
     ·refine SN ?_
      have hck : cK ((⟨(⟨x8.1.node.Kind, x8.1.node.Name, x8.1.node.Attrs, a31, x8.1.node.Text⟩ : Ad), x8.1.raw, x8.1.in_⟩ : Ag), t10) = [.int .i64 x8.1.node.Kind, .str x8.1.node.Name.URI, .str x8.1.node.Name.Local, .sl 3 (List.map Ac x8.1.node.Attrs) 0, Aq 6 t10 a31, .str x8.1.node.Text, .str x8.1.raw, .sl 2 (List.map Af x8.1.in_.binds) 0] := rfl
      rw [← hck, ← Cf (c := cK)] at ok
      rw [← hck, ← Cf (c := cK)]
      clear hck
      have hx37 : List.map Prod.fst (((⟨(⟨x8.1.node.Kind, x8.1.node.Name, x8.1.node.Attrs, a31, x8.1.node.Text⟩ : Ad), x8.1.raw, x8.1.in_⟩ : Ag), t10) :: xs11) = ((⟨(⟨x8.1.node.Kind, x8.1.node.Name, x8.1.node.Attrs, a31, x8.1.node.Text⟩ : Ad), x8.1.raw, x8.1.in_⟩ : Ag) :: x8.2) := by rw [List.map_cons, hx12]
      have zs38 : zkR (((⟨(⟨x8.1.node.Kind, x8.1.node.Name, x8.1.node.Attrs, a31, x8.1.node.Text⟩ : Ad), x8.1.raw, x8.1.in_⟩ : Ag), t10) :: xs11) := BT.2 ⟨za31, zs14⟩
      have hle39 : List.length p0.open_ = List.length ((⟨(⟨x8.1.node.Kind, x8.1.node.Name, x8.1.node.Attrs, a31, x8.1.node.Text⟩ : Ad), x8.1.raw, x8.1.in_⟩ : Ag) :: x8.2) := by rw [he9]; rfl
      try rw [hle39] at ok
      try rw [hle39]
      refine rr ?_
      exact ⟨_, _, (.refl _), hy ok, _, Ak hF, rfl, b0_0, (((⟨(⟨x8.1.node.Kind, x8.1.node.Name, x8.1.node.Attrs, a31, x8.1.node.Text⟩ : Ad), x8.1.raw, x8.1.in_⟩ : Ag), t10) :: xs11), hb0_0, hx37, zs38, oy ok, rfl⟩
theorem H3 (p0 : TP) {G : (List UInt8) × Bool → Prop} (h : Heap) (hF : Am (Df p0) G) : CallsA Tryz.prog 131 [.agg (cP p0)] h fun d h' => ∃ r, G r ∧ d = .tup [.str r.1, .bool r.2] ∧ h' = h := by
 refine CallsA.ret ?_
 refine Be Tryz.func131 rfl dN Tryz.ntmps131 rfl (fun ok => ?_)
 rw [Df] at hF
 refine Bg ?_
 refine Dc rfl rfl rfl rfl ?_
 refine S_a (v := .str ([] : List UInt8)) rfl ?_
 refine KM ?_
 refine Br rfl JQ As rfl ?_
 refine F7 ?_
 refine cl (AT (fun _ h hF => GM _ h hF) _ hF fun x1 _ hF => ?_)
 refine Xj ?_
 refine IM ?_
 refine CS ?_
 refine Ec ?_
 refine NU ?_
 refine RB ?_
 refine Cp (b := x1.2.2) 3 19 (.bool (x1.2.2 && (x1.1 == ([120, 109, 108, 110, 115] : List UInt8)))) (fun hb2 => ?_) (fun hb2 => ?_) ?_
 ·refine Kp ?_
  refine Up ?_
  exact th
 ·refine IE ?_
  exact th
 refine CS ?_
 refine Au rfl hF (fun hb3 hF => ?_) fun hb3 hF => ?_
 ·refine Fz ?_
  refine UP ?_
  exact rt
 ·refine Bg ?_
  refine Br rfl JQ As rfl ?_
  refine F7 ?_
  refine Nf ?_
  refine Au rfl hF (fun hb4 hF => ?_) fun hb4 hF => ?_
  ·refine Bg ?_
   refine S_a (v := .str ([] : List UInt8)) rfl ?_
   refine Ep ?_
   exact rt
  ·refine Cl ?_
   refine Bg ?_
   refine S_a (v := .str ([] : List UInt8)) rfl ?_
   refine Ep ?_
   exact rt
theorem Ng (p0 : List UInt8) (p1 : List UInt8) {G : Int → Prop} (h : Heap) (hF : Am (EF p0 p1) G) : CallsA Tryz.prog 132 [.str p0, .str p1] h fun d h' => ∃ r, G r ∧ d = .int .i64 r ∧ h' = h := by
 refine CallsA.ret ?_
 refine Be Tryz.func132 rfl cp Tryz.ntmps132 rfl (fun ok => ?_)
 rw [EF] at hF
 refine T9 ?_
 refine FB ?_
 refine A5 hF (fun (a3 : Bool) s' => OK h [] ∧ WS s' ⟨Al 26 [(0, .str p0), (1, .str p1), (5, .bool a3)], Hp h []⟩) (fun J4 hF => ?_) ?_
 ·refine Fz ?_
  refine Nf ?_
  refine Au rfl hF (fun hb5 hF => ?_) fun hb5 hF => ?_
  ·refine Cl ?_
   exact ⟨(p0 == ([120, 109, 108, 110, 115] : List UInt8)), hF, oy ok, wy ok⟩
  ·refine Fz ?_
   refine Nf ?_
   refine Au rfl hF (fun hb6 hF => ?_) fun hb6 hF => ?_
   ·refine Cl ?_
    exact ⟨(p1 == ([104, 116, 116, 112, 58, 47, 47, 119, 119, 119, 46, 119, 51, 46, 111, 114, 103, 47, 50, 48, 48, 48, 47, 120, 109, 108, 110, 115, 47] : List UInt8)), hF, oy ok, wy ok⟩
   ·refine Hu ?_
    refine JK ?_
    refine LK ?_
    refine JK ?_
    refine LK ?_
    refine D4 rfl rfl (eJ aQ) ?_
    refine CS ?_
    exact ⟨(!((p0 == ([120, 109, 108] : List UInt8)) == (p1 == ([104, 116, 116, 112, 58, 47, 47, 119, 119, 119, 46, 119, 51, 46, 111, 114, 103, 47, 88, 77, 76, 47, 49, 57, 57, 56, 47, 110, 97, 109, 101, 115, 112, 97, 99, 101] : List UInt8)))), hF, oy ok, wy ok⟩
 ·rintro a3 s' hF ⟨ok, hws⟩
  refine AO hws ?_
  clear hws s'
  refine Au rfl hF (fun hb7 hF => ?_) fun hb7 hF => ?_
  ·refine DI ?_
   exact rt
  ·refine Fz ?_
   refine RA ?_
   refine CM ?_
   refine Cp (b := (!(p0 == ([] : List UInt8)))) 3 21 (.bool ((!(p0 == ([] : List UInt8))) && (p1 == ([] : List UInt8)))) (fun hb8 => ?_) (fun hb8 => ?_) ?_
   ·refine Kp ?_
    refine Up ?_
    exact th
   ·refine IE ?_
    exact th
   refine CS ?_
   refine Au rfl hF (fun hb9 hF => ?_) fun hb9 hF => ?_
   ·refine DI ?_
    exact rt
   ·refine T7 ?_
    refine Sk ?_
    refine CS ?_
    refine Au rfl hF (fun hb10 hF => ?_) fun hb10 hF => ?_
    ·refine DI ?_
     exact rt
    ·refine SN ?_
     exact rt
theorem Hb (p0 : List (List UInt8)) (p1 : List UInt8) {G : Int → Prop} (h : Heap) (hF : Am (Db p0 p1) G) : CallsA Tryz.prog 169 [.sl 1 (List.map JC p0) 0, .str p1] h fun d h' => ∃ r, G r ∧ d = .int .i64 r ∧ h' = h := by
 refine CallsA.ret ?_
 refine Be Tryz.func169 rfl c8 Tryz.ntmps169 rfl (fun ok => ?_)
 rw [Db] at hF
 refine HI ?_
 refine A5 hF (fun (_ : Unit) s' => OK h [] ∧ WS s' ⟨Al 19 [], Hp h []⟩) (fun J5 hF => ?_) ?_
 ·refine ET ?_
  refine HU rfl LL ?_
  refine Ia ?_
  refine Cg (σ := Int) hF (fun (a6 : Int) s' => OK h [] ∧ WS s' ⟨Al 19 [(0, .sl 1 (List.map JC p0) 0), (1, .str p1), (7, .int .i64 (p0.length : Int)), (8, .int .i64 a6)], Hp h []⟩) ?_ ?_
  ·exact ⟨oy ok, wy ok⟩
  ·rintro G7 hG8 rec9 a6 s' ih10 hF ⟨ok, hws⟩
   refine AO hws ?_
   clear hws s'
   rw [Cq] at hF
   refine Ih ?_
   refine Au rfl hF (fun hb11 hF => ?_) fun hb11 hF => ?_
   ·refine SQ ?_
    refine Fz ?_
    refine S7 ?_
    refine Gh rfl rfl LL As hF (fun x12 _ hF => ?_)
    refine F7 ?_
    refine LK ?_
    refine AY ?_
    refine Au rfl hF (fun hb13 hF => ?_) fun hb13 hF => ?_
    ·refine If ?_
     replace hF := hG8 _ (Ak hF)
     exact rt
    ·refine KZ ?_
     refine ih10 (IntKind.wrap .i64 (a6 + (1 : Int))) _ hF ?_
     exact ⟨oy ok, wy ok⟩
   ·refine DS ?_
    replace hF := hG8 _ (Ak hF)
    exact ⟨(), hF, oy ok, wy ok⟩
 ·rintro ⟨⟩ s' hF ⟨ok, hws⟩
  refine AO hws ?_
  clear hws s'
  refine DI ?_
  exact rt
theorem Gw (p0 : List (List UInt8)) (p1 : List UInt8) {G : Bool → Prop} (h : Heap) (hF : Am (Cr p0 p1) G) : CallsA Tryz.prog 133 [.sl 1 (List.map JC p0) 0, .str p1] h fun d h' => ∃ r, G r ∧ d = .bool r ∧ h' = h := by
 refine CallsA.ret ?_
 refine Be Tryz.func133 rfl dC Tryz.ntmps133 rfl (fun ok => ?_)
 rw [Cr] at hF
 refine Ic ?_
 refine ET ?_
 refine JK ?_
 refine cl (AT (fun _ h hF => Hb _ _ h hF) _ hF fun x1 _ hF => ?_)
 refine Lc ?_
 refine Ep ?_
 exact rt
theorem Jj (p0 : Ai) (p1 : List UInt8) {G : Bool → Prop} (h : Heap) (hF : Am (Ce p0 p1) G) : CallsA Tryz.prog 135 [.agg (Af p0), .iptr [.str p1]] h fun d h' => ∃ r, G r ∧ d = .bool r ∧ h' = h := by
 refine CallsA.ret ?_
 refine Be Tryz.func135 rfl cO Tryz.ntmps135 rfl (fun ok => ?_)
 rw [Ce] at hF
 refine Bg ?_
 refine Dc rfl rfl rfl rfl ?_
 refine KM ?_
 refine Br rfl MV As rfl ?_
 refine F7 ?_
 refine F7 ?_
 refine LK ?_
 refine Ep ?_
 exact rt
theorem EZ (p0 : List Ai) (p1 : Ai → Option Bool) (f1 : FuncId) (fi1 : List D) (ca1 : List D) (b0 : Nat) {G : Int → Prop} (h : Heap) (O : List (Nat × AObj)) (hf1 : ∀ (x0 : Ai) (G : Bool → Prop) (h : Heap), Am (p1 x0) G → CallsA Tryz.prog f1 (fi1 ++ [.agg (Af x0)] ++ ca1) h fun d h' => ∃ r, G r ∧ d = .bool r ∧ h' = h) (zb0 : b0 = 0 → p0 = []) (ok : OK h (mo b0 Af p0 :: O)) (hF : Am (BW p0 p1) G) : CallsA Tryz.prog 170 [Aq 2 b0 p0, .fn (.func f1) fi1 ca1] (Hp h (mo b0 Af p0 :: O)) fun d h' => ∃ r, G r ∧ d = .int .i64 r ∧ OK h (mo b0 Af p0 :: O) ∧ h' = Hp h (mo b0 Af p0 :: O) := by
 refine CallsA.ret ?_
 refine CJ Tryz.func170 rfl dw Tryz.ntmps170 rfl ?_
 rw [BW] at hF
 refine HI ?_
 refine A5 hF (fun (_ : Unit) s' => OK h (mo b0 Af p0 :: O) ∧ WS s' ⟨Al 19 [], Hp h (mo b0 Af p0 :: O)⟩) (fun J6 hF => ?_) ?_
 ·refine SG ?_
  refine Kg zb0 rfl EP ?_
  refine Ia ?_
  refine Cg (σ := Int) hF (fun (a7 : Int) s' => OK h (mo b0 Af p0 :: O) ∧ WS s' ⟨Al 19 [(0, Aq 2 b0 p0), (1, .fn (.func f1) fi1 ca1), (7, .int .i64 (p0.length : Int)), (8, .int .i64 a7)], Hp h (mo b0 Af p0 :: O)⟩) ?_ ?_
  ·exact ⟨oy ok, wy ok⟩
  ·rintro G8 hG9 rec10 a7 s' ih11 hF ⟨ok, hws⟩
   refine AO hws ?_
   clear hws s'
   rw [Bp] at hF
   refine Ih ?_
   refine Au rfl hF (fun hb12 hF => ?_) fun hb12 hF => ?_
   ·refine SQ ?_
    refine Bg ?_
    refine Le ?_
    refine GV ?_
    refine DV zb0 rfl rfl EP DX hF (fun x13 hx13 hF => ?_)
    refine Fw (q := 2) (j := 0) (f0 := 0) ok rfl zb0 rfl rfl (fun _ => rfl) hx13 rfl rfl (A4 (vs := Af x13) IW DX rfl rfl) ?_
    refine It rfl (AT (enc := fun r => .bool r) (fun G h hF => hf1 x13 G h hF) _ hF fun x14 _ hF => ?_) (.app (.app (.refl _) (.refl _)) (.refl _))
    refine AY ?_
    refine Au rfl hF (fun hb15 hF => ?_) fun hb15 hF => ?_
    ·refine If ?_
     replace hF := hG9 _ (Ak hF)
     refine rr ?_
     exact ⟨_, _, (.refl _), hy ok, _, Ak hF, rfl, oy ok, rfl⟩
    ·refine KZ ?_
     refine ih11 (IntKind.wrap .i64 (a7 + (1 : Int))) _ hF ?_
     exact ⟨oy ok, wy ok⟩
   ·refine DS ?_
    replace hF := hG9 _ (Ak hF)
    exact ⟨(), hF, oy ok, wy ok⟩
 ·rintro ⟨⟩ s' hF ⟨ok, hws⟩
  refine AO hws ?_
  clear hws s'
  refine DI ?_
  refine rr ?_
  exact ⟨_, _, (.refl _), hy ok, _, Ak hF, rfl, oy ok, rfl⟩
theorem EU (p0 : List Ai) (p1 : Ai → Option Bool) (f1 : FuncId) (fi1 : List D) (ca1 : List D) (b0 : Nat) {G : List Ai → Prop} (h : Heap) (O : List (Nat × AObj)) (hf1 : ∀ (x0 : Ai) (G : Bool → Prop) (h : Heap), Am (p1 x0) G → CallsA Tryz.prog f1 (fi1 ++ [.agg (Af x0)] ++ ca1) h fun d h' => ∃ r, G r ∧ d = .bool r ∧ h' = h) (zb0 : b0 = 0 → p0 = []) (ok : OK h (mo b0 Af p0 :: O)) (hF : Am (AS p0 p1) G) : CallsA Tryz.prog 134 [Aq 2 b0 p0, .fn (.func f1) fi1 ca1] (Hp h (mo b0 Af p0 :: O)) fun d h' => ∃ r, G r ∧ d = Aq 2 b0 r ∧ (b0 = 0 → r = []) ∧ OK h (mo b0 Af r :: O) ∧ h' = Hp h (mo b0 Af r :: O) := by
 refine CallsA.ret ?_
 refine CJ Tryz.func134 rfl eh Tryz.ntmps134 rfl ?_
 rw [AS] at hF
 refine Bg ?_
 refine S_a (v := .snil) rfl ?_
 refine Eg 4 (v := .sl 2 (List.map Af ([] : List Ai)) 0) (.nil _) ?_
 refine Ms ?_
 refine LG ?_
 refine Le ?_
 refine cl (okT (fun _ hF => EZ _ (p0 := p0) (f1 := f1) (fi1 := fi1) (ca1 := ca1) (b0 := b0) h (O) hf1 zb0 ok hF) hF fun x1 _ _ _ hq hF => ?_)
 obtain ⟨rfl, ok, rfl⟩ := hq
 refine Ln ?_
 refine LY ?_
 refine Au rfl hF (fun hb2 hF => ?_) fun hb2 hF => ?_
 ·refine SG ?_
  refine Sa ?_
  refine Mn ?_
  refine rr ?_
  exact ⟨_, _, (.refl _), hy ok, _, Ak hF, rfl, zb0, oy ok, rfl⟩
 ·refine Cl ?_
  refine A5 hF (fun (v : (List Ai) × Int) s' => match v with | (a23, a25) => (b0 = 0 → a23 = []) ∧ OK h (mo b0 Af a23 :: O) ∧ WS s' ⟨Al 42 [(0, Aq 2 b0 a23), (5, .int .i64 a25)], Hp h (mo b0 Af a23 :: O)⟩) (fun J26 hF => ?_) ?_
  ·refine FA ?_
   refine I6 ?_
   refine Fx ?_
   refine FB ?_
   refine Cg (σ := (List Ai) × Int × Int) hF (fun (v : (List Ai) × Int × Int) s' => match v with | (a27, a29, a30) => (b0 = 0 → a27 = []) ∧ OK h (mo b0 Af a27 :: O) ∧ WS s' ⟨Al 42 [(0, Aq 2 b0 a27), (1, .fn (.func f1) fi1 ca1), (5, .int .i64 a29), (6, .int .i64 a30)], Hp h (mo b0 Af a27 :: O)⟩) ?_ ?_
   ·exact ⟨zb0, oy ok, wy ok⟩
   ·rintro G31 hG32 rec33 ⟨a27, a29, a30⟩ s' ih34 hF ⟨kz28, ok, hws⟩
    refine AO hws ?_
    clear hws s'
    rw [AD] at hF
    refine I1 ?_
    refine LG ?_
    refine Kg kz28 rfl EP ?_
    refine K9 ?_
    refine Au rfl hF (fun hb35 hF => ?_) fun hb35 hF => ?_
    ·refine Cl ?_
     refine A5 hF (fun (v : (List Ai) × Int) s' => match v with | (a42, a44) => (b0 = 0 → a42 = []) ∧ OK h (mo b0 Af a42 :: O) ∧ WS s' ⟨Al 42 [(0, Aq 2 b0 a42), (1, .fn (.func f1) fi1 ca1), (5, .int .i64 a44), (6, .int .i64 a30)], Hp h (mo b0 Af a42 :: O)⟩) (fun J45 hF => ?_) ?_
     ·refine FB ?_
      refine Ec ?_
      refine CR (mdl [(7, 1)]) ?_
      refine GV ?_
      refine DV kz28 rfl rfl EP DX hF (fun x46 hx46 hF => ?_)
      refine Fw (q := 2) (j := 0) (f0 := 0) ok rfl kz28 rfl rfl (fun _ => rfl) hx46 rfl rfl (A4 (vs := Af x46) IW DX rfl rfl) ?_
      refine DB ok rfl KD ?_
      intro i47 hi47 ok
      refine Cv (j := 0) (cs' := [.str x46.prefix_, .str x46.uri]) ok rfl rfl rfl hi47 rfl DX rfl rfl (fun ok => ?_)
      refine Ms ?_
      refine Le ?_
      refine DT (j := 0) ok rfl rfl rfl hi47 (A4 (vs := Af x46) IW DX rfl rfl) ?_
      refine It rfl (AT (enc := fun r => .bool r) (fun G h hF => hf1 x46 G h hF) _ hF fun x48 _ hF => ?_) (.app (.app (.refl _) (.refl _)) (.refl _))
      refine OC ?_
      refine Au rfl hF (fun hb49 hF => ?_) fun hb49 hF => ?_
      ·refine Bg ?_
       refine GV ?_
       refine DT (j := 0) ok rfl rfl rfl hi47 (A4 (vs := Af x46) IW DX rfl rfl) ?_
       refine DV kz28 rfl rfl EP DX hF (fun x50 hx50 hF => ?_)
       refine KP (q := 2) (j := 1) (f0 := 0) (b := x46) ok kz28 rfl rfl rfl (fun _ => rfl) hx50 rfl rfl DX rfl rfl (fun za51 ok => ?_)
       obtain ⟨a51, ha51, hF⟩ := D9 hF
       rw [← ha51] at ok za51
       rw [← ha51]
       have hms : Aq 2 b0 a27 = Aq 2 b0 a51 := CW (by rw [ha51, List.length_set])
       try rw [hms] at ok
       try rw [hms]
       clear hms
       refine AY ?_
       refine O4 ?_
       exact ⟨(a51, (IntKind.wrap .i64 (a29 + (1 : Int)))), hF, za51, oy ok, wy ok⟩
      ·refine Cl ?_
       exact ⟨(a27, a29), hF, kz28, oy ok, wy ok⟩
     ·rintro ⟨a42, a44⟩ s' hF ⟨kz43, ok, hws⟩
      refine AO hws ?_
      clear hws s'
      refine O4 ?_
      refine ih34 (a42, a44, (IntKind.wrap .i64 (a30 + (1 : Int)))) _ hF ?_
      exact ⟨kz43, oy ok, wy ok⟩
    ·refine DS ?_
     replace hF := hG32 _ (Ak hF)
     exact ⟨(a27, a29), hF, kz28, oy ok, wy ok⟩
  ·rintro ⟨a23, a25⟩ s' hF ⟨kz24, ok, hws⟩
   refine AO hws ?_
   clear hws s'
   refine Bg ?_
   refine GV ?_
   refine fQ kz24 rfl EP DX (EY rfl) JA hF (fun x52 hx52 hF => ?_)
   refine cf (c := Af) (e := a23) (i := a25) 0 ok kz24 rfl (fun _ => rfl) rfl hx52 rfl EP KD rfl hF (fun hF hi53 hl54 ok => ?_)
   refine Ms ?_
   refine GV ?_
   refine fw (e := (List.take (Int.toNat a25) a23)) hi53 (Eq.trans (b := Aq 2 b0 a23) rfl (Fe hi53)) rfl EP DX hl54.1 (Int.le_of_lt hl54.2) (by rw [List.length_take]; have := hl54; omega) ?_
   refine Sa ?_
   refine Mn ?_
   refine rr ?_
   exact ⟨_, _, (.refl _), hy ok, _, Ak hF, rfl, (fun h => absurd h hi53), oy ok, rfl⟩
theorem ED (p0 : Ao) (p1 : List TP) {G : Ao × Int → Prop} (h : Heap) (hF : Am (Cm p0 p1) G) : CallsA Tryz.prog 87 [.agg (A0 p0), .sl 2 (List.map cP p1) 0] h fun d h' => ∃ r, G r ∧ d = .tup [.agg (A0 r.1), .int .i64 r.2] ∧ h' = h := by
 refine CallsA.ret ?_
 refine Be Tryz.func87 rfl fH Tryz.ntmps87 rfl (fun ok => ?_)
 rw [Cm] at hF
 refine Ec ?_
 refine CR (mdl [(4, 1)]) ?_
 refine Dc rfl rfl rfl rfl ?_
 refine DB ok rfl F3 ?_
 intro i1 hi1 ok
 refine Fx ?_
 refine Bg ?_
 refine S_a (v := .snil) rfl ?_
 refine Qv 6 1 ok rfl rfl ?_
 intro r2 hr2 ok
 refine Ms ?_
 refine Br rfl Ou LT rfl ?_
 refine AX rfl (Bf SX LT rfl) ?_
 refine I3 (ZQ h [(r2, .room), (i1, .cells [.snil])] ok hF fun x3 u4 zu4 ok hF => ?_) (.k .nil)
 refine Sa ?_
 refine A5 hF (fun (v : (List Ai) × (List Ai)) s' => match v with | (a52, a54) => ∃ g53 : Nat, (g53 = 0 → a54 = []) ∧ OK h [mo g53 Af a54, (i1, .cells [.sl 2 (List.map Af a52) 0])] ∧ WS s' ⟨Al 65 [(4, .ptr i1 0), (7, Aq 2 g53 a54)], Hp h [mo g53 Af a54, (i1, .cells [.sl 2 (List.map Af a52) 0])]⟩) (fun J55 hF => ?_) ?_
 ·refine ET ?_
  refine HU rfl IR ?_
  refine Ia ?_
  refine Cg (σ := (List Ai) × (List (List UInt8)) × (List Ai) × Int) hF (fun (v : (List Ai) × (List (List UInt8)) × (List Ai) × Int) s' => match v with | (a56, a57, a60, a61) => ∃ g58 g59 : Nat, g58 ≠ 0 ∧ (g59 = 0 → a60 = []) ∧ OK h [mo g59 Af a60, (g58, .room), (i1, .cells [.sl 2 (List.map Af a56) 0])] ∧ WS s' ⟨Al 65 [(4, .ptr i1 0), (6, .sl 1 (List.map JC a57) g58), (7, Aq 2 g59 a60), (16, .sl 2 (List.map cP p1) 0), (17, .int .i64 (p1.length : Int)), (18, .int .i64 a61)], Hp h [mo g59 Af a60, (g58, .room), (i1, .cells [.sl 2 (List.map Af a56) 0])]⟩) ?_ ?_
  ·have hwo : WO [mo u4 Af x3, (r2, .room), (i1, .cells [.snil])] [mo u4 Af x3, (r2, .room), (i1, .cells [.sl 2 (List.map Af ([] : List Ai)) 0])] := (.keep (.keep (.weak (.cons (.nil _) (.nil)) .nil)))
   exact ⟨r2, u4, hr2, zu4, (hwo.spec ok).1, WS.mk' (.k (.k (.k (.k (.k (.k .nil)))))) ok hwo⟩
  ·rintro G62 hG63 rec64 ⟨a56, a57, a60, a61⟩ s' ih65 hF ⟨g58, g59, hg58, zg59, ok, hws⟩
   refine AO hws ?_
   clear hws s'
   rw [CH] at hF
   refine Ih ?_
   refine Au rfl hF (fun hb66 hF => ?_) fun hb66 hF => ?_
   ·refine Cl ?_
    refine A5 hF (fun (v : (List (List UInt8)) × (List Ai)) s' => match v with | (a85, a88) => ∃ g86 g87 : Nat, g86 ≠ 0 ∧ (g87 = 0 → a88 = []) ∧ OK h [mo g87 Af a88, (g86, .room), (i1, .cells [.sl 2 (List.map Af a56) 0])] ∧ WS s' ⟨Al 65 [(4, .ptr i1 0), (6, .sl 1 (List.map JC a85) g86), (7, Aq 2 g87 a88), (16, .sl 2 (List.map cP p1) 0), (17, .int .i64 (p1.length : Int)), (18, .int .i64 a61)], Hp h [mo g87 Af a88, (g86, .room), (i1, .cells [.sl 2 (List.map Af a56) 0])]⟩) (fun J89 hF => ?_) ?_
    ·refine FB ?_
     refine Ec ?_
     refine CR (mdl [(9, 1)]) ?_
     refine Gh rfl rfl IR EC hF (fun x90 _ hF => ?_)
     refine AX rfl (A4 (vs := cP x90) HM EC rfl rfl) ?_
     refine DB ok rfl IN ?_
     intro i91 hi91 ok
     refine Cv (j := 0) (cs' := [.str x90.Name, .str x90.Value]) ok rfl rfl rfl hi91 rfl EC rfl rfl (fun ok => ?_)
     refine Ht ?_
     refine CR (mdl [(10, 1)]) ?_
     refine DT (j := 0) ok rfl rfl rfl hi91 (A4 (vs := cP x90) HM EC rfl rfl) ?_
     refine cl (AT (fun _ h hF => H3 _ h hF) _ hF fun x92 _ hF => ?_)
     refine I7 ?_
     refine DB ok rfl aB ?_
     intro i93 hi93 ok
     refine Cv (j := 0) (cs' := [.str x92.1]) ok rfl rfl rfl hi93 rfl As rfl rfl (fun ok => ?_)
     refine CS ?_
     refine Nc ?_
     refine CM ?_
     refine OC ?_
     refine Au rfl hF (fun hb94 hF => ?_) fun hb94 hF => ?_
     ·refine DS ?_
      exact ⟨(a57, a60), hF, g58, g59, hg58, zg59, oy ok, wy ok⟩
     ·refine HE ?_
      refine Bg ?_
      refine Sr ?_
      refine YR ?_
      refine dS ?_
      refine cl (AT (fun _ h hF => Ng _ _ h hF) _ hF fun x95 _ hF => ?_)
      refine Se ?_
      refine Au rfl hF (fun hb96 hF => ?_) fun hb96 hF => ?_
      ·refine Bg ?_
       refine CN (v := .agg [.snil]) (Ej F3 LU rfl) ?_
       refine Eg 35 (v := .agg (A0 (⟨([] : List Ai)⟩ : Ao))) (.aggC (.cons (.nil _) (.nil))) ?_
       refine Es ?_
       refine Cv (j := 4) (cs' := [.sl 2 (List.map Af (⟨([] : List Ai)⟩ : Ao).binds) 0]) ok rfl rfl rfl hi1 rfl CX rfl rfl (fun ok => ?_)
       refine Fp ?_
       replace hF := hG63 _ (Ak hF)
       refine xr ?_
       refine F6 (fn := Tryz.f87) rfl (.cell rfl (GO (j := 4) ok rfl hi1 (A4 (vs := [.sl 2 (List.map Af (⟨([] : List Ai)⟩ : Ao).binds) 0]) Fb CX rfl rfl)) (.tmp (v := .int .i64 x95) rfl .nil)) ?_
       exact ⟨_, _, (.tupC (.cons (.aggC (.refl _)) (.refl _))), ok.wh, _, Ak hF, rfl, rfl⟩
      ·refine HE ?_
       refine ET ?_
       refine Eg 37 (v := .sl 1 (List.map JC a57) 0) (.zero _ _ _) ?_
       refine Sr ?_
       refine cl (AT (fun _ h hF => Gw _ _ h hF) _ hF fun x97 _ hF => ?_)
       refine AY ?_
       refine Au rfl hF (fun hb98 hF => ?_) fun hb98 hF => ?_
       ·refine Bg ?_
        refine CN (v := .agg [.snil]) (Ej F3 LU rfl) ?_
        refine Eg 40 (v := .agg (A0 (⟨([] : List Ai)⟩ : Ao))) (.aggC (.cons (.nil _) (.nil))) ?_
        refine Cv (j := 4) (cs' := [.sl 2 (List.map Af (⟨([] : List Ai)⟩ : Ao).binds) 0]) ok rfl rfl rfl hi1 rfl CX rfl rfl (fun ok => ?_)
        refine Fp ?_
        replace hF := hG63 _ (Ak hF)
        refine xr ?_
        refine F6 (fn := Tryz.f87) rfl (.cell rfl (GO (j := 4) ok rfl hi1 (A4 (vs := [.sl 2 (List.map Af (⟨([] : List Ai)⟩ : Ao).binds) 0]) Fb CX rfl rfl)) (.tmp (v := .int .i64 (27 : Int)) rfl .nil)) ?_
        exact ⟨_, _, (.tupC (.cons (.aggC (.refl _)) (.refl _))), ok.wh, _, Ak hF, rfl, rfl⟩
       ·refine HE ?_
        refine CR (mdl [(44, 2)]) ?_
        refine Jp ?_
        refine Sr ?_
        refine Fq (cs := [.str x92.1]) (es := (List.map JC [x92.1])) rfl Oo rfl (by kernel_rfl) (by kernel_rfl) ?_
        refine bH (j := 3) ok rfl rfl rfl rfl hg58 Oo Yt hF ?_
        intro r99 hr99 ok hF
        refine NK ?_
        refine Bg ?_
        refine Uc 0 10 ok rfl rfl hi93 (fun ok => ?_)
        refine LG ?_
        refine Y4 (ca := [.iptr (JC x92.1)]) rfl ?_
        obtain ⟨hpe, ok⟩ := Bh 2 ok rfl
        rw [hpe]; clear hpe
        refine cl (okT (fun _ hF => EU _ (p0 := a60) (f1 := 135) (fi1 := []) (ca1 := [.iptr (JC x92.1)]) (b0 := g59) h [(0, .room), (i91, .cells [.str x90.Name, .str x90.Value]), (r99, .room), (i1, .cells [.sl 2 (List.map Af a56) 0])] (fun z0 G h hF => Jj z0 x92.1 h hF) zg59 ok hF) hF fun x102 _ _ _ hq hF => ?_)
        obtain ⟨rfl, zr103, ok, rfl⟩ := hq
        refine X3 ?_
        refine Ms ?_
        refine F7 ?_
        refine RA ?_
        refine CM ?_
        refine Cp (b := (!(x92.1 == ([120, 109, 108] : List UInt8)))) 4 54 (.bool ((!(x92.1 == ([120, 109, 108] : List UInt8))) && (!(x90.Value == ([] : List UInt8))))) (fun hb104 => ?_) (fun hb104 => ?_) ?_
        ·refine D3 ?_
         refine YR ?_
         refine AF ?_
         refine b9 ?_
         refine Uu ?_
         refine Hv ?_
         exact th
        ·refine KK ?_
         exact th
        refine AY ?_
        refine Au rfl hF (fun hb105 hF => ?_) fun hb105 hF => ?_
        ·refine CR (mdl [(61, 1)]) ?_
         refine LG ?_
         refine F7 ?_
         refine YR ?_
         refine b9 ?_
         refine CN (v := .agg (Af (⟨x92.1, x90.Value⟩ : Ai))) (Ej KD Xv rfl) ?_
         refine Fq (cs := [.str (⟨x92.1, x90.Value⟩ : Ai).prefix_, .str (⟨x92.1, x90.Value⟩ : Ai).uri]) (es := (List.map Af [(⟨x92.1, x90.Value⟩ : Ai)])) rfl I0 rfl (by kernel_rfl) (by kernel_rfl) ?_
         refine I4 (j := 0) (M := [(⟨x92.1, x90.Value⟩ : Ai)]) ok zr103 rfl rfl JS (fun _ => rfl) rfl I0 NZ hF ?_
         intro u106 zu106 ok hF
         obtain ⟨a107, ha107, hF⟩ := D9 hF
         rw [← ha107] at ok zu106
         rw [← ha107]
         refine Sa ?_
         exact ⟨((a57 ++ [x92.1]), a107), hF, r99, u106, hr99, zu106, oy ok, wy ok⟩
        ·refine Cl ?_
         exact ⟨((a57 ++ [x92.1]), x102), hF, r99, g59, hr99, zr103, oy ok, wy ok⟩
    ·rintro ⟨a85, a88⟩ s' hF ⟨g86, g87, hg86, zg87, ok, hws⟩
     refine AO hws ?_
     clear hws s'
     refine R5 ?_
     refine ih65 (a56, a85, a88, (IntKind.wrap .i64 (a61 + (1 : Int)))) _ hF ?_
     exact ⟨g86, g87, hg86, zg87, oy ok, wy ok⟩
   ·refine DS ?_
    replace hF := hG63 _ (Ak hF)
    exact ⟨(a56, a60), hF, g59, zg59, oy ok, wy ok⟩
 ·rintro ⟨a52, a54⟩ s' hF ⟨g53, zg53, ok, hws⟩
  refine AO hws ?_
  clear hws s'
  refine SG ?_
  refine QS 0 63 ok zg53 rfl rfl (fun _ => rfl) (fun ok => ?_)
  refine CN (v := .agg (A0 (⟨a54⟩ : Ao))) (Ej F3 LU rfl) ?_
  refine Cv (j := 1) (cs' := [.sl 2 (List.map Af (⟨a54⟩ : Ao).binds) 0]) ok rfl rfl rfl hi1 rfl CX rfl rfl (fun ok => ?_)
  refine Fp ?_
  refine xr ?_
  refine F6 (fn := Tryz.f87) rfl (.cell rfl (GO (j := 1) ok rfl hi1 (A4 (vs := [.sl 2 (List.map Af (⟨a54⟩ : Ao).binds) 0]) Fb CX rfl rfl)) (.tmp (v := .int .i64 (0 : Int)) rfl .nil)) ?_
  exact ⟨_, _, (.tupC (.cons (.aggC (.refl _)) (.refl _))), ok.wh, _, Ak hF, rfl, rfl⟩
theorem JM (p0 : Ao) (p1 : List UInt8) {G : (List UInt8) × Bool → Prop} (h : Heap) (hF : Am (CY p0 p1) G) : CallsA Tryz.prog 137 [.agg (A0 p0), .str p1] h fun d h' => ∃ r, G r ∧ d = .tup [.str r.1, .bool r.2] ∧ h' = h := by
 refine CallsA.ret ?_
 refine Be Tryz.func137 rfl cW Tryz.ntmps137 rfl (fun ok => ?_)
 rw [CY] at hF
 refine Bg ?_
 refine Dc rfl rfl rfl rfl ?_
 refine S_a (v := .str ([] : List UInt8)) rfl ?_
 refine CS ?_
 refine Ec ?_
 refine Sl ?_
 refine AY ?_
 refine Au rfl hF (fun hb1 hF => ?_) fun hb1 hF => ?_
 ·refine Bg ?_
  refine S_a (v := .str ([104, 116, 116, 112, 58, 47, 47, 119, 119, 119, 46, 119, 51, 46, 111, 114, 103, 47, 88, 77, 76, 47, 49, 57, 57, 56, 47, 110, 97, 109, 101, 115, 112, 97, 99, 101] : List UInt8)) rfl ?_
  refine Ep ?_
  exact rt
 ·refine Cl ?_
  refine A5 hF (fun (_ : Unit) s' => OK h [] ∧ WS s' ⟨Al 26 [(1, .str p1)], Hp h []⟩) (fun J7 hF => ?_) ?_
  ·refine Bg ?_
   refine Br rfl Ou LT rfl ?_
   refine AX rfl (Bf SX LT rfl) ?_
   refine HU rfl EP ?_
   refine Ia ?_
   refine Cg (σ := Int) hF (fun (a8 : Int) s' => OK h [] ∧ WS s' ⟨Al 26 [(1, .str p1), (11, .sl 2 (List.map Af p0.binds) 0), (12, .int .i64 (p0.binds.length : Int)), (13, .int .i64 a8)], Hp h []⟩) ?_ ?_
   ·exact ⟨oy ok, wy ok⟩
   ·rintro G9 hG10 rec11 a8 s' ih12 hF ⟨ok, hws⟩
    refine AO hws ?_
    clear hws s'
    rw [Cw] at hF
    refine Ih ?_
    refine Au rfl hF (fun hb13 hF => ?_) fun hb13 hF => ?_
    ·refine TG ?_
     refine CR (mdl [(7, 1)]) ?_
     refine Gh rfl rfl EP DX hF (fun x14 _ hF => ?_)
     refine AX rfl (A4 (vs := Af x14) IW DX rfl rfl) ?_
     refine DB ok rfl KD ?_
     intro i15 hi15 ok
     refine Cv (j := 0) (cs' := [.str x14.prefix_, .str x14.uri]) ok rfl rfl rfl hi15 rfl DX rfl rfl (fun ok => ?_)
     refine Ms ?_
     refine DF rfl MV As ?_
     refine Sr ?_
     refine JK ?_
     refine LK ?_
     refine AY ?_
     refine Au rfl hF (fun hb16 hF => ?_) fun hb16 hF => ?_
     ·refine Bg ?_
      refine DF rfl Sj As ?_
      refine Sr ?_
      refine UP ?_
      replace hF := hG10 _ (Ak hF)
      exact rt
     ·refine KZ ?_
      refine ih12 (IntKind.wrap .i64 (a8 + (1 : Int))) _ hF ?_
      exact ⟨oy ok, wy ok⟩
    ·refine DS ?_
     replace hF := hG10 _ (Ak hF)
     exact ⟨(), hF, oy ok, wy ok⟩
  ·rintro ⟨⟩ s' hF ⟨ok, hws⟩
   refine AO hws ?_
   clear hws s'
   refine Sl ?_
   refine S_a (v := .str ([] : List UInt8)) rfl ?_
   refine Ep ?_
   exact rt
theorem Gn (p0 : Ao) (p1 : List UInt8) {G : Ah × Int → Prop} (h : Heap) (hF : Am (BY p0 p1) G) : CallsA Tryz.prog 88 [.agg (A0 p0), .str p1] h fun d h' => ∃ r, G r ∧ d = .tup [.agg (AP r.1), .int .i64 r.2] ∧ h' = h := by
 refine CallsA.ret ?_
 refine Be Tryz.func88 rfl fE Tryz.ntmps88 rfl (fun ok => ?_)
 rw [BY] at hF
 refine Ec ?_
 refine CR (mdl [(4, 1)]) ?_
 refine Dc rfl rfl rfl rfl ?_
 refine DB ok rfl E9 ?_
 intro i1 hi1 ok
 refine Fx ?_
 refine Fz ?_
 refine cl (AT (fun _ h hF => GM _ h hF) _ hF fun x2 _ hF => ?_)
 refine Xj ?_
 refine IM ?_
 refine CS ?_
 refine Ec ?_
 refine NU ?_
 refine CM ?_
 refine Nb ?_
 refine CS ?_
 refine Au rfl hF (fun hb3 hF => ?_) fun hb3 hF => ?_
 ·refine Bg ?_
  refine CN (v := .agg (AP (⟨([] : List UInt8), ([] : List UInt8)⟩ : Ah))) (Ej E9 GH rfl) ?_
  refine Cv (j := 0) (cs' := [.str (⟨([] : List UInt8), ([] : List UInt8)⟩ : Ah).URI, .str (⟨([] : List UInt8), ([] : List UInt8)⟩ : Ah).Local]) ok rfl rfl rfl hi1 rfl Bz rfl rfl (fun ok => ?_)
  refine Fp ?_
  refine xr ?_
  refine F6 (fn := Tryz.f88) rfl (.cell rfl (GO (j := 0) ok rfl hi1 (A4 (vs := [.str (⟨([] : List UInt8), ([] : List UInt8)⟩ : Ah).URI, .str (⟨([] : List UInt8), ([] : List UInt8)⟩ : Ah).Local]) Du Bz rfl rfl)) (.tmp (v := .int .i64 (24 : Int)) rfl .nil)) ?_
  exact ⟨_, _, (.tupC (.cons (.aggC (.refl _)) (.refl _))), ok.wh, _, Ak hF, rfl, rfl⟩
 ·refine Fz ?_
  refine Nf ?_
  refine Au rfl hF (fun hb4 hF => ?_) fun hb4 hF => ?_
  ·refine Bg ?_
   refine CN (v := .agg (AP (⟨([] : List UInt8), ([] : List UInt8)⟩ : Ah))) (Ej E9 GH rfl) ?_
   refine Cv (j := 0) (cs' := [.str (⟨([] : List UInt8), ([] : List UInt8)⟩ : Ah).URI, .str (⟨([] : List UInt8), ([] : List UInt8)⟩ : Ah).Local]) ok rfl rfl rfl hi1 rfl Bz rfl rfl (fun ok => ?_)
   refine Fp ?_
   refine xr ?_
   refine F6 (fn := Tryz.f88) rfl (.cell rfl (GO (j := 0) ok rfl hi1 (A4 (vs := [.str (⟨([] : List UInt8), ([] : List UInt8)⟩ : Ah).URI, .str (⟨([] : List UInt8), ([] : List UInt8)⟩ : Ah).Local]) Du Bz rfl rfl)) (.tmp (v := .int .i64 (29 : Int)) rfl .nil)) ?_
   exact ⟨_, _, (.tupC (.cons (.aggC (.refl _)) (.refl _))), ok.wh, _, Ak hF, rfl, rfl⟩
  ·refine Cl ?_
   refine Bg ?_
   refine AX rfl (A4 (vs := A0 p0) Fb CX rfl rfl) ?_
   refine JK ?_
   refine cl (AT (fun _ h hF => JM _ _ h hF) _ hF fun x5 _ hF => ?_)
   refine Sg ?_
   refine CS ?_
   refine Nc ?_
   refine CM ?_
   refine OC ?_
   refine Au rfl hF (fun hb6 hF => ?_) fun hb6 hF => ?_
   ·refine Bg ?_
    refine CN (v := .agg (AP (⟨([] : List UInt8), ([] : List UInt8)⟩ : Ah))) (Ej E9 GH rfl) ?_
    refine Cv (j := 0) (cs' := [.str (⟨([] : List UInt8), ([] : List UInt8)⟩ : Ah).URI, .str (⟨([] : List UInt8), ([] : List UInt8)⟩ : Ah).Local]) ok rfl rfl rfl hi1 rfl Bz rfl rfl (fun ok => ?_)
    refine Fp ?_
    refine xr ?_
    refine F6 (fn := Tryz.f88) rfl (.cell rfl (GO (j := 0) ok rfl hi1 (A4 (vs := [.str (⟨([] : List UInt8), ([] : List UInt8)⟩ : Ah).URI, .str (⟨([] : List UInt8), ([] : List UInt8)⟩ : Ah).Local]) Du Bz rfl rfl)) (.tmp (v := .int .i64 (28 : Int)) rfl .nil)) ?_
    exact ⟨_, _, (.tupC (.cons (.aggC (.refl _)) (.refl _))), ok.wh, _, Ak hF, rfl, rfl⟩
   ·refine Cl ?_
    refine Q1 ?_
    refine CN (v := .agg (AP (⟨x5.1, x2.2.1⟩ : Ah))) (Ej E9 GH rfl) ?_
    refine Cv (j := 0) (cs' := [.str (⟨x5.1, x2.2.1⟩ : Ah).URI, .str (⟨x5.1, x2.2.1⟩ : Ah).Local]) ok rfl rfl rfl hi1 rfl Bz rfl rfl (fun ok => ?_)
    refine Fp ?_
    refine xr ?_
    refine F6 (fn := Tryz.f88) rfl (.cell rfl (GO (j := 0) ok rfl hi1 (A4 (vs := [.str (⟨x5.1, x2.2.1⟩ : Ah).URI, .str (⟨x5.1, x2.2.1⟩ : Ah).Local]) Du Bz rfl rfl)) (.tmp (v := .int .i64 (0 : Int)) rfl .nil)) ?_
    exact ⟨_, _, (.tupC (.cons (.aggC (.refl _)) (.refl _))), ok.wh, _, Ak hF, rfl, rfl⟩
theorem DE (p0 : List Aa) (p1 : Int) (p2 : Int) (p3 : Aa → Aa → Option Int) (f3 : FuncId) (fi3 : List D) (ca3 : List D) (b0 : Nat) {G : (List Aa) → Prop} (h : Heap) (O : List (Nat × AObj)) (hf3 : ∀ (x0 : Aa) (x1 : Aa) (G : Int → Prop) (h : Heap), Am (p3 x0 x1) G → CallsA Tryz.prog f3 (fi3 ++ [.agg (Ac x0), .agg (Ac x1)] ++ ca3) h fun d h' => ∃ r, G r ∧ d = .int .i64 r ∧ h' = h) (zb0 : b0 = 0 → p0 = []) (ok : OK h (mo b0 Ac p0 :: O)) (hF : Am (Bm p0 p1 p2 p3) G) : CallsA Tryz.prog 187 [Aq 3 b0 p0, .int .i64 p1, .int .i64 p2, .fn (.func f3) fi3 ca3] (Hp h (mo b0 Ac p0 :: O)) fun d h' => ∃ r, G r ∧ d = .tup [] ∧ (b0 = 0 → r = []) ∧ OK h (mo b0 Ac r :: O) ∧ h' = Hp h (mo b0 Ac r :: O) := by
 refine CallsA.ret ?_
 refine CJ Tryz.func187 rfl dj Tryz.ntmps187 rfl ?_
 rw [Bm] at hF
 refine FA ?_
 refine I6 ?_
 refine Fx ?_
 refine FB ?_
 refine Cg (σ := (List Aa) × Int) hF (fun (v : (List Aa) × Int) s' => match v with | (a1, a3) => (b0 = 0 → a1 = []) ∧ OK h (mo b0 Ac a1 :: O) ∧ WS s' ⟨Al 53 [(0, Aq 3 b0 a1), (1, .int .i64 p1), (2, .int .i64 p2), (3, .fn (.func f3) fi3 ca3), (8, .int .i64 a3)], Hp h (mo b0 Ac a1 :: O)⟩) ?_ ?_
 ·exact ⟨zb0, oy ok, wy ok⟩
 ·rintro G4 hG5 rec6 ⟨a1, a3⟩ s' ih7 hF ⟨kz2, ok, hws⟩
  refine AO hws ?_
  clear hws s'
  rw [AM] at hF
  refine Tp ?_
  refine Au rfl hF (fun hb8 hF => ?_) fun hb8 hF => ?_
  ·refine Cl ?_
   refine A5 hF (fun (a30 : (List Aa)) s' => (b0 = 0 → a30 = []) ∧ OK h (mo b0 Ac a30 :: O) ∧ WS s' ⟨Al 53 [(0, Aq 3 b0 a30), (1, .int .i64 p1), (2, .int .i64 p2), (3, .fn (.func f3) fi3 ca3), (8, .int .i64 a3)], Hp h (mo b0 Ac a30 :: O)⟩) (fun J32 hF => ?_) ?_
   ·refine FB ?_
    refine NQ ?_
    refine FB ?_
    refine Cg (σ := (List Aa) × Int) hF (fun (v : (List Aa) × Int) s' => match v with | (a33, a35) => (b0 = 0 → a33 = []) ∧ OK h (mo b0 Ac a33 :: O) ∧ WS s' ⟨Al 53 [(0, Aq 3 b0 a33), (1, .int .i64 p1), (2, .int .i64 p2), (3, .fn (.func f3) fi3 ca3), (8, .int .i64 a3), (9, .int .i64 a35)], Hp h (mo b0 Ac a33 :: O)⟩) ?_ ?_
    ·exact ⟨kz2, oy ok, wy ok⟩
    ·rintro G36 hG37 rec38 ⟨a33, a35⟩ s' ih39 hF ⟨kz34, ok, hws⟩
     refine AO hws ?_
     clear hws s'
     rw [AB] at hF
     refine Ec ?_
     refine A5 hF (fun (a45 : Bool) s' => OK h (mo b0 Ac a33 :: O) ∧ WS s' ⟨Al 53 [(0, Aq 3 b0 a33), (1, .int .i64 p1), (2, .int .i64 p2), (3, .fn (.func f3) fi3 ca3), (8, .int .i64 a3), (9, .int .i64 a35), (34, .bool a45)], Hp h (mo b0 Ac a33 :: O)⟩) (fun J46 hF => ?_) ?_
     ·refine EW (mdl []) (by kernel_rfl) (by kernel_rfl) ?_
      refine Es ?_
      refine Es ?_
      refine UA ?_
      refine Wi (b := (decide (p1 < a35))) hF (fun hb47 hF => ?_) (fun hb48 hF => ?_)
      ·refine D3 ?_
       refine Le ?_
       refine AF ?_
       refine LG ?_
       refine Ps ?_
       refine DV kz34 rfl rfl BK Ax hF (fun x49 hx49 hF => ?_)
       refine AF ?_
       refine Fw (q := 3) (j := 0) (f0 := 0) ok rfl kz34 rfl rfl (fun _ => rfl) hx49 rfl rfl (A4 (vs := Ac x49) CO Ax rfl rfl) ?_
       refine AF ?_
       refine LG ?_
       refine Ps ?_
       refine Wl ?_
       refine DV kz34 rfl rfl BK Ax hF (fun x50 hx50 hF => ?_)
       refine AF ?_
       refine Fw (q := 3) (j := 0) (f0 := 0) ok rfl kz34 rfl rfl (fun _ => rfl) hx50 rfl rfl (A4 (vs := Ac x50) CO Ax rfl rfl) ?_
       refine AF ?_
       refine It rfl (AT (enc := fun r => .int .i64 r) (fun G h hF => hf3 x49 x50 G h hF) _ hF fun x51 _ hF => ?_) (.app (.app (.refl _) (.refl _)) (.refl _))
       refine AF ?_
       refine V8 ?_
       exact ⟨(decide (x51 < (0 : Int))), hF, oy ok, wy ok⟩
      ·refine GU ?_
       refine GU ?_
       refine TE ?_
       exact ⟨false, hF, oy ok, wy ok⟩
     ·rintro a45 s' hF ⟨ok, hws⟩
      refine AO hws ?_
      clear hws s'
      refine Au rfl hF (fun hb52 hF => ?_) fun hb52 hF => ?_
      ·refine Sn ?_
       refine EW (mdl []) (by kernel_rfl) (by kernel_rfl) ?_
       refine GV ?_
       refine GV ?_
       refine Ix ?_
       refine GV ?_
       refine Ix ?_
       refine DV kz34 rfl rfl BK Ax hF (fun x53 hx53 hF => ?_)
       refine Fw (q := 3) (j := 0) (f0 := 0) ok rfl kz34 rfl rfl (fun _ => rfl) hx53 rfl rfl (A4 (vs := Ac x53) CO Ax rfl rfl) ?_
       refine GV ?_
       refine DV kz34 rfl rfl BK Ax hF (fun x54 hx54 hF => ?_)
       refine Fw (q := 3) (j := 0) (f0 := 0) ok rfl kz34 rfl rfl (fun _ => rfl) hx54 rfl rfl (A4 (vs := Ac x54) CO Ax rfl rfl) ?_
       refine DV kz34 rfl rfl BK Ax hF (fun x55 hx55 hF => ?_)
       refine KP (q := 3) (j := 0) (f0 := 0) (b := x53) ok kz34 rfl rfl rfl (fun _ => rfl) hx55 rfl rfl Ax rfl rfl (fun za56 ok => ?_)
       obtain ⟨a56, ha56, hF⟩ := D9 hF
       rw [← ha56] at ok za56
       rw [← ha56]
       have hms : Aq 3 b0 a33 = Aq 3 b0 a56 := CW (by rw [ha56, List.length_set])
       try rw [hms] at ok
       try rw [hms]
       clear hms
       refine DV za56 rfl rfl BK Ax hF (fun x57 hx57 hF => ?_)
       refine KP (q := 3) (j := 0) (f0 := 0) (b := x54) ok za56 rfl rfl rfl (fun _ => rfl) hx57 rfl rfl Ax rfl rfl (fun za58 ok => ?_)
       obtain ⟨a58, ha58, hF⟩ := D9 hF
       rw [← ha58] at ok za58
       rw [← ha58]
       have hms : Aq 3 b0 a56 = Aq 3 b0 a58 := CW (by rw [ha58, List.length_set])
       try rw [hms] at ok
       try rw [hms]
       clear hms
       refine AY ?_
       refine RH ?_
       refine QB ?_
       refine ih39 (a58, (IntKind.wrap .i64 (a35 - (1 : Int)))) _ hF ?_
       exact ⟨za58, oy ok, wy ok⟩
      ·refine DS ?_
       replace hF := hG37 _ (Ak hF)
       exact ⟨a33, hF, kz34, oy ok, wy ok⟩
   ·rintro a30 s' hF ⟨kz31, ok, hws⟩
    refine AO hws ?_
    clear hws s'
    refine O4 ?_
    refine ih7 (a30, (IntKind.wrap .i64 (a3 + (1 : Int)))) _ hF ?_
    exact ⟨kz31, oy ok, wy ok⟩
  ·refine DS ?_
   replace hF := hG5 _ (Ak hF)
   refine xr ?_
   refine Jf (fn := Tryz.f187) rfl .nil ?_
   exact ⟨_, _, (.refl _), hy ok, _, Ak hF, rfl, kz2, oy ok, rfl⟩
theorem C2 (p0 : List Aa) (p1 : Int) (p2 : Int) (p3 : Int) (p4 : Aa → Aa → Option Int) (f4 : FuncId) (fi4 : List D) (ca4 : List D) (b0 : Nat) {G : (List Aa) → Prop} (h : Heap) (O : List (Nat × AObj)) (hf4 : ∀ (x0 : Aa) (x1 : Aa) (G : Int → Prop) (h : Heap), Am (p4 x0 x1) G → CallsA Tryz.prog f4 (fi4 ++ [.agg (Ac x0), .agg (Ac x1)] ++ ca4) h fun d h' => ∃ r, G r ∧ d = .int .i64 r ∧ h' = h) (zb0 : b0 = 0 → p0 = []) (ok : OK h (mo b0 Ac p0 :: O)) (hF : Am (Bj p0 p1 p2 p3 p4) G) : CallsA Tryz.prog 195 [Aq 3 b0 p0, .int .i64 p1, .int .i64 p2, .int .i64 p3, .fn (.func f4) fi4 ca4] (Hp h (mo b0 Ac p0 :: O)) fun d h' => ∃ r, G r ∧ d = .tup [] ∧ (b0 = 0 → r = []) ∧ OK h (mo b0 Ac r :: O) ∧ h' = Hp h (mo b0 Ac r :: O) := by
 refine CallsA.ret ?_
 refine CJ Tryz.func195 rfl du Tryz.ntmps195 rfl ?_
 rw [Bj] at hF
 refine HI ?_
 refine FB ?_
 refine Cg (σ := (List Aa) × Int) hF (fun (v : (List Aa) × Int) s' => match v with | (a1, a3) => (b0 = 0 → a1 = []) ∧ OK h (mo b0 Ac a1 :: O) ∧ WS s' ⟨Al 38 [(0, Aq 3 b0 a1), (1, .int .i64 p1), (2, .int .i64 p2), (3, .int .i64 p3), (10, .int .i64 a3)], Hp h (mo b0 Ac a1 :: O)⟩) ?_ ?_
 ·exact ⟨zb0, oy ok, wy ok⟩
 ·rintro G4 hG5 rec6 ⟨a1, a3⟩ s' ih7 hF ⟨kz2, ok, hws⟩
  refine AO hws ?_
  clear hws s'
  rw [Bq] at hF
  refine Tp ?_
  refine Au rfl hF (fun hb8 hF => ?_) fun hb8 hF => ?_
  ·refine Sn ?_
   refine EW (mdl []) (by kernel_rfl) (by kernel_rfl) ?_
   refine GV ?_
   refine Jn ?_
   refine GV ?_
   refine Jn ?_
   refine GV ?_
   refine Jn ?_
   refine DV kz2 rfl rfl BK Ax hF (fun x9 hx9 hF => ?_)
   refine Fw (q := 3) (j := 0) (f0 := 0) ok rfl kz2 rfl rfl (fun _ => rfl) hx9 rfl rfl (A4 (vs := Ac x9) CO Ax rfl rfl) ?_
   refine GV ?_
   refine Jn ?_
   refine DV kz2 rfl rfl BK Ax hF (fun x10 hx10 hF => ?_)
   refine Fw (q := 3) (j := 0) (f0 := 0) ok rfl kz2 rfl rfl (fun _ => rfl) hx10 rfl rfl (A4 (vs := Ac x10) CO Ax rfl rfl) ?_
   refine DV kz2 rfl rfl BK Ax hF (fun x11 hx11 hF => ?_)
   refine KP (q := 3) (j := 0) (f0 := 0) (b := x9) ok kz2 rfl rfl rfl (fun _ => rfl) hx11 rfl rfl Ax rfl rfl (fun za12 ok => ?_)
   obtain ⟨a12, ha12, hF⟩ := D9 hF
   rw [← ha12] at ok za12
   rw [← ha12]
   have hms : Aq 3 b0 a1 = Aq 3 b0 a12 := CW (by rw [ha12, List.length_set])
   try rw [hms] at ok
   try rw [hms]
   clear hms
   refine DV za12 rfl rfl BK Ax hF (fun x13 hx13 hF => ?_)
   refine KP (q := 3) (j := 0) (f0 := 0) (b := x10) ok za12 rfl rfl rfl (fun _ => rfl) hx13 rfl rfl Ax rfl rfl (fun za14 ok => ?_)
   obtain ⟨a14, ha14, hF⟩ := D9 hF
   rw [← ha14] at ok za14
   rw [← ha14]
   have hms : Aq 3 b0 a12 = Aq 3 b0 a14 := CW (by rw [ha14, List.length_set])
   try rw [hms] at ok
   try rw [hms]
   clear hms
   refine AY ?_
   refine O4 ?_
   refine ih7 (a14, (IntKind.wrap .i64 (a3 + (1 : Int)))) _ hF ?_
   exact ⟨za14, oy ok, wy ok⟩
  ·refine DS ?_
   replace hF := hG5 _ (Ak hF)
   refine xr ?_
   refine Jf (fn := Tryz.f195) rfl .nil ?_
   exact ⟨_, _, (.refl _), hy ok, _, Ak hF, rfl, kz2, oy ok, rfl⟩
theorem Gx (p0 : List Aa) (p1 : Int) (p2 : Int) (p3 : Int) (p4 : Aa → Aa → Option Int) (f4 : FuncId) (fi4 : List D) (ca4 : List D) (b0 : Nat) {G : (List Aa) → Prop} (h : Heap) (O : List (Nat × AObj)) (hf4 : ∀ (x0 : Aa) (x1 : Aa) (G : Int → Prop) (h : Heap), Am (p4 x0 x1) G → CallsA Tryz.prog f4 (fi4 ++ [.agg (Ac x0), .agg (Ac x1)] ++ ca4) h fun d h' => ∃ r, G r ∧ d = .int .i64 r ∧ h' = h) (zb0 : b0 = 0 → p0 = []) (ok : OK h (mo b0 Ac p0 :: O)) (hF : Am (BS p0 p1 p2 p3 p4) G) : CallsA Tryz.prog 193 [Aq 3 b0 p0, .int .i64 p1, .int .i64 p2, .int .i64 p3, .fn (.func f4) fi4 ca4] (Hp h (mo b0 Ac p0 :: O)) fun d h' => ∃ r, G r ∧ d = .tup [] ∧ (b0 = 0 → r = []) ∧ OK h (mo b0 Ac r :: O) ∧ h' = Hp h (mo b0 Ac r :: O) := by
 refine CallsA.ret ?_
 refine CJ Tryz.func193 rfl cx Tryz.ntmps193 rfl ?_
 rw [BS] at hF
 refine Ib ?_
 refine QB ?_
 refine Ib ?_
 refine QB ?_
 refine A5 hF (fun (v : (List Aa) × Int) s' => match v with | (a15, a17) => (b0 = 0 → a15 = []) ∧ OK h (mo b0 Ac a15 :: O) ∧ WS s' ⟨Al 58 [(0, Aq 3 b0 a15), (2, .int .i64 p2), (4, .fn (.func f4) fi4 ca4), (10, .int .i64 a17)], Hp h (mo b0 Ac a15 :: O)⟩) (fun J18 hF => ?_) ?_
 ·refine FB ?_
  refine Cg (σ := (List Aa) × Int × Int) hF (fun (v : (List Aa) × Int × Int) s' => match v with | (a19, a21, a22) => (b0 = 0 → a19 = []) ∧ OK h (mo b0 Ac a19 :: O) ∧ WS s' ⟨Al 58 [(0, Aq 3 b0 a19), (2, .int .i64 p2), (4, .fn (.func f4) fi4 ca4), (10, .int .i64 a21), (11, .int .i64 a22)], Hp h (mo b0 Ac a19 :: O)⟩) ?_ ?_
  ·exact ⟨zb0, oy ok, wy ok⟩
  ·rintro G23 hG24 rec25 ⟨a19, a21, a22⟩ s' ih26 hF ⟨kz20, ok, hws⟩
   refine AO hws ?_
   clear hws s'
   rw [BV] at hF
   refine Po ?_
   refine MB ?_
   refine Au rfl hF (fun hb27 hF => ?_) fun hb27 hF => ?_
   ·refine WD ?_
    refine Ib ?_
    refine Tm ?_
    refine Au rfl hF (fun hb28 hF => ?_) fun hb28 hF => ?_
    ·refine Bg ?_
     refine O0 ?_
     refine Ix ?_
     refine Es ?_
     refine SR ?_
     refine cl (okT (fun _ hF => C2 _ _ _ _ (p0 := a19) (f4 := f4) (fi4 := fi4) (ca4 := ca4) (b0 := b0) h (O) hf4 kz20 ok hF) hF fun x29 _ _ _ hq hF => ?_)
     obtain ⟨rfl, zr30, ok, rfl⟩ := hq
     obtain ⟨a31, ha31, hF⟩ := D9 hF
     obtain ⟨_, hl32, hF⟩ := BD hF
     rw [← ha31] at ok zr30
     rw [← ha31]
     have hms : Aq 3 b0 a19 = Aq 3 b0 a31 := CW (E6 hl32)
     try rw [hms] at ok
     try rw [hms]
     clear hms
     refine AY ?_
     refine Wr ?_
     refine QB ?_
     refine ih26 (a31, (IntKind.wrap .i64 (a21 - a22)), a22) _ hF ?_
     exact ⟨zr30, oy ok, wy ok⟩
    ·refine Bg ?_
     refine O0 ?_
     refine Ix ?_
     refine Es ?_
     refine Jn ?_
     refine Es ?_
     refine Ix ?_
     refine SR ?_
     refine cl (okT (fun _ hF => C2 _ _ _ _ (p0 := a19) (f4 := f4) (fi4 := fi4) (ca4 := ca4) (b0 := b0) h (O) hf4 kz20 ok hF) hF fun x33 _ _ _ hq hF => ?_)
     obtain ⟨rfl, zr34, ok, rfl⟩ := hq
     obtain ⟨a35, ha35, hF⟩ := D9 hF
     obtain ⟨_, hl36, hF⟩ := BD hF
     rw [← ha35] at ok zr34
     rw [← ha35]
     have hms : Aq 3 b0 a19 = Aq 3 b0 a35 := CW (E6 hl36)
     try rw [hms] at ok
     try rw [hms]
     clear hms
     refine AY ?_
     refine Wr ?_
     refine QB ?_
     refine ih26 (a35, a21, (IntKind.wrap .i64 (a22 - a21))) _ hF ?_
     exact ⟨zr34, oy ok, wy ok⟩
   ·refine DS ?_
    replace hF := hG24 _ (Ak hF)
    exact ⟨(a19, a21), hF, kz20, oy ok, wy ok⟩
 ·rintro ⟨a15, a17⟩ s' hF ⟨kz16, ok, hws⟩
  refine AO hws ?_
  clear hws s'
  refine Hu ?_
  refine O0 ?_
  refine Ix ?_
  refine Es ?_
  refine SR ?_
  refine cl (okT (fun _ hF => C2 _ _ _ _ (p0 := a15) (f4 := f4) (fi4 := fi4) (ca4 := ca4) (b0 := b0) h (O) hf4 kz16 ok hF) hF fun x37 _ _ _ hq hF => ?_)
  obtain ⟨rfl, zr38, ok, rfl⟩ := hq
  obtain ⟨a39, ha39, hF⟩ := D9 hF
  obtain ⟨_, hl40, hF⟩ := BD hF
  rw [← ha39] at ok zr38
  rw [← ha39]
  have hms : Aq 3 b0 a15 = Aq 3 b0 a39 := CW (E6 hl40)
  try rw [hms] at ok
  try rw [hms]
  clear hms
  refine AY ?_
  refine xr ?_
  refine Jf (fn := Tryz.f193) rfl .nil ?_
  exact ⟨_, _, (.refl _), hy ok, _, Ak hF, rfl, zr38, oy ok, rfl⟩
end Go.Proofs.YtilhbalhkljanaaGreatDoor
