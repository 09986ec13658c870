/- The walks. No condition. -/
import Derived.Test.YtjofelloaofooaaGreatDoorQz
set_option linter.unusedVariables false
set_option linter.unusedSimpArgs false
set_option maxRecDepth 20000
set_option maxHeartbeats 8000000
namespace Go.Proofs.YtjofelloaofooaaGreatDoor
open Go.Proofs.Tryz
theorem MA : ∀ (N : Nat) {p0 : Ab} {p1 : List Ab} {rp1 : Nat} {G : (List Ab) -> Prop} (h : Heap) (O : List (Nat × AObj)) (hrp1 : rp1 ≠ 0) (ok : OK h ((rp1, .room) :: O)) (hF : OptP (iter C4 N (p0, p1)) G), CallsA prog 30 [.agg (Ac p0), .sl 6 (List.map Ac p1) rp1] (Hp h ((rp1, .room) :: O)) fun d h' => ∃ r, G r /\ ∃ rp1' : Nat, d = .sl 6 (List.map Ac r) rp1' /\ rp1' ≠ 0 /\ OK h ((rp1', .room) :: O) /\ h' = Hp h ((rp1', .room) :: O) := by
 intro N
 induction N with
 | zero => intro p0 p1 rp1 G h O hrp1 ok hF; exact IH hF
 | succ N ih0 =>
 have self_ok : ∀ {β : Type} {f0 : (List Ab) -> Option β} {G : β -> Prop} {R : D -> Heap -> Prop} {p0 : Ab} {p1 : List Ab} {rp1 : Nat} (h : Heap) (O : List (Nat × AObj)) (hrp1 : rp1 ≠ 0) (ok : OK h ((rp1, .room) :: O)) (hF : OptP ((iter C4 N (p0, p1)).bind f0) G) (hk : ∀ r rp1', iter C4 N (p0, p1) = some r -> rp1' ≠ 0 -> OK h ((rp1', .room) :: O) -> OptP (f0 r) G -> R (.sl 6 (List.map Ac r) rp1') (Hp h ((rp1', .room) :: O))), CallsA prog 30 [.agg (Ac p0), .sl 6 (List.map Ac p1) rp1] (Hp h ((rp1, .room) :: O)) R := by
  intro β f0 G R p0 p1 rp1 h O hrp1 ok hF hk;obtain ⟨r0, hr, hF⟩ := AM hF;refine (ih0 (G := fun r => r = r0) h O hrp1 ok ⟨r0, hr, rfl⟩).mono ?_;rintro _ _ ⟨r, rfl, rp, rfl, y0, ok', rfl⟩;exact hk _ _ hr y0 ok' hF
 clear ih0;intro p0 p1 rp1 G h O hrp1 ok hF;replace hF : OptP (C4 (iter C4 N) (p0, p1)) G := hF;refine CallsA.ret ?_;refine FL func30 rfl XS ntmps30 rfl ?_;rw [C4] at hF;refine BL ?_;refine B1 (v := .agg (Ac p0)) (cs := Ac p0) rfl rfl rfl rfl ?_;refine S_a (v := .snil) rfl ?_;refine WI 4 6 ok rfl rfl ?_;intro r1 hr1 ok;refine SI ?_;refine Ce (mdl [(10, 2)]) ?_;refine Md ?_;refine Ap rfl (A3 (vs := Ac p0) At Aj (by rw [Aa]; rfl) (by rw [Aa]; rfl)) ?_;refine Iy (d := 8) (v := .agg [.int .i64 p0.Kind, .str p0.Name.URI, .str p0.Name.Local, .sl 3 (List.map Af p0.Attrs) 0, .sl 6 (List.map Ac p0.Kids) 0, .str p0.Text]) (congrArg D.agg (Aa p0)) ?_;refine Dr (cs := [.int .i64 p0.Kind, .str p0.Name.URI, .str p0.Name.Local, .sl 3 (List.map Af p0.Attrs) 0, .sl 6 (List.map Ac p0.Kids) 0, .str p0.Text]) (es := (List.map Ac [p0])) rfl DA rfl (by kernel_rfl) (by simp only [List.map_cons, List.map_nil, Aa]; rfl) ?_;refine Iu (j := 1) ok rfl rfl rfl rfl hrp1 DA F9 hF ?_;intro r2 hr2 ok hF;refine MN ?_;refine AF hF (fun (a11 : (List Ab)) s' => ∃ g12 : Nat, g12 ≠ 0 /\ Zs h ((g12, .room) :: O) 23 [(1, .sl 6 (List.map Ac a11) g12)] s') (fun J13 hF => ?_) ?_
 ·refine BL ?_;refine Ax rfl AZ Au (by rw [Aa]; rfl) ?_;refine Ap rfl (Az BF Au (congrArg (List.drop 4) (Aa p0))) ?_;refine MK ?_;refine Bk (σ := (List Ab) × Int) hF (fun (v : (List Ab) × Int) s' => match v with | (a14, a16) => ∃ g15 : Nat, g15 ≠ 0 /\ Zs h ((g15, .room) :: O) 23 [(1, .sl 6 (List.map Ac a14) g15), (12, .sl 6 (List.map Ac p0.Kids) 0), (13, .int .i64 (p0.Kids.length : Int)), (14, .int .i64 a16)] s') ?_ ?_
  ·exact ⟨r2, hr2, oy ok, wy ok⟩
  ·rintro G17 hG18 rec19 ⟨a14, a16⟩ s' ih20 hF ⟨g15, hg15, ok, hws⟩;refine Aw hws ?_;rw [EA] at hF;refine GG ?_;refine Bb rfl hF (fun hb21 hF => ?_) fun hb21 hF => ?_
   ·refine Lj ?_;refine Ce (mdl [(6, 1)]) ?_;refine Fi rfl rfl Ck Aj hF (fun x22 _ hF => ?_);refine Ap rfl (A3 (vs := Ac x22) At Aj (by rw [Aa]; rfl) (by rw [Aa]; rfl)) ?_;refine Ds ok rfl BP ?_;intro i23 hi23 ok;refine HS (j := 0) (cs' := [.int .i64 x22.Kind, .str x22.Name.URI, .str x22.Name.Local, .sl 3 (List.map Af x22.Attrs) 0, .sl 6 (List.map Ac x22.Kids) 0, .str x22.Text]) ok rfl (congrArg D.agg (Aa x22)) rfl hi23 rfl Aj rfl rfl (fun ok => ?_);refine C1 ?_;refine MO ?_;refine Ej (j := 0) ok rfl rfl rfl hi23 (A3 (vs := Ac x22) At Aj rfl (Aa x22).symm) ?_;refine Md ?_;obtain ⟨hpe, ok⟩ := Hp_pull 1 ok rfl;rw [hpe]; clear hpe;refine cl (self_ok (p0 := x22) (p1 := a14) (rp1 := g15) h ((i23, .cells [.int .i64 x22.Kind, .str x22.Name.URI, .str x22.Name.Local, .sl 3 (List.map Af x22.Attrs) 0, .sl 6 (List.map Ac x22.Kids) 0, .str x22.Text]) :: O) hg15 ok hF fun x24 r25 _ hr25 ok hF => ?_);refine MN ?_;refine Np ?_;refine ih20 (x24, (IntKind.wrap .i64 (a16 + 1))) _ hF ?_;exact ⟨r25, hr25, oy ok, wy ok⟩
   ·refine EI ?_;replace hF := hG18 _ (Ar hF);exact ⟨a14, hF, g15, hg15, oy ok, wy ok⟩
 ·rintro a11 s' hF ⟨g12, hg12, ok, hws⟩;refine Aw hws ?_;refine Jm ?_;refine MN ?_;refine SZ ?_;refine rr ?_;exact ⟨_, _, (.refl _), hy ok, _, Ar hF, g12, rfl, hg12, oy ok, rfl⟩
theorem L2 (p0 : Ab) (p1 : List Ab) (rp1 : Nat) {G : (List Ab) -> Prop} (h : Heap) (O : List (Nat × AObj)) (hrp1 : rp1 ≠ 0) (ok : OK h ((rp1, .room) :: O)) (hF : OptP (Fc p0 p1) G) : CallsA prog 30 [.agg (Ac p0), .sl 6 (List.map Ac p1) rp1] (Hp h ((rp1, .room) :: O)) fun d h' => ∃ r, G r /\ ∃ rp1' : Nat, d = .sl 6 (List.map Ac r) rp1' /\ rp1' ≠ 0 /\ OK h ((rp1', .room) :: O) /\ h' = Hp h ((rp1', .room) :: O) := MA FUEL h O hrp1 ok hF
theorem Lk {β : Type} {f0 : (List Ab) -> Option β} {G : β -> Prop} {R : D -> Heap -> Prop} {p0 : Ab} {p1 : List Ab} {rp1 : Nat} (h : Heap) (O : List (Nat × AObj)) (hrp1 : rp1 ≠ 0) (ok : OK h ((rp1, .room) :: O)) (hF : OptP ((Fc p0 p1).bind f0) G) (hk : ∀ r rp1', Fc p0 p1 = some r -> rp1' ≠ 0 -> OK h ((rp1', .room) :: O) -> OptP (f0 r) G -> R (.sl 6 (List.map Ac r) rp1') (Hp h ((rp1', .room) :: O))) : CallsA prog 30 [.agg (Ac p0), .sl 6 (List.map Ac p1) rp1] (Hp h ((rp1, .room) :: O)) R := by
 obtain ⟨r0, hr, hF⟩ := AM hF;refine (L2 (G := fun r => r = r0) p0 p1 rp1 h O hrp1 ok ⟨r0, hr, rfl⟩).mono ?_;rintro _ _ ⟨r, rfl, rp, rfl, y0, ok', rfl⟩;exact hk _ _ hr y0 ok' hF
theorem Ev (p0 : List Ab) (p1 : Ab -> Option Bool) (f1 : FuncId) (fi1 ca1 : List D) (hf1 : ∀ (x0 : Ab) (G : Bool -> Prop) (h : Heap), OptP (p1 x0) G -> CallsA prog f1 (fi1 ++ [.agg (Ac x0)] ++ ca1) h fun d h' => ∃ r, G r /\ d = .bool r /\ h' = h) {G : Int -> Prop} (h : Heap) (hF : OptP (AO p0 p1) G) : CallsA prog 65 [.sl 6 (List.map Ac p0) 0, .fn (.func f1) fi1 ca1] h fun d h' => ∃ r, G r /\ d = .int .i64 r /\ h' = h := by
 refine CallsA.ret ?_;refine AS func65 rfl Aag ntmps65 rfl (fun ok => ?_);rw [AO] at hF;refine SD ?_;refine AF hF (fun (_ : Unit) s' => Zs h [] 19 [] s') (fun J6 hF => ?_) ?_
 ·refine Jm ?_;refine MK ?_;refine Bk (σ := Int) hF (fun (a7 : Int) s' => Zs h [] 19 [(0, .sl 6 (List.map Ac p0) 0), (1, .fn (.func f1) fi1 ca1), (7, .int .i64 (p0.length : Int)), (8, .int .i64 a7)] s') ?_ ?_
  ·exact ⟨oy ok, wy ok⟩
  ·rintro G8 hG9 rec10 a7 s' ih11 hF ⟨ok, hws⟩;refine Aw hws ?_;rw [AW] at hF;refine GG ?_;refine Bb rfl hF (fun hb12 hF => ?_) fun hb12 hF => ?_
   ·refine Tm ?_;refine BL ?_;refine VF ?_;refine Ue ?_;refine Fi rfl rfl Ck Aj hF (fun x13 _ hF => ?_);refine Ap rfl (A3 (vs := Ac x13) At Aj (by rw [Aa]; rfl) (by rw [Aa]; rfl)) ?_;refine L7 rfl (CM (enc := fun r => .bool r) (fun G h hF => hf1 x13 G h hF) _ hF fun x14 _ hF => ?_) (.app (.app (.refl _) (.cons (.refl _) (.nil))) (.refl _));refine C1 ?_;refine Bb rfl hF (fun hb15 hF => ?_) fun hb15 hF => ?_
    ·refine GI ?_;refine Qu ?_;replace hF := hG9 _ (Ar hF);exact rt
    ·refine NE ?_;refine ih11 (IntKind.wrap .i64 (a7 + 1)) _ hF ?_;exact ⟨oy ok, wy ok⟩
   ·refine EI ?_;replace hF := hG9 _ (Ar hF);exact ⟨(), hF, oy ok, wy ok⟩
 ·rintro ⟨⟩ s' hF ⟨ok, hws⟩;refine Aw hws ?_;refine Ld ?_;exact rt
theorem Ek {β : Type} {f : Int -> Option β} {G : β -> Prop} {R : D -> Heap -> Prop} {p0 : List Ab} {p1 : Ab -> Option Bool} {f1 : FuncId} {fi1 ca1 : List D} (hf1 : ∀ (x0 : Ab) (G : Bool -> Prop) (h : Heap), OptP (p1 x0) G -> CallsA prog f1 (fi1 ++ [.agg (Ac x0)] ++ ca1) h fun d h' => ∃ r, G r /\ d = .bool r /\ h' = h) (h : Heap) (hF : OptP ((AO p0 p1).bind f) G) (hk : ∀ r, AO p0 p1 = some r -> OptP (f r) G -> R (.int .i64 r) h) : CallsA prog 65 [.sl 6 (List.map Ac p0) 0, .fn (.func f1) fi1 ca1] h R := by
 obtain ⟨r0, hr, hF⟩ := AM hF;refine (Ev (G := fun r => r = r0) p0 p1 f1 fi1 ca1 hf1 h ⟨r0, hr, rfl⟩).mono ?_;rintro _ _ ⟨r, rfl, rfl, rfl⟩;exact hk _ hr hF
theorem D7 (p0 : List Ab) (p1 : Ab -> Option Bool) (f1 : FuncId) (fi1 ca1 : List D) (hf1 : ∀ (x0 : Ab) (G : Bool -> Prop) (h : Heap), OptP (p1 x0) G -> CallsA prog f1 (fi1 ++ [.agg (Ac x0)] ++ ca1) h fun d h' => ∃ r, G r /\ d = .bool r /\ h' = h) {G : Bool -> Prop} (h : Heap) (hF : OptP (Ah p0 p1) G) : CallsA prog 31 [.sl 6 (List.map Ac p0) 0, .fn (.func f1) fi1 ca1] h fun d h' => ∃ r, G r /\ d = .bool r /\ h' = h := by
 refine CallsA.ret ?_;refine AS func31 rfl Z9 ntmps31 rfl (fun ok => ?_);rw [Ah] at hF;refine NB ?_;refine Jm ?_;refine VF ?_;refine cl (Ek (f1 := f1) (fi1 := fi1) (ca1 := ca1) hf1 _ hF fun x1 _ hF => ?_);refine UM ?_;refine E7 ?_;exact rt
theorem As {β : Type} {f : Bool -> Option β} {G : β -> Prop} {R : D -> Heap -> Prop} {p0 : List Ab} {p1 : Ab -> Option Bool} {f1 : FuncId} {fi1 ca1 : List D} (hf1 : ∀ (x0 : Ab) (G : Bool -> Prop) (h : Heap), OptP (p1 x0) G -> CallsA prog f1 (fi1 ++ [.agg (Ac x0)] ++ ca1) h fun d h' => ∃ r, G r /\ d = .bool r /\ h' = h) (h : Heap) (hF : OptP ((Ah p0 p1).bind f) G) (hk : ∀ r, Ah p0 p1 = some r -> OptP (f r) G -> R (.bool r) h) : CallsA prog 31 [.sl 6 (List.map Ac p0) 0, .fn (.func f1) fi1 ca1] h R := by
 obtain ⟨r0, hr, hF⟩ := AM hF;refine (D7 (G := fun r => r = r0) p0 p1 f1 fi1 ca1 hf1 h ⟨r0, hr, rfl⟩).mono ?_;rintro _ _ ⟨r, rfl, rfl, rfl⟩;exact hk _ hr hF
theorem M4 (p0 : Int) (p1 : Int) {G : Bool -> Prop} (h : Heap) (hF : OptP (Fa p0 p1) G) : CallsA prog 67 [.int .i64 p0, .int .i64 p1] h fun d h' => ∃ r, G r /\ d = .bool r /\ h' = h := by
 refine CallsA.ret ?_;refine AS func67 rfl Aa3 ntmps67 rfl (fun ok => ?_);rw [Fa] at hF;refine NB ?_;refine JF ?_;refine VD ?_;refine Bb rfl hF (fun hb1 hF => ?_) fun hb1 hF => ?_
 ·refine Xx ?_;refine Ba (b := (p1 == 2)) 3 13 (.bool ((p1 == 2) || (p1 == 4))) (fun hb2 => ?_) (fun hb2 => ?_) ?_
  ·refine K8 ?_;exact th
  ·refine N5 ?_;exact th
  refine D3 ?_;refine Ba (b := ((p1 == 2) || (p1 == 4))) 3 17 (.bool (((p1 == 2) || (p1 == 4)) || (p1 == 5))) (fun hb3 => ?_) (fun hb3 => ?_) ?_
  ·refine K8 ?_;exact th
  ·refine N5 ?_;exact th
  refine E7 ?_;exact rt
 ·refine PC ?_;refine Bb rfl hF (fun hb4 hF => ?_) fun hb4 hF => ?_
  ·refine QB ?_;refine Ba (b := (decide (2 <= p1))) 3 25 (.bool ((decide (2 <= p1)) && (decide (p1 <= 5)))) (fun hb5 => ?_) (fun hb5 => ?_) ?_
   ·refine Qq ?_;exact th
   ·refine JG ?_;exact th
   refine E7 ?_;exact rt
  ·refine UY ?_;exact rt
theorem Lf (p0 : Ab) (p1 : Ab) {G : Bool -> Prop} (h : Heap) (hF : OptP (Dq p0 p1) G) : CallsA prog 66 [.agg (Ac p0), .iptr (Ac p1)] h fun d h' => ∃ r, G r /\ d = .bool r /\ h' = h := by
 refine CallsA.ret ?_;refine AS func66 rfl Ab9 ntmps66 rfl (fun ok => ?_);rw [Dq] at hF;refine BL ?_;refine B1 (v := .agg (Ac p0)) (cs := Ac p0) rfl rfl rfl rfl ?_;refine O3 ?_;refine Ax rfl Bd AQ (by rw [Aa]; rfl) ?_;refine Ap rfl (Az CL AQ (congrArg (List.drop 0) (Aa p1))) ?_;refine Ax rfl Bd AQ (by rw [Aa]; rfl) ?_;refine Ap rfl (Az CL AQ (congrArg (List.drop 0) (Aa p0))) ?_;refine cl (CM (fun _ h hF => M4 _ _ h hF) _ hF fun x1 _ hF => ?_);refine UT ?_;refine E7 ?_;exact rt
theorem M0 (p0 : Ab) {G : Bool -> Prop} (h : Heap) (hF : OptP (DP p0) G) : CallsA prog 32 [.agg (Ac p0)] h fun d h' => ∃ r, G r /\ d = .bool r /\ h' = h := by
 refine CallsA.ret ?_;refine AS func32 rfl ZD ntmps32 rfl (fun ok => ?_);rw [DP] at hF;refine BL ?_;refine B1 (v := .agg (Ac p0)) (cs := Ac p0) rfl rfl rfl rfl ?_;refine O3 ?_;refine Ax rfl Bd AQ (by rw [Aa]; rfl) ?_;refine Ap rfl (Az CL AQ (congrArg (List.drop 0) (Aa p0))) ?_;refine Vq ?_;refine Ba (b := (p0.Kind != 2)) 5 12 (.bool ((p0.Kind != 2) && (decide (0 < (p0.Attrs.length : Int))))) (fun hb1 => ?_) (fun hb1 => ?_) ?_
 ·refine EH ?_;refine Ax rfl Bc AD (by rw [Aa]; rfl) ?_;refine BQ ?_;refine Ap rfl (Az Cm AD (congrArg (List.drop 3) (Aa p0))) ?_;refine BQ ?_;refine SL ?_;refine BQ ?_;refine Uc ?_;refine Jw ?_;exact th
 ·refine Ss ?_;exact th
 refine Fs ?_;refine AF hF (fun (a9 : Bool) s' => Zs h [] 57 [(1, .iptr (Ac p0)), (3, .bool a9)] s') (fun J10 hF => ?_) ?_
 ·refine BL ?_;refine Ax rfl Bd AQ (by rw [Aa]; rfl) ?_;refine Ap rfl (Az CL AQ (congrArg (List.drop 0) (Aa p0))) ?_;refine VD ?_;refine Bb rfl hF (fun hb11 hF => ?_) fun hb11 hF => ?_
  ·refine MO ?_;refine Xb ?_;refine Ba (b := ((p0.Kind != 2) && (decide (0 < (p0.Attrs.length : Int))))) 5 30 (.bool (((p0.Kind != 2) && (decide (0 < (p0.Attrs.length : Int)))) || (!((p0.Name.URI == (⟨[], []⟩ : Ad).URI) && ((p0.Name.Local == (⟨[], []⟩ : Ad).Local) && true))))) (fun hb12 => ?_) (fun hb12 => ?_) ?_
   ·refine PV ?_;exact th
   ·refine EH ?_;refine Ax rfl BJ AV (by rw [Aa]; rfl) ?_;refine BQ ?_;refine Ap rfl (A3 (vs := An p0.Name) De AV (by rw [Aa]; rfl) (by rw [Aa]; rfl)) ?_;refine BQ ?_;refine Ef (v := .agg (An (⟨[], []⟩ : Ad))) (II GR GZ rfl) ?_;refine BQ ?_;refine Eg rfl rfl (Pc (b := ((p0.Name.URI == (⟨[], []⟩ : Ad).URI) && ((p0.Name.Local == (⟨[], []⟩ : Ad).Local) && true))) Fj EZ (by simp only [An, Fb, FD, JD, EZ, Fj, AP, Ak, Bs, AP, Ak, Bs, Gx, Gr, FG, Gv, FF, FE, Fd, List.drop_zero, List.drop_succ_cons, bi, bj, List.take_succ_cons, List.take_zero, Option.isSome_some, if_true, ba, Option.map_some, Nat.reduceAdd, Nat.reduceLeDiff])) ?_;refine IW ?_;exact th
   refine D3 ?_;refine Ba (b := (((p0.Kind != 2) && (decide (0 < (p0.Attrs.length : Int)))) || (!((p0.Name.URI == (⟨[], []⟩ : Ad).URI) && ((p0.Name.Local == (⟨[], []⟩ : Ad).Local) && true))))) 4 35 (.bool ((((p0.Kind != 2) && (decide (0 < (p0.Attrs.length : Int)))) || (!((p0.Name.URI == (⟨[], []⟩ : Ad).URI) && ((p0.Name.Local == (⟨[], []⟩ : Ad).Local) && true)))) || (!(p0.Text == [])))) (fun hb13 => ?_) (fun hb13 => ?_) ?_
   ·refine LV ?_;exact th
   ·refine EH ?_;refine Ax rfl A1 Ak (by rw [Aa]; rfl) ?_;refine BQ ?_;refine Ap rfl (Az AP Ak (congrArg (List.drop 5) (Aa p0))) ?_;refine BQ ?_;refine QS ?_;refine IW ?_;exact th
   refine Fs ?_;exact ⟨((((p0.Kind != 2) && (decide (0 < (p0.Attrs.length : Int)))) || (!((p0.Name.URI == (⟨[], []⟩ : Ad).URI) && ((p0.Name.Local == (⟨[], []⟩ : Ad).Local) && true)))) || (!(p0.Text == []))), hF, oy ok, wy ok⟩
  ·refine PC ?_;refine Bb rfl hF (fun hb14 hF => ?_) fun hb14 hF => ?_
   ·refine MO ?_;refine Ax rfl A1 Ak (by rw [Aa]; rfl) ?_;refine Ap rfl (Az AP Ak (congrArg (List.drop 5) (Aa p0))) ?_;refine QS ?_;refine Fs ?_;exact ⟨(!(p0.Text == [])), hF, oy ok, wy ok⟩
   ·refine PC ?_;refine Bb rfl hF (fun hb15 hF => ?_) fun hb15 hF => ?_
    ·refine MO ?_;refine Xb ?_;refine Ba (b := ((p0.Kind != 2) && (decide (0 < (p0.Attrs.length : Int))))) 5 49 (.bool (((p0.Kind != 2) && (decide (0 < (p0.Attrs.length : Int)))) || (!(p0.Name.URI == [])))) (fun hb16 => ?_) (fun hb16 => ?_) ?_
     ·refine PV ?_;exact th
     ·refine EH ?_;refine Ax rfl BJ AV (by rw [Aa]; rfl) ?_;refine BQ ?_;refine Ax rfl FC Ak (by rw [Aa]; rfl) ?_;refine BQ ?_;refine Ap rfl (Az AP Ak (congrArg (List.drop 0) (congrArg (List.drop 1) (Aa p0)))) ?_;refine BQ ?_;refine QS ?_;refine IW ?_;exact th
     refine Fs ?_;exact ⟨(((p0.Kind != 2) && (decide (0 < (p0.Attrs.length : Int)))) || (!(p0.Name.URI == []))), hF, oy ok, wy ok⟩
    ·refine MO ?_;refine Xb ?_;refine Ba (b := ((p0.Kind != 2) && (decide (0 < (p0.Attrs.length : Int))))) 5 21 (.bool (((p0.Kind != 2) && (decide (0 < (p0.Attrs.length : Int)))) || (!((p0.Name.URI == (⟨[], []⟩ : Ad).URI) && ((p0.Name.Local == (⟨[], []⟩ : Ad).Local) && true))))) (fun hb17 => ?_) (fun hb17 => ?_) ?_
     ·refine PV ?_;exact th
     ·refine EH ?_;refine Ax rfl BJ AV (by rw [Aa]; rfl) ?_;refine BQ ?_;refine Ap rfl (A3 (vs := An p0.Name) De AV (by rw [Aa]; rfl) (by rw [Aa]; rfl)) ?_;refine BQ ?_;refine Ef (v := .agg (An (⟨[], []⟩ : Ad))) (II GR GZ rfl) ?_;refine BQ ?_;refine Eg rfl rfl (Pc (b := ((p0.Name.URI == (⟨[], []⟩ : Ad).URI) && ((p0.Name.Local == (⟨[], []⟩ : Ad).Local) && true))) Fj EZ (by simp only [An, Fb, FD, JD, EZ, Fj, AP, Ak, Bs, AP, Ak, Bs, Gx, Gr, FG, Gv, FF, FE, Fd, List.drop_zero, List.drop_succ_cons, bi, bj, List.take_succ_cons, List.take_zero, Option.isSome_some, if_true, ba, Option.map_some, Nat.reduceAdd, Nat.reduceLeDiff])) ?_;refine IW ?_;exact th
     refine Fs ?_;exact ⟨(((p0.Kind != 2) && (decide (0 < (p0.Attrs.length : Int)))) || (!((p0.Name.URI == (⟨[], []⟩ : Ad).URI) && ((p0.Name.Local == (⟨[], []⟩ : Ad).Local) && true)))), hF, oy ok, wy ok⟩
 ·rintro a9 s' hF ⟨ok, hws⟩;refine Aw hws ?_;refine BL ?_;refine Xb ?_;refine Bl 5 56 hF (fun J19 hb18 hF => ?_) (fun J19 hb18 hF => ?_) (fun v20 hF => ?_)
  ·refine PV ?_;exact tw
  ·refine EH ?_;refine Ax rfl AZ Au (by rw [Aa]; rfl) ?_;refine BQ ?_;refine Ap rfl (Az BF Au (congrArg (List.drop 4) (Aa p0))) ?_;refine BQ ?_;refine Y4 (ca := [.iptr (Ac p0)]) rfl ?_;refine BQ ?_;refine cl (As (f1 := 66) (fi1 := []) (ca1 := [.iptr (Ac p0)]) (fun z0 G h hF => Lf z0 p0 h hF) _ hF fun x21 _ hF => ?_);refine IW ?_;exact tw
  ·refine E7 ?_;exact rt
theorem Kz (rec0 : Ab × Int -> Option Bool) (hrec : ∀ (v : Ab × Int) (G : Bool -> Prop) (h : Heap), OptP (rec0 v) G -> CallsA prog 33 [.agg (Ac v.1), .int .i64 v.2] h fun d h' => ∃ r, G r /\ d = .bool r /\ h' = h) (p0 : Ab) (p1 : Int) {G : Bool -> Prop} (h : Heap) (hF : OptP (C2 rec0 p0 p1) G) : CallsA prog 68 [.agg (Ac p0), .iptr [.int .i64 p1]] h fun d h' => ∃ r, G r /\ d = .bool r /\ h' = h := by
 refine CallsA.ret ?_;refine AS func68 rfl Abw ntmps68 rfl (fun ok => ?_);rw [C2] at hF;refine BL ?_;refine B1 (v := .agg (Ac p0)) (cs := Ac p0) rfl rfl rfl rfl ?_;refine O3 ?_;refine Ap rfl (A3 (vs := Ac p0) At Aj (by rw [Aa]; rfl) (by rw [Aa]; rfl)) ?_;refine Ap rfl (Az CL AQ rfl) ?_;refine cl (CM (enc := fun r => .bool r) (fun G h hF => hrec (p0, p1) G h hF) _ hF fun x1 _ hF => ?_);refine E7 ?_;exact rt
theorem Mm : ∀ (N : Nat) (v : Ab × Int) (G : Bool -> Prop) (h : Heap), OptP (iter Cl N v) G -> CallsA prog 33 [.agg (Ac v.1), .int .i64 v.2] h fun d h' => ∃ r, G r /\ d = .bool r /\ h' = h := by
 intro N
 induction N with
 | zero => intro v G h hF; exact IH hF
 | succ N ih0 =>
 rintro ⟨p0, p1⟩ G h hF;show CallsA prog 33 [.agg (Ac p0), .int .i64 p1] h fun d h' => ∃ r, G r /\ d = .bool r /\ h' = h;replace hF : OptP (Cl (iter Cl N) (p0, p1)) G := hF;refine CallsA.ret ?_;refine AS func33 rfl Aaj ntmps33 rfl (fun ok => ?_);rw [Cl] at hF;refine IR ?_;refine Ce (mdl [(3, 1)]) ?_;refine B1 (v := .agg (Ac p0)) (cs := Ac p0) rfl rfl rfl rfl ?_;refine Zi (cs := [.int .i64 p1]) ok rfl rfl rfl rfl ?_;intro i1 hi1 ok;refine Fs ?_;refine AF hF (fun (a4 : Int) s' => Zs h [(i1, .cells [.int .i64 a4])] 16 [(2, .iptr (Ac p0)), (3, .ptr i1 0)] s') (fun J5 hF => ?_) ?_
 ·refine BL ?_;refine Ax rfl Bd AQ (by rw [Aa]; rfl) ?_;refine Ap rfl (Az CL AQ (congrArg (List.drop 0) (Aa p0))) ?_;refine Sa ?_;refine Bb rfl hF (fun hb6 hF => ?_) fun hb6 hF => ?_
  ·refine OE ?_;refine TI ?_;refine YL ?_;refine Bb rfl hF (fun hb7 hF => ?_) fun hb7 hF => ?_
   ·refine G5 ?_;exact rt
   ·refine Eh ?_;refine MO ?_;refine TI ?_;refine Qy ?_;refine st_ 0 ok hi1 AQ (fun ok => ?_);refine C1 ?_;exact ⟨(IntKind.wrap .i64 (p1 + 1)), hF, oy ok, wy ok⟩
  ·refine Eh ?_;exact ⟨p1, hF, oy ok, wy ok⟩
 ·rintro a4 s' hF ⟨ok, hws⟩;refine Aw hws ?_;refine BL ?_;refine XW 0 3 ok rfl rfl hi1 (fun ok => ?_);refine Ax rfl AZ Au (by rw [Aa]; rfl) ?_;refine Ap rfl (Az BF Au (congrArg (List.drop 4) (Aa p0))) ?_;refine Y4 (ca := [.iptr (Q0 a4)]) rfl ?_;refine cl (As (f1 := 68) (fi1 := []) (ca1 := [.iptr (Q0 a4)]) (fun z0 G h hF => Kz (iter Cl N) ih0 z0 a4 h hF) _ hF fun x10 _ hF => ?_);refine E7 ?_;exact rt
theorem Mp (p0 : Ab) (p1 : Int) {G : Bool -> Prop} (h : Heap) (hF : OptP (GS p0 p1) G) : CallsA prog 33 [.agg (Ac p0), .int .i64 p1] h fun d h' => ∃ r, G r /\ d = .bool r /\ h' = h := Mm FUEL (p0, p1) G h hF
theorem J0 (p0 : Ae) {G : Bool -> Prop} (h : Heap) (hF : OptP (D5 p0) G) : CallsA prog 69 [.agg (Af p0)] h fun d h' => ∃ r, G r /\ d = .bool r /\ h' = h := by
 refine CallsA.ret ?_;refine AS func69 rfl Abj ntmps69 rfl (fun ok => ?_);rw [D5] at hF;refine BL ?_;refine B1 rfl rfl rfl rfl ?_;refine O3 ?_;refine Ax rfl Jz Ak rfl ?_;refine OI ?_;refine R1 ?_;refine Uc ?_;refine E7 ?_;exact rt
theorem Eu (p0 : List Ae) (p1 : Ae -> Option Bool) (f1 : FuncId) (fi1 ca1 : List D) (hf1 : ∀ (x0 : Ae) (G : Bool -> Prop) (h : Heap), OptP (p1 x0) G -> CallsA prog f1 (fi1 ++ [.agg (Af x0)] ++ ca1) h fun d h' => ∃ r, G r /\ d = .bool r /\ h' = h) {G : Int -> Prop} (h : Heap) (hF : OptP (AN p0 p1) G) : CallsA prog 105 [.sl 3 (List.map Af p0) 0, .fn (.func f1) fi1 ca1] h fun d h' => ∃ r, G r /\ d = .int .i64 r /\ h' = h := by
 refine CallsA.ret ?_;refine AS func105 rfl Y9 ntmps105 rfl (fun ok => ?_);rw [AN] at hF;refine SD ?_;refine AF hF (fun (_ : Unit) s' => Zs h [] 19 [] s') (fun J6 hF => ?_) ?_
 ·refine Jm ?_;refine SC ?_;refine Bk (σ := Int) hF (fun (a7 : Int) s' => Zs h [] 19 [(0, .sl 3 (List.map Af p0) 0), (1, .fn (.func f1) fi1 ca1), (7, .int .i64 (p0.length : Int)), (8, .int .i64 a7)] s') ?_ ?_
  ·exact ⟨oy ok, wy ok⟩
  ·rintro G8 hG9 rec10 a7 s' ih11 hF ⟨ok, hws⟩;refine Aw hws ?_;rw [AX] at hF;refine GG ?_;refine Bb rfl hF (fun hb12 hF => ?_) fun hb12 hF => ?_
   ·refine Tm ?_;refine BL ?_;refine VF ?_;refine Ue ?_;refine Fi rfl rfl DZ BB hF (fun x13 _ hF => ?_);refine Ap rfl (A3 (vs := Af x13) Fg BB rfl rfl) ?_;refine L7 rfl (CM (enc := fun r => .bool r) (fun G h hF => hf1 x13 G h hF) _ hF fun x14 _ hF => ?_) (.app (.app (.refl _) (.cons (.refl _) (.nil))) (.refl _));refine C1 ?_;refine Bb rfl hF (fun hb15 hF => ?_) fun hb15 hF => ?_
    ·refine GI ?_;refine Qu ?_;replace hF := hG9 _ (Ar hF);exact rt
    ·refine NE ?_;refine ih11 (IntKind.wrap .i64 (a7 + 1)) _ hF ?_;exact ⟨oy ok, wy ok⟩
   ·refine EI ?_;replace hF := hG9 _ (Ar hF);exact ⟨(), hF, oy ok, wy ok⟩
 ·rintro ⟨⟩ s' hF ⟨ok, hws⟩;refine Aw hws ?_;refine Ld ?_;exact rt
theorem En {β : Type} {f : Int -> Option β} {G : β -> Prop} {R : D -> Heap -> Prop} {p0 : List Ae} {p1 : Ae -> Option Bool} {f1 : FuncId} {fi1 ca1 : List D} (hf1 : ∀ (x0 : Ae) (G : Bool -> Prop) (h : Heap), OptP (p1 x0) G -> CallsA prog f1 (fi1 ++ [.agg (Af x0)] ++ ca1) h fun d h' => ∃ r, G r /\ d = .bool r /\ h' = h) (h : Heap) (hF : OptP ((AN p0 p1).bind f) G) (hk : ∀ r, AN p0 p1 = some r -> OptP (f r) G -> R (.int .i64 r) h) : CallsA prog 105 [.sl 3 (List.map Af p0) 0, .fn (.func f1) fi1 ca1] h R := by
 obtain ⟨r0, hr, hF⟩ := AM hF;refine (Eu (G := fun r => r = r0) p0 p1 f1 fi1 ca1 hf1 h ⟨r0, hr, rfl⟩).mono ?_;rintro _ _ ⟨r, rfl, rfl, rfl⟩;exact hk _ hr hF
theorem D9 (p0 : List Ae) (p1 : Ae -> Option Bool) (f1 : FuncId) (fi1 ca1 : List D) (hf1 : ∀ (x0 : Ae) (G : Bool -> Prop) (h : Heap), OptP (p1 x0) G -> CallsA prog f1 (fi1 ++ [.agg (Af x0)] ++ ca1) h fun d h' => ∃ r, G r /\ d = .bool r /\ h' = h) {G : Bool -> Prop} (h : Heap) (hF : OptP (Aq p0 p1) G) : CallsA prog 70 [.sl 3 (List.map Af p0) 0, .fn (.func f1) fi1 ca1] h fun d h' => ∃ r, G r /\ d = .bool r /\ h' = h := by
 refine CallsA.ret ?_;refine AS func70 rfl Aaa ntmps70 rfl (fun ok => ?_);rw [Aq] at hF;refine NB ?_;refine Jm ?_;refine VF ?_;refine cl (En (f1 := f1) (fi1 := fi1) (ca1 := ca1) hf1 _ hF fun x1 _ hF => ?_);refine UM ?_;refine E7 ?_;exact rt
theorem BE {β : Type} {f : Bool -> Option β} {G : β -> Prop} {R : D -> Heap -> Prop} {p0 : List Ae} {p1 : Ae -> Option Bool} {f1 : FuncId} {fi1 ca1 : List D} (hf1 : ∀ (x0 : Ae) (G : Bool -> Prop) (h : Heap), OptP (p1 x0) G -> CallsA prog f1 (fi1 ++ [.agg (Af x0)] ++ ca1) h fun d h' => ∃ r, G r /\ d = .bool r /\ h' = h) (h : Heap) (hF : OptP ((Aq p0 p1).bind f) G) (hk : ∀ r, Aq p0 p1 = some r -> OptP (f r) G -> R (.bool r) h) : CallsA prog 70 [.sl 3 (List.map Af p0) 0, .fn (.func f1) fi1 ca1] h R := by
 obtain ⟨r0, hr, hF⟩ := AM hF;refine (D9 (G := fun r => r = r0) p0 p1 f1 fi1 ca1 hf1 h ⟨r0, hr, rfl⟩).mono ?_;rintro _ _ ⟨r, rfl, rfl, rfl⟩;exact hk _ hr hF
theorem Lh (p0 : Ab) {G : Bool -> Prop} (h : Heap) (hF : OptP (DJ p0) G) : CallsA prog 34 [.agg (Ac p0)] h fun d h' => ∃ r, G r /\ d = .bool r /\ h' = h := by
 refine CallsA.ret ?_;refine AS func34 rfl Z3 ntmps34 rfl (fun ok => ?_);rw [DJ] at hF;refine BL ?_;refine B1 (v := .agg (Ac p0)) (cs := Ac p0) rfl rfl rfl rfl ?_;refine O3 ?_;refine S_a (v := .fn (.func 69) [] []) rfl ?_;refine Ji ?_;refine Ax rfl Bc AD (by rw [Aa]; rfl) ?_;refine Ap rfl (Az Cm AD (congrArg (List.drop 3) (Aa p0))) ?_;refine SL ?_;refine Uc ?_;refine D3 ?_;refine Ba (b := (decide (64 < (p0.Attrs.length : Int)))) 5 13 (.bool ((decide (64 < (p0.Attrs.length : Int))) || (decide (8192 < (p0.Text.length : Int))))) (fun hb1 => ?_) (fun hb1 => ?_) ?_
 ·refine PV ?_;exact th
 ·refine EH ?_;refine Ax rfl A1 Ak (by rw [Aa]; rfl) ?_;refine BQ ?_;refine Ap rfl (Az AP Ak (congrArg (List.drop 5) (Aa p0))) ?_;refine BQ ?_;refine Ve ?_;refine Xv ?_;exact th
 refine D3 ?_;refine Bl 5 19 hF (fun J3 hb2 hF => ?_) (fun J3 hb2 hF => ?_) (fun v4 hF => ?_)
 ·refine PV ?_;exact tw
 ·refine EH ?_;refine Ax rfl Bc AD (by rw [Aa]; rfl) ?_;refine BQ ?_;refine Ap rfl (Az Cm AD (congrArg (List.drop 3) (Aa p0))) ?_;refine BQ ?_;refine S_m (v := .fn (.func 69) [] []) rfl ?_;refine BQ ?_;refine cl (BE (f1 := 69) (fi1 := []) (ca1 := []) (fun z0 G h hF => J0 z0 h hF) _ hF fun x5 _ hF => ?_);refine IW ?_;exact tw
 ·refine E7 ?_;exact rt
theorem IK (p0 : Int) (p1 : List Ag) {G : Bool -> Prop} (h : Heap) (hF : OptP (El p0 p1) G) : CallsA prog 154 [.int .i32 p0, .sl 2 (List.map AI p1) 0] h fun d h' => ∃ r, G r /\ d = .bool r /\ h' = h := by
 refine CallsA.ret ?_;refine AS func154 rfl YN ntmps154 rfl (fun ok => ?_);rw [El] at hF;refine NB ?_;refine AF hF (fun (_ : Unit) s' => Zs h [] 22 [] s') (fun J6 hF => ?_) ?_
 ·refine Jm ?_;refine KS rfl NO ?_;refine Wr ?_;refine Bk (σ := Int) hF (fun (a7 : Int) s' => Zs h [] 22 [(0, .int .i32 p0), (7, .sl 2 (List.map AI p1) 0), (8, .int .i64 (p1.length : Int)), (9, .int .i64 a7)] s') ?_ ?_
  ·exact ⟨oy ok, wy ok⟩
  ·rintro G8 hG9 rec10 a7 s' ih11 hF ⟨ok, hws⟩;refine Aw hws ?_;rw [DU] at hF;refine GG ?_;refine Bb rfl hF (fun hb12 hF => ?_) fun hb12 hF => ?_
   ·refine Lj ?_;refine Ce (mdl [(6, 1)]) ?_;refine Fi rfl rfl NO K1 hF (fun x13 _ hF => ?_);refine Ap rfl (A3 (vs := AI x13) Rw K1 rfl rfl) ?_;refine Ds ok rfl CQ ?_;intro i14 hi14 ok;refine HS (j := 0) (cs' := [.int .i32 x13.lo, .int .i32 x13.hi]) ok rfl rfl rfl hi14 rfl K1 rfl rfl (fun ok => ?_);refine C1 ?_;refine GI ?_;refine Iv rfl NV Ki ?_;refine Ej (j := 0) ok rfl rfl rfl hi14 (Az (v := .int .i32 x13.hi) OZ Ki rfl) ?_;refine TF ?_;refine C1 ?_;refine Bb rfl hF (fun hb15 hF => ?_) fun hb15 hF => ?_
    ·refine GI ?_;refine Iv rfl Oc Ki ?_;refine Ej (j := 0) ok rfl rfl rfl hi14 (Az (v := .int .i32 x13.lo) OZ Ki rfl) ?_;refine UM ?_;refine E7 ?_;replace hF := hG9 _ (Ar hF);exact rt
    ·refine NE ?_;refine ih11 (IntKind.wrap .i64 (a7 + 1)) _ hF ?_;exact ⟨oy ok, wy ok⟩
   ·refine EI ?_;replace hF := hG9 _ (Ar hF);exact ⟨(), hF, oy ok, wy ok⟩
 ·rintro ⟨⟩ s' hF ⟨ok, hws⟩;refine Aw hws ?_;refine G5 ?_;exact rt
theorem Ha (p0 : Int) {G : Bool -> Prop} (h : Heap) (hF : OptP (Dn p0) G) : CallsA prog 107 [.int .i32 p0] h fun d h' => ∃ r, G r /\ d = .bool r /\ h' = h := by
 refine CallsA.ret ?_;refine AS func107 rfl Yj ntmps107 rfl (fun ok => ?_);rw [Dn] at hF;refine NB ?_;refine JF ?_;refine K6 ?_;refine Bb rfl hF (fun hb1 hF => ?_) fun hb1 hF => ?_
 ·refine QB ?_;refine Ba (b := (decide (97 <= p0))) 3 10 (.bool ((decide (97 <= p0)) && (decide (p0 <= 122)))) (fun hb2 => ?_) (fun hb2 => ?_) ?_
  ·refine Qq ?_;exact th
  ·refine JG ?_;exact th
  refine D3 ?_;refine Ba (b := ((decide (97 <= p0)) && (decide (p0 <= 122)))) 7 18 (.bool (((decide (97 <= p0)) && (decide (p0 <= 122))) || ((decide (65 <= p0)) && (decide (p0 <= 90))))) (fun hb3 => ?_) (fun hb3 => ?_) ?_
  ·refine Ur ?_;exact th
  ·refine UX ?_;refine Ba (b := (decide (65 <= p0))) 3 17 (.bool ((decide (65 <= p0)) && (decide (p0 <= 90)))) (fun hb5 => ?_) (fun hb5 => ?_) ?_
   ·refine Uh ?_;exact th
   ·refine SB ?_;exact th
   refine K7 ?_;exact th
  refine D3 ?_;refine Ba (b := (((decide (97 <= p0)) && (decide (p0 <= 122))) || ((decide (65 <= p0)) && (decide (p0 <= 90))))) 3 22 (.bool ((((decide (97 <= p0)) && (decide (p0 <= 122))) || ((decide (65 <= p0)) && (decide (p0 <= 90)))) || (p0 == 95))) (fun hb6 => ?_) (fun hb6 => ?_) ?_
  ·refine K8 ?_;exact th
  ·refine N5 ?_;exact th
  refine E7 ?_;exact rt
 ·refine Eh ?_;refine GI ?_;refine Ef (v := .agg (AI (⟨192, 214⟩ : Ag))) (II CQ C7 rfl) ?_;refine Ef (v := .agg (AI (⟨216, 246⟩ : Ag))) (II CQ C7 rfl) ?_;refine Ef (v := .agg (AI (⟨248, 767⟩ : Ag))) (II CQ C7 rfl) ?_;refine Ef (v := .agg (AI (⟨880, 893⟩ : Ag))) (II CQ C7 rfl) ?_;refine Ef (v := .agg (AI (⟨895, 8191⟩ : Ag))) (II CQ C7 rfl) ?_;refine Ef (v := .agg (AI (⟨8204, 8205⟩ : Ag))) (II CQ C7 rfl) ?_;refine Ef (v := .agg (AI (⟨8304, 8591⟩ : Ag))) (II CQ C7 rfl) ?_;refine Ef (v := .agg (AI (⟨11264, 12271⟩ : Ag))) (II CQ C7 rfl) ?_;refine Ef (v := .agg (AI (⟨12289, 55295⟩ : Ag))) (II CQ C7 rfl) ?_;refine Ef (v := .agg (AI (⟨63744, 64975⟩ : Ag))) (II CQ C7 rfl) ?_;refine Ef (v := .agg (AI (⟨65008, 65533⟩ : Ag))) (II CQ C7 rfl) ?_;refine Ef (v := .agg (AI (⟨65536, 983039⟩ : Ag))) (II CQ C7 rfl) ?_;refine Dr (cs := [.int .i32 (⟨192, 214⟩ : Ag).lo, .int .i32 (⟨192, 214⟩ : Ag).hi, .int .i32 (⟨216, 246⟩ : Ag).lo, .int .i32 (⟨216, 246⟩ : Ag).hi, .int .i32 (⟨248, 767⟩ : Ag).lo, .int .i32 (⟨248, 767⟩ : Ag).hi, .int .i32 (⟨880, 893⟩ : Ag).lo, .int .i32 (⟨880, 893⟩ : Ag).hi, .int .i32 (⟨895, 8191⟩ : Ag).lo, .int .i32 (⟨895, 8191⟩ : Ag).hi, .int .i32 (⟨8204, 8205⟩ : Ag).lo, .int .i32 (⟨8204, 8205⟩ : Ag).hi, .int .i32 (⟨8304, 8591⟩ : Ag).lo, .int .i32 (⟨8304, 8591⟩ : Ag).hi, .int .i32 (⟨11264, 12271⟩ : Ag).lo, .int .i32 (⟨11264, 12271⟩ : Ag).hi, .int .i32 (⟨12289, 55295⟩ : Ag).lo, .int .i32 (⟨12289, 55295⟩ : Ag).hi, .int .i32 (⟨63744, 64975⟩ : Ag).lo, .int .i32 (⟨63744, 64975⟩ : Ag).hi, .int .i32 (⟨65008, 65533⟩ : Ag).lo, .int .i32 (⟨65008, 65533⟩ : Ag).hi, .int .i32 (⟨65536, 983039⟩ : Ag).lo, .int .i32 (⟨65536, 983039⟩ : Ag).hi]) (es := (List.map AI [(⟨192, 214⟩ : Ag), (⟨216, 246⟩ : Ag), (⟨248, 767⟩ : Ag), (⟨880, 893⟩ : Ag), (⟨895, 8191⟩ : Ag), (⟨8204, 8205⟩ : Ag), (⟨8304, 8591⟩ : Ag), (⟨11264, 12271⟩ : Ag), (⟨12289, 55295⟩ : Ag), (⟨63744, 64975⟩ : Ag), (⟨65008, 65533⟩ : Ag), (⟨65536, 983039⟩ : Ag)])) rfl Kt rfl (by kernel_rfl) (by kernel_rfl) ?_;refine cl (CM (fun _ h hF => IK _ _ h hF) _ hF fun x7 _ hF => ?_);refine E7 ?_;exact rt
theorem KJ (p0 : Int) {G : Bool -> Prop} (h : Heap) (hF : OptP (DG p0) G) : CallsA prog 108 [.int .i32 p0] h fun d h' => ∃ r, G r /\ d = .bool r /\ h' = h := by
 refine CallsA.ret ?_;refine AS func108 rfl Yl ntmps108 rfl (fun ok => ?_);rw [DG] at hF;refine NB ?_;refine GI ?_;refine cl (CM (fun _ h hF => Ha _ h hF) _ hF fun x1 _ hF => ?_);refine D3 ?_;refine Ba (b := x1) 3 8 (.bool (x1 || (p0 == 45))) (fun hb2 => ?_) (fun hb2 => ?_) ?_
 ·refine K8 ?_;exact th
 ·refine N5 ?_;exact th
 refine D3 ?_;refine Ba (b := (x1 || (p0 == 45))) 3 12 (.bool ((x1 || (p0 == 45)) || (p0 == 46))) (fun hb3 => ?_) (fun hb3 => ?_) ?_
 ·refine K8 ?_;exact th
 ·refine N5 ?_;exact th
 refine D3 ?_;refine Ba (b := ((x1 || (p0 == 45)) || (p0 == 46))) 7 20 (.bool (((x1 || (p0 == 45)) || (p0 == 46)) || ((decide (48 <= p0)) && (decide (p0 <= 57))))) (fun hb4 => ?_) (fun hb4 => ?_) ?_
 ·refine Ur ?_;exact th
 ·refine UX ?_;refine Ba (b := (decide (48 <= p0))) 3 19 (.bool ((decide (48 <= p0)) && (decide (p0 <= 57)))) (fun hb6 => ?_) (fun hb6 => ?_) ?_
  ·refine Uh ?_;exact th
  ·refine SB ?_;exact th
  refine K7 ?_;exact th
 refine D3 ?_;refine Ba (b := (((x1 || (p0 == 45)) || (p0 == 46)) || ((decide (48 <= p0)) && (decide (p0 <= 57))))) 3 24 (.bool ((((x1 || (p0 == 45)) || (p0 == 46)) || ((decide (48 <= p0)) && (decide (p0 <= 57)))) || (p0 == 183))) (fun hb7 => ?_) (fun hb7 => ?_) ?_
 ·refine K8 ?_;exact th
 ·refine N5 ?_;exact th
 refine D3 ?_;refine Bl 6 31 hF (fun J9 hb8 hF => ?_) (fun J9 hb8 hF => ?_) (fun v10 hF => ?_)
 ·refine LK ?_;refine LV ?_;exact tw
 ·refine Li ?_;refine Ef (v := .agg (AI (⟨768, 879⟩ : Ag))) (II CQ C7 rfl) ?_;refine BQ ?_;refine Ef (v := .agg (AI (⟨8255, 8256⟩ : Ag))) (II CQ C7 rfl) ?_;refine BQ ?_;refine Dr (cs := [.int .i32 (⟨768, 879⟩ : Ag).lo, .int .i32 (⟨768, 879⟩ : Ag).hi, .int .i32 (⟨8255, 8256⟩ : Ag).lo, .int .i32 (⟨8255, 8256⟩ : Ag).hi]) (es := (List.map AI [(⟨768, 879⟩ : Ag), (⟨8255, 8256⟩ : Ag)])) rfl Kt rfl (by kernel_rfl) (by kernel_rfl) ?_;refine BQ ?_;refine cl (CM (fun _ h hF => IK _ _ h hF) _ hF fun x11 _ hF => ?_);refine IW ?_;exact tw
 ·refine E7 ?_;exact rt
theorem Jd (p0 : List By8) {G : Bool -> Prop} (h : Heap) (hF : OptP (Eo p0) G) : CallsA prog 73 [.str p0] h fun d h' => ∃ r, G r /\ d = .bool r /\ h' = h := by
 refine CallsA.ret ?_;refine AS func73 rfl ZK ntmps73 rfl (fun ok => ?_);rw [Eo] at hF;refine NB ?_;refine IR ?_;refine I0 ?_;refine K5 ?_;refine D3 ?_;refine Ba (b := (p0 == [])) 4 11 (.bool ((p0 == []) || (decide (100 < (p0.length : Int))))) (fun hb1 => ?_) (fun hb1 => ?_) ?_
 ·refine LV ?_;exact th
 ·refine K4 ?_;refine Ve ?_;refine Xv ?_;exact th
 refine D3 ?_;refine Bl 4 16 hF (fun J3 hb2 hF => ?_) (fun J3 hb2 hF => ?_) (fun v4 hF => ?_)
 ·refine LV ?_;exact tw
 ·refine K4 ?_;refine cl (L_ValidString_ok _ hF fun x5 _ hF => ?_);refine Xa ?_;exact tw
 ·refine C1 ?_;refine Bb rfl hF (fun hb6 hF => ?_) fun hb6 hF => ?_
  ·refine G5 ?_;exact rt
  ·refine Eh ?_;refine AF hF (fun (_ : Unit) s' => Zs h [] 35 [] s') (fun J18 hF => ?_) ?_
   ·refine I0 ?_;refine Xy ok rfl Bs ?_;intro i19 hi19 ok;refine XP ?_;refine Bk (σ := Nat) hF (fun (a20 : Nat) s' => Zs h [(i19, .iter p0 a20)] 35 [(18, .ptr i19 0)] s') ?_ ?_
    ·exact ⟨oy ok, wy ok⟩
    ·rintro G21 hG22 rec23 a20 s' ih24 hF ⟨ok, hws⟩;refine Aw hws ?_;rw [C3] at hF;refine BL ?_;refine Yf (j := 0) ok rfl rfl hi19 hF (fun _ ok hF => ?_) (fun hF => ?_)
     ·refine UH ?_;refine SI ?_;refine Ac1 rfl rfl ?_;refine SW ?_;refine BL ?_;refine Acj ?_;refine SO ?_;refine Xx ?_;refine Bl 4 29 hF (fun J26 hb25 hF => ?_) (fun J26 hb25 hF => ?_) (fun v27 hF => ?_)
      ·refine Li ?_;refine cl (CM (fun _ h hF => Ha _ h hF) _ hF fun x28 _ hF => ?_);refine Wv ?_;refine Jw ?_;exact tw
      ·refine Ow ?_;exact tw
      ·refine D3 ?_;refine Bl 4 34 hF (fun J30 hb29 hF => ?_) (fun J30 hb29 hF => ?_) (fun v31 hF => ?_)
       ·refine LV ?_;exact tw
       ·refine Li ?_;refine cl (CM (fun _ h hF => KJ _ h hF) _ hF fun x32 _ hF => ?_);refine Xa ?_;exact tw
       ·refine C1 ?_;refine Bb rfl hF (fun hb33 hF => ?_) fun hb33 hF => ?_
        ·refine G5 ?_;replace hF := hG22 _ (Ar hF);exact rt
        ·refine Eh ?_;refine ih24 (a20 + wdS p0 a20) _ hF ?_;exact ⟨oy ok, wy ok⟩
     ·refine UH ?_;refine SI ?_;refine Ac7 rfl rfl ?_;refine EI ?_;replace hF := hG22 _ (Ar hF);exact ⟨(), hF, oy ok, wy ok⟩
   ·rintro ⟨⟩ s' hF ⟨ok, hws⟩;refine Aw hws ?_;refine G5 ?_;exact rt
theorem KZ (p0 : Int) {G : Bool -> Prop} (h : Heap) (hF : OptP (DX p0) G) : CallsA prog 163 [.int .i32 p0] h fun d h' => ∃ r, G r /\ d = .bool r /\ h' = h := by
 refine CallsA.ret ?_;refine AS func163 rfl Y6 ntmps163 rfl (fun ok => ?_);rw [DX] at hF;refine NB ?_;refine Xx ?_;refine Ba (b := (p0 == 9)) 3 8 (.bool ((p0 == 9) || (p0 == 10))) (fun hb1 => ?_) (fun hb1 => ?_) ?_
 ·refine K8 ?_;exact th
 ·refine N5 ?_;exact th
 refine D3 ?_;refine Ba (b := ((p0 == 9) || (p0 == 10))) 3 12 (.bool (((p0 == 9) || (p0 == 10)) || (p0 == 13))) (fun hb2 => ?_) (fun hb2 => ?_) ?_
 ·refine K8 ?_;exact th
 ·refine N5 ?_;exact th
 refine D3 ?_;refine Bl 7 20 hF (fun J4 hb3 hF => ?_) (fun J4 hb3 hF => ?_) (fun v5 hF => ?_)
 ·refine Lp ?_;refine K8 ?_;exact tw
 ·refine Li ?_;refine Ef (v := .agg (AI (⟨32, 55295⟩ : Ag))) (II CQ C7 rfl) ?_;refine BQ ?_;refine Ef (v := .agg (AI (⟨57344, 65533⟩ : Ag))) (II CQ C7 rfl) ?_;refine BQ ?_;refine Ef (v := .agg (AI (⟨65536, 1114111⟩ : Ag))) (II CQ C7 rfl) ?_;refine BQ ?_;refine Dr (cs := [.int .i32 (⟨32, 55295⟩ : Ag).lo, .int .i32 (⟨32, 55295⟩ : Ag).hi, .int .i32 (⟨57344, 65533⟩ : Ag).lo, .int .i32 (⟨57344, 65533⟩ : Ag).hi, .int .i32 (⟨65536, 1114111⟩ : Ag).lo, .int .i32 (⟨65536, 1114111⟩ : Ag).hi]) (es := (List.map AI [(⟨32, 55295⟩ : Ag), (⟨57344, 65533⟩ : Ag), (⟨65536, 1114111⟩ : Ag)])) rfl Kt rfl (by kernel_rfl) (by kernel_rfl) ?_;refine BQ ?_;refine cl (CM (fun _ h hF => IK _ _ h hF) _ hF fun x6 _ hF => ?_);refine IW ?_;exact tw
 ·refine E7 ?_;exact rt
theorem L6 (p0 : List By8) (p1 : Int) {G : Int × Int × Int -> Prop} (h : Heap) (hF : OptP (EF p0 p1) G) : CallsA prog 119 [.sl 1 (List.map EO p0) 0, .int .i64 p1] h fun d h' => ∃ r, G r /\ d = .tup [.int .i32 r.1, .int .i64 r.2.1, .int .i64 r.2.2] /\ h' = h := by
 refine CallsA.ret ?_;refine AS func119 rfl YR ntmps119 rfl (fun ok => ?_);rw [EF] at hF;refine BL ?_;refine Xg ?_;refine JF ?_;refine Xn ?_;refine Ba (b := (decide (p1 < 0))) 5 16 (.bool ((decide (p1 < 0)) || (decide ((p0.length : Int) <= p1)))) (fun hb1 => ?_) (fun hb1 => ?_) ?_
 ·refine PV ?_;exact th
 ·refine Li ?_;refine Xe ?_;refine VI ?_;refine BQ ?_;refine UM ?_;refine IW ?_;exact th
 refine C1 ?_;refine Bb rfl hF (fun hb2 hF => ?_) fun hb2 hF => ?_
 ·refine BL ?_;refine N2 ?_;refine SF ?_;exact rt
 ·refine Eh ?_;refine Vj ?_;refine Wq rfl Ff IQ (JS rfl) Uw hF (fun x3 _ hF => ?_);refine cl (L_DecodeRune_ok _ hF fun x4 _ hF => ?_);refine Xk ?_;refine IR ?_;refine JJ ?_;refine Xx ?_;refine Ba (b := (x4.1 == 65533)) 3 30 (.bool ((x4.1 == 65533) && (decide (x4.2 < 3)))) (fun hb5 => ?_) (fun hb5 => ?_) ?_
  ·refine Li ?_;refine K6 ?_;refine MI ?_;exact th
  ·refine JG ?_;exact th
  refine Fs ?_;refine Bb rfl hF (fun hb6 hF => ?_) fun hb6 hF => ?_
  ·refine BL ?_;refine N2 ?_;refine SF ?_;exact rt
  ·refine GI ?_;refine cl (CM (fun _ h hF => KZ _ h hF) _ hF fun x7 _ hF => ?_);refine UT ?_;refine Fs ?_;refine Bb rfl hF (fun hb8 hF => ?_) fun hb8 hF => ?_
   ·refine BL ?_;refine N2 ?_;refine SF ?_;exact rt
   ·refine Eh ?_;refine SH ?_;refine Xj ?_;refine N2 ?_;refine SF ?_;exact rt
theorem Lb (p0 : List By8) {G : Int × Int -> Prop} (h : Heap) (hF : OptP (DV p0) G) : CallsA prog 81 [.sl 1 (List.map EO p0) 0] h fun d h' => ∃ r, G r /\ d = .tup [.int .i64 r.1, .int .i64 r.2] /\ h' = h := by
 refine CallsA.ret ?_;refine AS func81 rfl Aap ntmps81 rfl (fun ok => ?_);rw [DV] at hF;refine BL ?_;refine SO ?_;refine AF hF (fun (_ : Unit) s' => Zs h [] 24 [] s') (fun J5 hF => ?_) ?_
 ·refine T6 ?_;refine Bk (σ := Int) hF (fun (a6 : Int) s' => Zs h [] 24 [(0, .sl 1 (List.map EO p0) 0), (4, .int .i64 a6)] s') ?_ ?_
  ·exact ⟨oy ok, wy ok⟩
  ·rintro G7 hG8 rec9 a6 s' ih10 hF ⟨ok, hws⟩;refine Aw hws ?_;rw [Dv] at hF;refine JF ?_;refine Md ?_;refine VI ?_;refine K6 ?_;refine Bb rfl hF (fun hb11 hF => ?_) fun hb11 hF => ?_
   ·refine SW ?_;refine Vj ?_;refine cl (CM (fun _ h hF => L6 _ _ h hF) _ hF fun x12 _ hF => ?_);refine Vi ?_;refine UH ?_;refine Xg ?_;refine JF ?_;refine VV ?_;refine Bb rfl hF (fun hb13 hF => ?_) fun hb13 hF => ?_
    ·refine SH ?_;refine SF ?_;replace hF := hG8 _ (Ar hF);exact rt
    ·refine Eh ?_;refine MH ?_;refine IA ?_;refine ih10 x12.2.1 _ hF ?_;exact ⟨oy ok, wy ok⟩
   ·refine EI ?_;replace hF := hG8 _ (Ar hF);exact ⟨(), hF, oy ok, wy ok⟩
 ·rintro ⟨⟩ s' hF ⟨ok, hws⟩;refine Aw hws ?_;refine Xs ?_;exact rt
theorem Ig (p0 : List By8) {G : Bool -> Prop} (h : Heap) (hF : OptP (Et p0) G) : CallsA prog 75 [.str p0] h fun d h' => ∃ r, G r /\ d = .bool r /\ h' = h := by
 refine CallsA.ret ?_;refine AS func75 rfl Aah ntmps75 rfl (fun ok => ?_);rw [Et] at hF;refine ST ?_;refine Zm ?_;refine cl (CM (fun _ h hF => Lb _ h hF) _ hF fun x1 _ hF => ?_);refine Xk ?_;refine GI ?_;refine Xo ?_;refine E7 ?_;exact rt
theorem F0 (p0 : Ad) {G : Bool -> Prop} (h : Heap) (hF : OptP (CJ p0) G) : CallsA prog 72 [.agg (An p0)] h fun d h' => ∃ r, G r /\ d = .bool r /\ h' = h := by
 refine CallsA.ret ?_;refine AS func72 rfl Abh ntmps72 rfl (fun ok => ?_);rw [CJ] at hF;refine BL ?_;refine B1 rfl rfl rfl rfl ?_;refine O3 ?_;refine SK ?_;refine cl (CM (fun _ h hF => Jd _ h hF) _ hF fun x1 _ hF => ?_);refine Xq ?_;refine Ba (b := (!x1)) 5 12 (.bool ((!x1) || (decide (100 < (p0.URI.length : Int))))) (fun hb2 => ?_) (fun hb2 => ?_) ?_
 ·refine PV ?_;exact th
 ·refine Wb ?_;refine Ve ?_;refine Xv ?_;exact th
 refine D3 ?_;refine Bl 4 17 hF (fun J4 hb3 hF => ?_) (fun J4 hb3 hF => ?_) (fun v5 hF => ?_)
 ·refine LV ?_;exact tw
 ·refine Wb ?_;refine cl (CM (fun _ h hF => Ig _ h hF) _ hF fun x6 _ hF => ?_);refine IW ?_;exact tw
 ·refine D3 ?_;refine Ba (b := v5) 4 22 (.bool (v5 || (p0.URI == [104, 116, 116, 112, 58, 47, 47, 119, 119, 119, 46, 119, 51, 46, 111, 114, 103, 47, 50, 48, 48, 48, 47, 120, 109, 108, 110, 115, 47]))) (fun hb7 => ?_) (fun hb7 => ?_) ?_
  ·refine LV ?_;exact th
  ·refine Wb ?_;refine K5 ?_;refine IW ?_;exact th
  refine E7 ?_;exact rt
theorem IP (p0 : Ae) {G : Bool -> Prop} (h : Heap) (hF : OptP (Dt p0) G) : CallsA prog 71 [.agg (Af p0)] h fun d h' => ∃ r, G r /\ d = .bool r /\ h' = h := by
 refine CallsA.ret ?_;refine AS func71 rfl ZA ntmps71 rfl (fun ok => ?_);rw [Dt] at hF;refine BL ?_;refine B1 rfl rfl rfl rfl ?_;refine O3 ?_;refine Xm ?_;refine Ap rfl (A3 (vs := An p0.Name) De AV rfl rfl) ?_;refine cl (CM (fun _ h hF => F0 _ h hF) _ hF fun x1 _ hF => ?_);refine D3 ?_;refine Ba (b := x1) 5 11 (.bool (x1 || ((p0.Name.URI == (⟨[], [120, 109, 108, 110, 115]⟩ : Ad).URI) && ((p0.Name.Local == (⟨[], [120, 109, 108, 110, 115]⟩ : Ad).Local) && true)))) (fun hb2 => ?_) (fun hb2 => ?_) ?_
 ·refine PV ?_;exact th
 ·refine EH ?_;refine Xm ?_;refine BQ ?_;refine Ap rfl (A3 (vs := An p0.Name) De AV rfl rfl) ?_;refine BQ ?_;refine Ef (v := .agg (An (⟨[], [120, 109, 108, 110, 115]⟩ : Ad))) (II GR GZ rfl) ?_;refine BQ ?_;refine Eg rfl rfl (XQ (b := ((p0.Name.URI == (⟨[], [120, 109, 108, 110, 115]⟩ : Ad).URI) && ((p0.Name.Local == (⟨[], [120, 109, 108, 110, 115]⟩ : Ad).Local) && true))) Fj EZ (by simp only [An, Fb, FD, JD, EZ, Fj, AP, Ak, Bs, AP, Ak, Bs, Gx, Gr, FG, Gv, FF, FE, Fd, List.drop_zero, List.drop_succ_cons, bi, bj, List.take_succ_cons, List.take_zero, Option.isSome_some, if_true, ba, Option.map_some, Nat.reduceAdd, Nat.reduceLeDiff])) ?_;refine IW ?_;exact th
 refine E7 ?_;exact rt
theorem Ih (p0 : List By8) (p1 : List By8) {G : Bool -> Prop} (h : Heap) (hF : OptP (Cv p0 p1) G) : CallsA prog 74 [.str p0, .str p1] h fun d h' => ∃ r, G r /\ d = .bool r /\ h' = h := by
 refine CallsA.ret ?_;refine AS func74 rfl Aaz ntmps74 rfl (fun ok => ?_);rw [Cv] at hF;refine NB ?_;refine TH ?_;refine JW_step ?_;refine Vl 0 rfl hF (fun (a49 : Int) s' => Zs h [] 123 [(0, .str p0), (1, .str p1), (5, .int .i64 a49)] s') ?_ ?_
 ·rintro a49 s' hF ⟨ok, hws⟩;refine Aw hws ?_;refine WJ ?_;refine PF rfl Bs (JS rfl) Qh hF (fun x52 _ hF => ?_);refine JN ?_;refine WJ ?_;refine PF rfl Bs (JS rfl) Qh hF (fun x53 _ hF => ?_);refine JN ?_;refine AF hF (fun (a80 : (List By8)) s' => Zs h [] 123 [(1, .str a80)] s') (fun J81 hF => ?_) ?_
  ·refine I0 ?_;refine Xy ok rfl Bs ?_;intro i82 hi82 ok;refine XP ?_;refine Bk (σ := (List By8) × Nat) hF (fun (v : (List By8) × Nat) s' => match v with | (a83, a84) => Zs h [(i82, .iter x52 a84)] 123 [(1, .str a83), (67, .ptr i82 0)] s') ?_ ?_
   ·exact ⟨oy ok, wy ok⟩
   ·rintro G85 hG86 rec87 ⟨a83, a84⟩ s' ih88 hF ⟨ok, hws⟩;refine Aw hws ?_;rw [AB] at hF;refine BL ?_;refine Yf (j := 0) ok rfl rfl hi82 hF (fun _ ok hF => ?_) (fun hF => ?_)
    ·refine UH ?_;refine SI ?_;refine Ac1 rfl rfl ?_;refine SW ?_;refine BL ?_;refine UH ?_;refine IA ?_;refine IR ?_;refine I0 ?_;refine R1 ?_;refine Sa ?_;refine Bb rfl hF (fun hb89 hF => ?_) fun hb89 hF => ?_
     ·refine G5 ?_;replace hF := hG86 _ (Ar hF);exact rt
     ·refine Eh ?_;refine I0 ?_;refine cl (L_DecodeRuneInString_ok _ hF fun x90 _ hF => ?_);refine Xk ?_;refine WJ ?_;refine PF rfl Bs (JS rfl) Qh hF (fun x91 _ hF => ?_);refine JN ?_;refine SG ?_;refine Sa ?_;refine Bb rfl hF (fun hb92 hF => ?_) fun hb92 hF => ?_
      ·refine EI ?_;refine ih88 (x91, (a84 + wdS x52 a84)) _ hF ?_;exact ⟨oy ok, wy ok⟩
      ·refine Eh ?_;refine AF hF (fun (v : Int × Int) s' => match v with | (a94, a95) => Zs h [(i82, .iter x52 (a84 + wdS x52 a84))] 123 [(1, .str x91), (10, .int .i32 a94), (11, .int .i32 a95), (67, .ptr i82 0)] s') (fun J96 hF => ?_) ?_
       ·refine SH ?_;refine K6 ?_;refine Bb rfl hF (fun hb97 hF => ?_) fun hb97 hF => ?_
        ·refine MH ?_;refine H8 ?_;refine SO ?_;exact ⟨(x90.1, (rnS x52 a84)), hF, oy ok, wy ok⟩
        ·refine Eh ?_;exact ⟨((rnS x52 a84), x90.1), hF, oy ok, wy ok⟩
       ·rintro ⟨a94, a95⟩ s' hF ⟨ok, hws⟩;refine Aw hws ?_;refine JF ?_;refine K6 ?_;refine Bb rfl hF (fun hb98 hF => ?_) fun hb98 hF => ?_
        ·refine JF ?_;refine TF ?_;refine D3 ?_;refine Ba (b := (decide (65 <= a94))) 3 97 (.bool ((decide (65 <= a94)) && (decide (a94 <= 90)))) (fun hb99 => ?_) (fun hb99 => ?_) ?_
         ·refine Qq ?_;exact th
         ·refine JG ?_;exact th
         refine D3 ?_;refine Ba (b := ((decide (65 <= a94)) && (decide (a94 <= 90)))) 6 104 (.bool (((decide (65 <= a94)) && (decide (a94 <= 90))) && (a95 == (IntKind.wrap .i32 ((IntKind.wrap .i32 (a94 + 97)) - 65))))) (fun hb100 => ?_) (fun hb100 => ?_) ?_
         ·refine Li ?_;refine QD ?_;refine Qy ?_;refine BQ ?_;refine Pe ?_;refine SJ ?_;exact th
         ·refine LK ?_;refine Ow ?_;exact th
         refine C1 ?_;refine Bb rfl hF (fun hb101 hF => ?_) fun hb101 hF => ?_
         ·refine EI ?_;refine ih88 (x91, (a84 + wdS x52 a84)) _ hF ?_;exact ⟨oy ok, wy ok⟩
         ·refine UY ?_;replace hF := hG86 _ (Ar hF);exact rt
        ·refine Eh ?_;refine GI ?_;refine cl (L_SimpleFold_ok _ hF fun x102 _ hF => ?_);refine IA ?_;refine AF hF (fun (a107 : Int) s' => Zs h [(i82, .iter x52 (a84 + wdS x52 a84))] 123 [(1, .str x91), (11, .int .i32 a95), (13, .int .i32 a107), (67, .ptr i82 0)] s') (fun J108 hF => ?_) ?_
         ·refine JJ ?_;refine Bk (σ := Int) hF (fun (a109 : Int) s' => Zs h [(i82, .iter x52 (a84 + wdS x52 a84))] 123 [(1, .str x91), (10, .int .i32 a94), (11, .int .i32 a95), (13, .int .i32 a109), (67, .ptr i82 0)] s') ?_ ?_
          ·exact ⟨oy ok, wy ok⟩
          ·rintro G110 hG111 rec112 a109 s' ih113 hF ⟨ok, hws⟩;refine Aw hws ?_;rw [Bo] at hF;refine SG ?_;refine Vq ?_;refine Ba (b := (a109 != a94)) 4 114 (.bool ((a109 != a94) && (decide (a109 < a95)))) (fun hb114 => ?_) (fun hb114 => ?_) ?_
           ·refine Li ?_;refine QD ?_;refine K6 ?_;refine MI ?_;exact th
           ·refine Ow ?_;exact th
           refine C1 ?_;refine Bb rfl hF (fun hb115 hF => ?_) fun hb115 hF => ?_
           ·refine SW ?_;refine MH ?_;refine cl (L_SimpleFold_ok _ hF fun x116 _ hF => ?_);refine IA ?_;refine ih113 x116 _ hF ?_;exact ⟨oy ok, wy ok⟩
           ·refine EI ?_;replace hF := hG111 _ (Ar hF);exact ⟨a109, hF, oy ok, wy ok⟩
         ·rintro a107 s' hF ⟨ok, hws⟩;refine Aw hws ?_;refine SG ?_;refine Sa ?_;refine Bb rfl hF (fun hb117 hF => ?_) fun hb117 hF => ?_
          ·refine EI ?_;refine ih88 (x91, (a84 + wdS x52 a84)) _ hF ?_;exact ⟨oy ok, wy ok⟩
          ·refine UY ?_;replace hF := hG86 _ (Ar hF);exact rt
    ·refine UH ?_;refine SI ?_;refine Ac7 rfl rfl ?_;refine EI ?_;replace hF := hG86 _ (Ar hF);exact ⟨a83, hF, oy ok, wy ok⟩
  ·rintro a80 s' hF ⟨ok, hws⟩;refine Aw hws ?_;refine I0 ?_;refine R1 ?_;refine Uz ?_;refine E7 ?_;exact rt
 ·intro J50 hJ51 hF;refine SD ?_;refine AF hF (fun (_ : Unit) s' => Zs h [] 123 [(0, .str p0), (1, .str p1)] s') (fun J142 hF => ?_) ?_
  ·refine I0 ?_;refine R1 ?_;refine UB ?_;refine ZZ rfl rfl ?_;refine IA ?_;refine JJ ?_;refine Bk (σ := Int) hF (fun (a143 : Int) s' => Zs h [] 123 [(0, .str p0), (1, .str p1), (5, .int .i64 a143), (6, .int .i64 (if (p1.length : Int) < (p0.length : Int) then (p1.length : Int) else (p0.length : Int)))] s') ?_ ?_
   ·exact ⟨oy ok, wy ok⟩
   ·rintro G144 hG145 rec146 a143 s' ih147 hF ⟨ok, hws⟩;refine Aw hws ?_;rw [AA] at hF;refine SG ?_;refine K6 ?_;refine Bb rfl hF (fun hb148 hF => ?_) fun hb148 hF => ?_
    ·refine Eh ?_;refine AF hF (fun (_ : Unit) s' => Zs h [] 123 [(0, .str p0), (1, .str p1), (5, .int .i64 a143), (6, .int .i64 (if (p1.length : Int) < (p0.length : Int) then (p1.length : Int) else (p0.length : Int)))] s') (fun J160 hF => ?_) ?_
     ·refine JJ ?_;refine WJ ?_;refine Jc rfl rfl Bs hF (fun x161 _ hF => ?_);refine IA ?_;refine WJ ?_;refine Jc rfl rfl Bs hF (fun x162 _ hF => ?_);refine IA ?_;refine SG ?_;refine Eg rfl rfl (Aeo ..) ?_;refine UM ?_;refine C1 ?_;refine Bb rfl hF (fun hb163 hF => ?_) fun hb163 hF => ?_
      ·refine V3 ?_
       repeat (first | with_reducible refine Exit.sel_goto ?_ | with_reducible refine Exit.blk_goto ?_)
       refine SQ rfl ?_;replace hF := hG145 _ (Ar hF);refine hJ51 a143 _ hF ?_;exact ⟨oy ok, wy ok⟩
      ·refine U6 ?_;refine SH ?_;refine Sa ?_;refine Bb rfl hF (fun hb164 hF => ?_) fun hb164 hF => ?_
       ·refine EI ?_;exact ⟨(), hF, oy ok, wy ok⟩
       ·refine Eh ?_;refine AF hF (fun (v : Int × Int) s' => match v with | (a166, a167) => Zs h [] 123 [(0, .str p0), (1, .str p1), (5, .int .i64 a143), (6, .int .i64 (if (p1.length : Int) < (p0.length : Int) then (p1.length : Int) else (p0.length : Int))), (7, .int .u8 a166), (8, .int .u8 a167)] s') (fun J168 hF => ?_) ?_
        ·refine SH ?_;refine K6 ?_;refine Bb rfl hF (fun hb169 hF => ?_) fun hb169 hF => ?_
         ·refine MH ?_;refine H8 ?_;refine SO ?_;exact ⟨((x162.toNat : Int), (x161.toNat : Int)), hF, oy ok, wy ok⟩
         ·refine Eh ?_;exact ⟨((x161.toNat : Int), (x162.toNat : Int)), hF, oy ok, wy ok⟩
        ·rintro ⟨a166, a167⟩ s' hF ⟨ok, hws⟩;refine Aw hws ?_;refine JF ?_;refine TF ?_;refine D3 ?_;refine Ba (b := (decide (65 <= a166))) 3 47 (.bool ((decide (65 <= a166)) && (decide (a166 <= 90)))) (fun hb170 => ?_) (fun hb170 => ?_) ?_
         ·refine Qq ?_;exact th
         ·refine JG ?_;exact th
         refine D3 ?_;refine Ba (b := ((decide (65 <= a166)) && (decide (a166 <= 90)))) 6 54 (.bool (((decide (65 <= a166)) && (decide (a166 <= 90))) && (a167 == (IntKind.wrap .u8 ((IntKind.wrap .u8 (a166 + 97)) - 65))))) (fun hb171 => ?_) (fun hb171 => ?_) ?_
         ·refine Li ?_;refine QD ?_;refine Qy ?_;refine BQ ?_;refine Pe ?_;refine SJ ?_;exact th
         ·refine LK ?_;refine Ow ?_;exact th
         refine C1 ?_;refine Bb rfl hF (fun hb172 hF => ?_) fun hb172 hF => ?_
         ·refine EI ?_;exact ⟨(), hF, oy ok, wy ok⟩
         ·refine UY ?_;replace hF := hG145 _ (Ar hF);exact rt
     ·rintro ⟨⟩ s' hF ⟨ok, hws⟩;refine Aw hws ?_;refine PZ ?_;refine ih147 (IntKind.wrap .i64 (a143 + 1)) _ hF ?_;exact ⟨oy ok, wy ok⟩
    ·refine EI ?_;replace hF := hG145 _ (Ar hF);exact ⟨(), hF, oy ok, wy ok⟩
  ·rintro ⟨⟩ s' hF ⟨ok, hws⟩;refine Aw hws ?_;refine IR ?_;refine I0 ?_;refine R1 ?_;refine UB ?_;refine Uz ?_;refine E7 ?_;exact rt
theorem Jj (p0 : Ab) {G : Bool -> Prop} (h : Heap) (hF : OptP (BX p0) G) : CallsA prog 35 [.agg (Ac p0)] h fun d h' => ∃ r, G r /\ d = .bool r /\ h' = h := by
 refine CallsA.ret ?_;refine AS func35 rfl ZL ntmps35 rfl (fun ok => ?_);rw [BX] at hF;refine BL ?_;refine B1 (v := .agg (Ac p0)) (cs := Ac p0) rfl rfl rfl rfl ?_;refine O3 ?_;refine S_a (v := .fn (.func 71) [] []) rfl ?_;refine C1 ?_;refine OE ?_;refine Ax rfl Bd AQ (by rw [Aa]; rfl) ?_;refine Ap rfl (Az CL AQ (congrArg (List.drop 0) (Aa p0))) ?_;refine VD ?_;refine Bb rfl hF (fun hb1 hF => ?_) fun hb1 hF => ?_
 ·refine BL ?_;refine Ax rfl BJ AV (by rw [Aa]; rfl) ?_;refine Ap rfl (A3 (vs := An p0.Name) De AV (by rw [Aa]; rfl) (by rw [Aa]; rfl)) ?_;refine cl (CM (fun _ h hF => F0 _ h hF) _ hF fun x2 _ hF => ?_);refine D3 ?_;refine Bl 5 16 hF (fun J4 hb3 hF => ?_) (fun J4 hb3 hF => ?_) (fun v5 hF => ?_)
  ·refine PV ?_;exact tw
  ·refine EH ?_;refine Ax rfl Bc AD (by rw [Aa]; rfl) ?_;refine BQ ?_;refine Ap rfl (Az Cm AD (congrArg (List.drop 3) (Aa p0))) ?_;refine BQ ?_;refine S_m (v := .fn (.func 71) [] []) rfl ?_;refine BQ ?_;refine cl (BE (f1 := 71) (fi1 := []) (ca1 := []) (fun z0 G h hF => IP z0 h hF) _ hF fun x6 _ hF => ?_);refine IW ?_;exact tw
  ·refine E7 ?_;exact rt
 ·refine PC ?_;refine Bb rfl hF (fun hb7 hF => ?_) fun hb7 hF => ?_
  ·refine BL ?_;refine Ax rfl BJ AV (by rw [Aa]; rfl) ?_;refine Ax rfl EL Ak (by rw [Aa]; rfl) ?_;refine Ap rfl (Az AP Ak (congrArg (List.drop 1) (congrArg (List.drop 1) (Aa p0)))) ?_;refine cl (CM (fun _ h hF => Jd _ h hF) _ hF fun x8 _ hF => ?_);refine Xq ?_;refine Bl 5 29 hF (fun J10 hb9 hF => ?_) (fun J10 hb9 hF => ?_) (fun v11 hF => ?_)
   ·refine PV ?_;exact tw
   ·refine EH ?_;refine Ax rfl BJ AV (by rw [Aa]; rfl) ?_;refine BQ ?_;refine Ax rfl EL Ak (by rw [Aa]; rfl) ?_;refine BQ ?_;refine Ap rfl (Az AP Ak (congrArg (List.drop 1) (congrArg (List.drop 1) (Aa p0)))) ?_;refine BQ ?_;refine cl (CM (fun _ h hF => Ih _ _ h hF) _ hF fun x12 _ hF => ?_);refine IW ?_;exact tw
   ·refine E7 ?_;exact rt
  ·refine UY ?_;exact rt
theorem JB (p0 : Ae) {G : Bool -> Prop} (h : Heap) (hF : OptP (DS p0) G) : CallsA prog 76 [.agg (Af p0)] h fun d h' => ∃ r, G r /\ d = .bool r /\ h' = h := by
 refine CallsA.ret ?_;refine AS func76 rfl Abm ntmps76 rfl (fun ok => ?_);rw [DS] at hF;refine BL ?_;refine B1 rfl rfl rfl rfl ?_;refine O3 ?_;refine Ax rfl Jz Ak rfl ?_;refine OI ?_;refine cl (CM (fun _ h hF => Ig _ h hF) _ hF fun x1 _ hF => ?_);refine E7 ?_;exact rt
theorem Ko (p0 : Ab) {G : Bool -> Prop} (h : Heap) (hF : OptP (CH p0) G) : CallsA prog 36 [.agg (Ac p0)] h fun d h' => ∃ r, G r /\ d = .bool r /\ h' = h := by
 refine CallsA.ret ?_;refine AS func36 rfl Abb ntmps36 rfl (fun ok => ?_);rw [CH] at hF;refine BL ?_;refine B1 (v := .agg (Ac p0)) (cs := Ac p0) rfl rfl rfl rfl ?_;refine O3 ?_;refine Ax rfl A1 Ak (by rw [Aa]; rfl) ?_;refine Ap rfl (Az AP Ak (congrArg (List.drop 5) (Aa p0))) ?_;refine cl (CM (fun _ h hF => Ig _ h hF) _ hF fun x1 _ hF => ?_);refine D3 ?_;refine Bl 4 10 hF (fun J3 hb2 hF => ?_) (fun J3 hb2 hF => ?_) (fun v4 hF => ?_)
 ·refine LV ?_;exact tw
 ·refine EH ?_;refine Ax rfl Bc AD (by rw [Aa]; rfl) ?_;refine BQ ?_;refine Ap rfl (Az Cm AD (congrArg (List.drop 3) (Aa p0))) ?_;refine BQ ?_;refine cl (BE (f1 := 76) (fi1 := []) (ca1 := []) (fun z0 G h hF => JB z0 h hF) _ hF fun x5 _ hF => ?_);refine IW ?_;exact tw
 ·refine E7 ?_;exact rt
theorem DL (p0 : List By8) {G : Bool -> Prop} (h : Heap) (hF : OptP (Cb p0) G) : CallsA prog 158 [.str p0] h fun d h' => ∃ r, G r /\ d = .bool r /\ h' = h := by
 refine CallsA.ret ?_;refine AS func158 rfl XD ntmps158 rfl (fun ok => ?_);rw [Cb] at hF;refine ST ?_;refine IZ ?_;refine QS ?_;refine E7 ?_;exact rt
theorem E5 (p0 : List By8) (p1 : List By8) {G : Int -> Prop} (h : Heap) (hF : OptP (CI p0 p1) G) : CallsA prog 112 [.str p0, .str p1] h fun d h' => ∃ r, G r /\ d = .int .i64 r /\ h' = h := by
 refine CallsA.ret ?_;refine AS func112 rfl Yw ntmps112 rfl (fun ok => ?_);rw [CI] at hF;refine SD ?_;refine I0 ?_;refine cl (CM (fun _ h hF => DL _ h hF) _ hF fun x1 _ hF => ?_);refine Fs ?_;refine I0 ?_;refine cl (CM (fun _ h hF => DL _ h hF) _ hF fun x2 _ hF => ?_);refine Fs ?_;refine OE ?_;refine TP ?_;refine Bb rfl hF (fun hb3 hF => ?_) fun hb3 hF => ?_
 ·refine OE ?_;refine TP ?_;refine Bb rfl hF (fun hb4 hF => ?_) fun hb4 hF => ?_
  ·refine Ld ?_;exact rt
  ·refine Eh ?_;refine Ld ?_;exact rt
 ·refine U6 ?_;refine BL ?_;refine TP ?_;refine Bb rfl hF (fun hb5 hF => ?_) fun hb5 hF => ?_
  ·refine Ld ?_;exact rt
  ·refine U6 ?_;refine I0 ?_;refine IZ ?_;refine Eg rfl rfl Nx ?_;refine C1 ?_;refine Bb rfl hF (fun hb6 hF => ?_) fun hb6 hF => ?_
   ·refine Ld ?_;exact rt
   ·refine U6 ?_;refine I0 ?_;refine IZ ?_;refine Eg rfl rfl Yh ?_;refine C1 ?_;refine Bb rfl hF (fun hb7 hF => ?_) fun hb7 hF => ?_
    ·refine Ld ?_;exact rt
    ·refine Eh ?_;refine Ld ?_;exact rt
theorem Ln (p0 : List Int) {G : Int -> Prop} (h : Heap) (hF : OptP (Fk p0) G) : CallsA prog 111 [.sl 1 (List.map Q0 p0) 0] h fun d h' => ∃ r, G r /\ d = .int .i64 r /\ h' = h := by
 refine CallsA.ret ?_;refine AS func111 rfl YJ ntmps111 rfl (fun ok => ?_);rw [Fk] at hF;refine SD ?_;refine SD ?_;refine AF hF (fun (_ : Unit) s' => Zs h [] 18 [(3, .int .i64 0)] s') (fun J5 hF => ?_) ?_
 ·refine Jm ?_;refine KS rfl Nc ?_;refine Wr ?_;refine Bk (σ := Int) hF (fun (a6 : Int) s' => Zs h [] 18 [(3, .int .i64 0), (6, .sl 1 (List.map Q0 p0) 0), (7, .int .i64 (p0.length : Int)), (8, .int .i64 a6)] s') ?_ ?_
  ·exact ⟨oy ok, wy ok⟩
  ·rintro G7 hG8 rec9 a6 s' ih10 hF ⟨ok, hws⟩;refine Aw hws ?_;rw [BV] at hF;refine GG ?_;refine Bb rfl hF (fun hb11 hF => ?_) fun hb11 hF => ?_
   ·refine WB ?_;refine BL ?_;refine Fi rfl rfl Nc AQ hF (fun x12 _ hF => ?_);refine Ap rfl (Az CL AQ rfl) ?_;refine IA ?_;refine SH ?_;refine VV ?_;refine Bb rfl hF (fun hb13 hF => ?_) fun hb13 hF => ?_
    ·refine GI ?_;refine Qu ?_;replace hF := hG8 _ (Ar hF);exact rt
    ·refine NE ?_;refine ih10 (IntKind.wrap .i64 (a6 + 1)) _ hF ?_;exact ⟨oy ok, wy ok⟩
   ·refine EI ?_;replace hF := hG8 _ (Ar hF);exact ⟨(), hF, oy ok, wy ok⟩
 ·rintro ⟨⟩ s' hF ⟨ok, hws⟩;refine Aw hws ?_;refine GI ?_;refine Qu ?_;exact rt
theorem Le (p0 : Ad) (p1 : Ad) {G : Int -> Prop} (h : Heap) (hF : OptP (Fm p0 p1) G) : CallsA prog 77 [.agg (An p0), .agg (An p1)] h fun d h' => ∃ r, G r /\ d = .int .i64 r /\ h' = h := by
 refine CallsA.ret ?_;refine AS func77 rfl ZM ntmps77 rfl (fun ok => ?_);rw [Fm] at hF;refine BL ?_;refine B1 rfl rfl rfl rfl ?_;refine B1 rfl rfl rfl rfl ?_;refine IA ?_;refine IR ?_;refine MW (mdl [(6, 3), (8, 3), (11, 3), (13, 3)]) [0, 1, 2, 3, 5, 6, 7, 8, 4, 9, 10, 11, 12] [_, _, _, _, _, _, _, _, _, _, _, _, _] (by kernel_rfl) rfl rfl (by kernel_rfl) ?_;refine Uq ?_;refine Uq ?_;refine SK ?_;refine SK ?_;refine cl (CM (fun _ h hF => E5 _ _ h hF) _ hF fun x1 _ hF => ?_);refine cl (CM (fun _ h hF => E5 _ _ h hF) _ hF fun x2 _ hF => ?_);refine Dr (cs := [.int .i64 x1, .int .i64 x2]) (es := (List.map Q0 [x1, x2])) rfl RK rfl (by kernel_rfl) (by kernel_rfl) ?_;refine cl (CM (fun _ h hF => Ln _ h hF) _ hF fun x3 _ hF => ?_);refine Qu ?_;exact rt
theorem I9 (p0 : Ab) {G : Bool -> Prop} (h : Heap) (hF : OptP (Bq p0) G) : CallsA prog 37 [.agg (Ac p0)] h fun d h' => ∃ r, G r /\ d = .bool r /\ h' = h := by
 refine CallsA.ret ?_;refine AS func37 rfl Abq ntmps37 rfl (fun ok => ?_);rw [Bq] at hF;refine BL ?_;refine B1 (v := .agg (Ac p0)) (cs := Ac p0) rfl rfl rfl rfl ?_;refine Fs ?_;refine AF hF (fun (_ : Unit) s' => Zs h [] 30 [] s') (fun J15 hF => ?_) ?_
 ·refine BL ?_;refine Ax rfl Bc AD (by rw [Aa]; rfl) ?_;refine Ap rfl (Az Cm AD (congrArg (List.drop 3) (Aa p0))) ?_;refine SC ?_;refine Bk (σ := Int) hF (fun (a16 : Int) s' => Zs h [] 30 [(1, .iptr (Ac p0)), (6, .int .i64 (p0.Attrs.length : Int)), (7, .int .i64 a16)] s') ?_ ?_
  ·exact ⟨oy ok, wy ok⟩
  ·rintro G17 hG18 rec19 a16 s' ih20 hF ⟨ok, hws⟩;refine Aw hws ?_;rw [BZ] at hF;refine GG ?_;refine Bb rfl hF (fun hb21 hF => ?_) fun hb21 hF => ?_
   ·refine Tm ?_;refine AF hF (fun (a27 : Bool) s' => Zs h [] 30 [(1, .iptr (Ac p0)), (6, .int .i64 (p0.Attrs.length : Int)), (7, .int .i64 a16), (28, .bool a27)] s') (fun J28 hF => ?_) ?_
    ·refine MT (mdl [(14, 3), (19, 3), (21, 3), (25, 3)]) (by kernel_rfl) (by kernel_rfl) ?_;refine H8 ?_;refine Uc ?_;refine D3 ?_;refine Aba (b := (decide (0 < a16))) hF (fun hb29 hF => ?_) (fun hb30 hF => ?_)
     ·refine EH ?_;refine Ax rfl Bc AD (by rw [Aa]; rfl) ?_;refine BQ ?_;refine Ap rfl (Az Cm AD (congrArg (List.drop 3) (Aa p0))) ?_;refine BQ ?_;refine QD ?_;refine Pe ?_;refine BQ ?_;refine Fi rfl rfl DZ BB hF (fun x31 _ hF => ?_);refine BQ ?_;refine Xm ?_;refine BQ ?_;refine Ap rfl (A3 (vs := An x31.Name) De AV rfl rfl) ?_;refine BQ ?_;refine Ax rfl Bc AD (by rw [Aa]; rfl) ?_;refine BQ ?_;refine Ap rfl (Az Cm AD (congrArg (List.drop 3) (Aa p0))) ?_;refine BQ ?_;refine QD ?_;refine Fi rfl rfl DZ BB hF (fun x32 _ hF => ?_);refine BQ ?_;refine Xm ?_;refine BQ ?_;refine Ap rfl (A3 (vs := An x32.Name) De AV rfl rfl) ?_;refine BQ ?_;refine cl (CM (fun _ h hF => Le _ _ h hF) _ hF fun x33 _ hF => ?_);refine BQ ?_;refine UM ?_;refine Jw ?_;exact ⟨(decide (0 <= x33)), hF, oy ok, wy ok⟩
     ·refine Lp ?_;refine Lp ?_;refine Lp ?_;refine Ow ?_;exact ⟨false, hF, oy ok, wy ok⟩
    ·rintro a27 s' hF ⟨ok, hws⟩;refine Aw hws ?_;refine Bb rfl hF (fun hb34 hF => ?_) fun hb34 hF => ?_
     ·refine G5 ?_;replace hF := hG18 _ (Ar hF);exact rt
     ·refine NE ?_;refine ih20 (IntKind.wrap .i64 (a16 + 1)) _ hF ?_;exact ⟨oy ok, wy ok⟩
   ·refine EI ?_;replace hF := hG18 _ (Ar hF);exact ⟨(), hF, oy ok, wy ok⟩
 ·rintro ⟨⟩ s' hF ⟨ok, hws⟩;refine Aw hws ?_;refine G5 ?_;exact rt
theorem Gp (p0 : List By8) (p1 : List By8) {G : Bool -> Prop} (h : Heap) (hF : OptP (CF p0 p1) G) : CallsA prog 114 [.str p0, .str p1] h fun d h' => ∃ r, G r /\ d = .bool r /\ h' = h := by
 refine CallsA.ret ?_;refine AS func114 rfl XZ ntmps114 rfl (fun ok => ?_);rw [CF] at hF;refine ST ?_;refine R1 ?_;refine UB ?_;refine Zn ?_;refine Bl 10 20 hF (fun J2 hb1 hF => ?_) (fun J2 hb1 hF => ?_) (fun v3 hF => ?_)
 ·refine K4 ?_;refine Tn ?_;refine Ve ?_;refine Tn ?_;refine Ve ?_;refine Pe ?_;refine BQ ?_;refine PF rfl Bs (JS rfl) Qh hF (fun x4 _ hF => ?_);refine BQ ?_;refine Tn ?_;refine K5 ?_;refine Jw ?_;exact tw
 ·refine Xt ?_;refine Ow ?_;exact tw
 ·refine E7 ?_;exact rt
theorem HQ (p0 : List By8) (p1 : List By8) {G : Bool -> Prop} (h : Heap) (hF : OptP (Ct p0 p1) G) : CallsA prog 79 [.str p0, .str p1] h fun d h' => ∃ r, G r /\ d = .bool r /\ h' = h := by
 refine CallsA.ret ?_;refine AS func79 rfl Abx ntmps79 rfl (fun ok => ?_);rw [Ct] at hF;refine ST ?_;refine IZ ?_;refine cl (CM (fun _ h hF => Gp _ _ h hF) _ hF fun x1 _ hF => ?_);refine E7 ?_;exact rt
theorem IY (p0 : Ab) {G : Bool -> Prop} (h : Heap) (hF : OptP (BD p0) G) : CallsA prog 38 [.agg (Ac p0)] h fun d h' => ∃ r, G r /\ d = .bool r /\ h' = h := by
 refine CallsA.ret ?_;refine AS func38 rfl Aac ntmps38 rfl (fun ok => ?_);rw [BD] at hF;refine BL ?_;refine B1 (v := .agg (Ac p0)) (cs := Ac p0) rfl rfl rfl rfl ?_;refine Fs ?_;refine AF hF (fun (_ : Unit) s' => Zs h [] 71 [(1, .iptr (Ac p0))] s') (fun J11 hF => ?_) ?_
 ·refine BL ?_;refine Ax rfl AZ Au (by rw [Aa]; rfl) ?_;refine Ap rfl (Az BF Au (congrArg (List.drop 4) (Aa p0))) ?_;refine MK ?_;refine Bk (σ := Int) hF (fun (a12 : Int) s' => Zs h [] 71 [(1, .iptr (Ac p0)), (6, .sl 6 (List.map Ac p0.Kids) 0), (7, .int .i64 (p0.Kids.length : Int)), (8, .int .i64 a12)] s') ?_ ?_
  ·exact ⟨oy ok, wy ok⟩
  ·rintro G13 hG14 rec15 a12 s' ih16 hF ⟨ok, hws⟩;refine Aw hws ?_;rw [BW] at hF;refine GG ?_;refine Bb rfl hF (fun hb17 hF => ?_) fun hb17 hF => ?_
   ·refine Lj ?_;refine Ce (mdl [(4, 1)]) ?_;refine H8 ?_;refine Fi rfl rfl Ck Aj hF (fun x18 _ hF => ?_);refine Ap rfl (A3 (vs := Ac x18) At Aj (by rw [Aa]; rfl) (by rw [Aa]; rfl)) ?_;refine Ds ok rfl BP ?_;intro i19 hi19 ok;refine N2 ?_;refine HS (j := 0) (cs' := [.int .i64 x18.Kind, .str x18.Name.URI, .str x18.Name.Local, .sl 3 (List.map Af x18.Attrs) 0, .sl 6 (List.map Ac x18.Kids) 0, .str x18.Text]) ok rfl (congrArg D.agg (Aa x18)) rfl hi19 rfl Aj rfl rfl (fun ok => ?_);refine C1 ?_;refine GI ?_;refine Uc ?_;refine D3 ?_;refine Ba (b := (decide (0 < a12))) 4 19 (.bool ((decide (0 < a12)) && (x18.Kind == 3))) (fun hb20 => ?_) (fun hb20 => ?_) ?_
    ·refine EH ?_;refine Wo ?_;refine BQ ?_;refine TI ?_;refine SJ ?_;exact th
    ·refine Ow ?_;exact th
    refine D3 ?_;refine Bl 9 29 hF (fun J22 hb21 hF => ?_) (fun J22 hb21 hF => ?_) (fun v23 hF => ?_)
    ·refine EH ?_;refine Ax rfl AZ Au (by rw [Aa]; rfl) ?_;refine BQ ?_;refine Ap rfl (Az BF Au (congrArg (List.drop 4) (Aa p0))) ?_;refine BQ ?_;refine QD ?_;refine Pe ?_;refine BQ ?_;refine Fi rfl rfl Ck Aj hF (fun x24 _ hF => ?_);refine BQ ?_;refine Ax rfl Bd AQ (by rw [Aa]; rfl) ?_;refine BQ ?_;refine Ap rfl (Az CL AQ (congrArg (List.drop 0) (Aa x24))) ?_;refine SJ ?_;exact tw
    ·refine Lp ?_;refine Ss ?_;exact tw
    ·refine C1 ?_;refine Bb rfl hF (fun hb25 hF => ?_) fun hb25 hF => ?_
     ·refine G5 ?_;replace hF := hG14 _ (Ar hF);exact rt
     ·refine NE ?_;refine ih16 (IntKind.wrap .i64 (a12 + 1)) _ hF ?_;exact ⟨oy ok, wy ok⟩
   ·refine EI ?_;replace hF := hG14 _ (Ar hF);exact ⟨(), hF, oy ok, wy ok⟩
 ·rintro ⟨⟩ s' hF ⟨ok, hws⟩;refine Aw hws ?_;refine OE ?_;refine Ax rfl Bd AQ (by rw [Aa]; rfl) ?_;refine Ap rfl (Az CL AQ (congrArg (List.drop 0) (Aa p0))) ?_;refine VD ?_;refine Bb rfl hF (fun hb26 hF => ?_) fun hb26 hF => ?_
  ·refine BL ?_;refine Ax rfl A1 Ak (by rw [Aa]; rfl) ?_;refine Ap rfl (Az AP Ak (congrArg (List.drop 5) (Aa p0))) ?_;refine K5 ?_;refine E7 ?_;exact rt
  ·refine PC ?_;refine Bb rfl hF (fun hb27 hF => ?_) fun hb27 hF => ?_
   ·refine BL ?_;refine Ax rfl A1 Ak (by rw [Aa]; rfl) ?_;refine Ap rfl (Az AP Ak (congrArg (List.drop 5) (Aa p0))) ?_;refine cl (L_Contains_ok _ hF fun x28 _ hF => ?_);refine D3 ?_;refine Bl 4 47 hF (fun J30 hb29 hF => ?_) (fun J30 hb29 hF => ?_) (fun v31 hF => ?_)
    ·refine LV ?_;exact tw
    ·refine EH ?_;refine Ax rfl A1 Ak (by rw [Aa]; rfl) ?_;refine BQ ?_;refine Ap rfl (Az AP Ak (congrArg (List.drop 5) (Aa p0))) ?_;refine BQ ?_;refine cl (CM (fun _ h hF => HQ _ _ h hF) _ hF fun x32 _ hF => ?_);refine IW ?_;exact tw
    ·refine D3 ?_;refine Bl 4 52 hF (fun J34 hb33 hF => ?_) (fun J34 hb33 hF => ?_) (fun v35 hF => ?_)
     ·refine LV ?_;exact tw
     ·refine EH ?_;refine Ax rfl A1 Ak (by rw [Aa]; rfl) ?_;refine BQ ?_;refine Ap rfl (Az AP Ak (congrArg (List.drop 5) (Aa p0))) ?_;refine BQ ?_;refine cl (L_Contains_ok _ hF fun x36 _ hF => ?_);refine IW ?_;exact tw
     ·refine E7 ?_;exact rt
   ·refine PC ?_;refine Bb rfl hF (fun hb37 hF => ?_) fun hb37 hF => ?_
    ·refine AF hF (fun (a45 : Bool) s' => Zs h [] 71 [(2, .bool a45)] s') (fun J46 hF => ?_) ?_
     ·refine MT (mdl [(56, 3), (60, 3), (65, 3), (67, 3)]) (by kernel_rfl) (by kernel_rfl) ?_;refine Ax rfl A1 Ak (by rw [Aa]; rfl) ?_;refine Ap rfl (Az AP Ak (congrArg (List.drop 5) (Aa p0))) ?_;refine cl (L_Contains_ok _ hF fun x47 _ hF => ?_);refine D3 ?_;refine Aba (b := x47) hF (fun hb48 hF => ?_) (fun hb49 hF => ?_)
      ·refine LN ?_;refine Abr ?_;refine D3 ?_;refine WZ rfl rfl rfl ?_;refine YO ?_;refine YO ?_;refine YO ?_;refine YO ?_;refine YO ?_;refine Zo ?_;refine Ru (v := .bool _) rfl rfl rfl ?_;refine Fs ?_;exact ⟨true, hF, oy ok, wy ok⟩
      ·refine EH ?_;refine Ax rfl A1 Ak (by rw [Aa]; rfl) ?_;refine BQ ?_;refine Ap rfl (Az AP Ak (congrArg (List.drop 5) (Aa p0))) ?_;refine BQ ?_;refine cl (L_Contains_ok _ hF fun x50 _ hF => ?_);refine C1 ?_;refine Z2 ?_;refine D3 ?_;refine Aba (b := x50) hF (fun hb51 hF => ?_) (fun hb52 hF => ?_)
       ·refine Xt ?_;refine Abr ?_;refine Fs ?_;exact ⟨true, hF, oy ok, wy ok⟩
       ·refine EH ?_;refine Ax rfl A1 Ak (by rw [Aa]; rfl) ?_;refine BQ ?_;refine Ap rfl (Az AP Ak (congrArg (List.drop 5) (Aa p0))) ?_;refine BQ ?_;refine Ax rfl A1 Ak (by rw [Aa]; rfl) ?_;refine BQ ?_;refine Ap rfl (Az AP Ak (congrArg (List.drop 5) (Aa p0))) ?_;refine BQ ?_;refine cl (L_TrimLeft_ok _ hF fun x53 _ hF => ?_);refine BQ ?_;refine YB ?_;refine Z2 ?_;refine Fs ?_;exact ⟨(!(p0.Text == x53)), hF, oy ok, wy ok⟩
     ·rintro a45 s' hF ⟨ok, hws⟩;refine Aw hws ?_;refine SZ ?_;exact rt
    ·refine UY ?_;exact rt
theorem K9 (p0 : Ab) {G : Int -> Prop} (h : Heap) (hF : OptP (Cc p0) G) : CallsA prog 16 [.agg (Ac p0)] h fun d h' => ∃ r, G r /\ d = .int .i64 r /\ h' = h := by
 refine CallsA.ret ?_;refine AS func16 rfl Aa5 ntmps16 rfl (fun ok => ?_);rw [Cc] at hF;refine BL ?_;refine B1 (v := .agg (Ac p0)) (cs := Ac p0) rfl rfl rfl rfl ?_;refine IA ?_;refine BL ?_;refine Ap rfl (A3 (vs := Ac p0) At Aj (by rw [Aa]; rfl) (by rw [Aa]; rfl)) ?_;refine cl (CallsA.ghost (ds := [.agg (Ac p0), .snil]) 1 6 XS ok rfl fun r3 hr3 ok => Lk (p0 := p0) (p1 := []) (rp1 := r3) h [] hr3 ok hF fun x1 r2 _ hr2 ok hF => ?_);refine YP ?_;refine Gi 3 (v := .sl 6 (List.map Ac x1) 0) (.zero _ _ _) ?_;refine SI ?_;refine JJ ?_;refine BL ?_;refine Ax rfl Bd AQ (by rw [Aa]; rfl) ?_;refine Ap rfl (Az CL AQ (congrArg (List.drop 0) (Aa p0))) ?_;refine Vq ?_;refine Bl 3 16 hF (fun J5 hb4 hF => ?_) (fun J5 hb4 hF => ?_) (fun v6 hF => ?_)
 ·refine K8 ?_;exact tw
 ·refine S8 ?_;refine cl (As (f1 := 32) (fi1 := []) (ca1 := []) (fun z0 G h hF => M0 z0 h hF) _ hF fun x7 _ hF => ?_);refine IW ?_;exact tw
 ·refine Fs ?_;refine Bb rfl hF (fun hb8 hF => ?_) fun hb8 hF => ?_
  ·refine Ld ?_;exact rt
  ·refine BL ?_;refine Ap rfl (A3 (vs := Ac p0) At Aj (by rw [Aa]; rfl) (by rw [Aa]; rfl)) ?_;refine cl (CM (fun _ h hF => Mp _ _ h hF) _ hF fun x9 _ hF => ?_);refine Fs ?_;refine Bb rfl hF (fun hb10 hF => ?_) fun hb10 hF => ?_
   ·refine Ld ?_;exact rt
   ·refine Jm ?_;refine Ub ?_;refine Pe ?_;refine Uc ?_;refine D3 ?_;refine Bl 3 28 hF (fun J12 hb11 hF => ?_) (fun J12 hb11 hF => ?_) (fun v13 hF => ?_)
    ·refine K8 ?_;exact tw
    ·refine S8 ?_;refine cl (As (f1 := 34) (fi1 := []) (ca1 := []) (fun z0 G h hF => Lh z0 h hF) _ hF fun x14 _ hF => ?_);refine IW ?_;exact tw
    ·refine Fs ?_;refine Bb rfl hF (fun hb15 hF => ?_) fun hb15 hF => ?_
     ·refine Ld ?_;exact rt
     ·refine Jm ?_;refine cl (As (f1 := 35) (fi1 := []) (ca1 := []) (fun z0 G h hF => Jj z0 h hF) _ hF fun x16 _ hF => ?_);refine Fs ?_;refine Bb rfl hF (fun hb17 hF => ?_) fun hb17 hF => ?_
      ·refine Ld ?_;exact rt
      ·refine Jm ?_;refine cl (As (f1 := 36) (fi1 := []) (ca1 := []) (fun z0 G h hF => Ko z0 h hF) _ hF fun x18 _ hF => ?_);refine Fs ?_;refine Bb rfl hF (fun hb19 hF => ?_) fun hb19 hF => ?_
       ·refine Ld ?_;exact rt
       ·refine Jm ?_;refine cl (As (f1 := 37) (fi1 := []) (ca1 := []) (fun z0 G h hF => I9 z0 h hF) _ hF fun x20 _ hF => ?_);refine Fs ?_;refine Bb rfl hF (fun hb21 hF => ?_) fun hb21 hF => ?_
        ·refine Ld ?_;exact rt
        ·refine Jm ?_;refine cl (As (f1 := 38) (fi1 := []) (ca1 := []) (fun z0 G h hF => IY z0 h hF) _ hF fun x22 _ hF => ?_);refine Fs ?_;refine Bb rfl hF (fun hb23 hF => ?_) fun hb23 hF => ?_
         ·refine Ld ?_;exact rt
         ·refine Eh ?_;refine SD ?_;refine AF hF (fun (a34 : Int) s' => Zs h [] 56 [(4, .int .i64 a34)] s') (fun J35 hF => ?_) ?_
          ·refine BL ?_;refine Ax rfl AZ Au (by rw [Aa]; rfl) ?_;refine Ap rfl (Az BF Au (congrArg (List.drop 4) (Aa p0))) ?_;refine MK ?_;refine Bk (σ := Int × Int) hF (fun (v : Int × Int) s' => match v with | (a36, a37) => Zs h [] 56 [(4, .int .i64 a36), (42, .sl 6 (List.map Ac p0.Kids) 0), (43, .int .i64 (p0.Kids.length : Int)), (44, .int .i64 a37)] s') ?_ ?_
           ·exact ⟨oy ok, wy ok⟩
           ·rintro G38 hG39 rec40 ⟨a36, a37⟩ s' ih41 hF ⟨ok, hws⟩;refine Aw hws ?_;rw [A7] at hF;refine GG ?_;refine Bb rfl hF (fun hb42 hF => ?_) fun hb42 hF => ?_
            ·refine Eh ?_;refine AF hF (fun (a46 : Int) s' => Zs h [] 56 [(4, .int .i64 a46), (42, .sl 6 (List.map Ac p0.Kids) 0), (43, .int .i64 (p0.Kids.length : Int)), (44, .int .i64 a37)] s') (fun J47 hF => ?_) ?_
             ·refine JJ ?_;refine IR ?_;refine Ce (mdl [(6, 1)]) ?_;refine Fi rfl rfl Ck Aj hF (fun x48 _ hF => ?_);refine Ap rfl (A3 (vs := Ac x48) At Aj (by rw [Aa]; rfl) (by rw [Aa]; rfl)) ?_;refine Ds ok rfl BP ?_;intro i49 hi49 ok;refine HS (j := 0) (cs' := [.int .i64 x48.Kind, .str x48.Name.URI, .str x48.Name.Local, .sl 3 (List.map Af x48.Attrs) 0, .sl 6 (List.map Ac x48.Kids) 0, .str x48.Text]) ok rfl (congrArg D.agg (Aa x48)) rfl hi49 rfl Aj rfl rfl (fun ok => ?_);refine Ji ?_;refine Wo ?_;refine TI ?_;refine Sa ?_;refine Bb rfl hF (fun hb50 hF => ?_) fun hb50 hF => ?_
              ·refine PZ ?_;exact ⟨(IntKind.wrap .i64 (a36 + 1)), hF, oy ok, wy ok⟩
              ·refine Eh ?_;exact ⟨a36, hF, oy ok, wy ok⟩
             ·rintro a46 s' hF ⟨ok, hws⟩;refine Aw hws ?_;refine Np ?_;refine ih41 (a46, (IntKind.wrap .i64 (a37 + 1))) _ hF ?_;exact ⟨oy ok, wy ok⟩
            ·refine EI ?_;replace hF := hG39 _ (Ar hF);exact ⟨a36, hF, oy ok, wy ok⟩
          ·rintro a34 s' hF ⟨ok, hws⟩;refine Aw hws ?_;refine JF ?_;refine VV ?_;refine Bb rfl hF (fun hb51 hF => ?_) fun hb51 hF => ?_
           ·refine Ld ?_;exact rt
           ·refine Eh ?_;refine Ld ?_;exact rt
theorem KU {β : Type} {f : Int -> Option β} {G : β -> Prop} {R : D -> Heap -> Prop} {p0 : Ab} (h : Heap) (hF : OptP ((Cc p0).bind f) G) (hk : ∀ r, Cc p0 = some r -> OptP (f r) G -> R (.int .i64 r) h) : CallsA prog 16 [.agg (Ac p0)] h R := by
 obtain ⟨r0, hr, hF⟩ := AM hF;refine (K9 (G := fun r => r = r0) p0 h ⟨r0, hr, rfl⟩).mono ?_;rintro _ _ ⟨r, rfl, rfl, rfl⟩;exact hk _ hr hF
theorem Kv : ∀ (N : Nat) {p0 : Ab} {p1 : List (List By8)} {b1 : Nat} {G : (List (List By8)) -> Prop} (h : Heap) (O : List (Nat × AObj)) (zb1 : b1 = 0 -> p1 = []) (ok : OK h (mo b1 Am p1 :: O)) (hF : OptP (iter Ci N (p0, p1)) G), CallsA prog 62 [.agg (Ac p0), EC 1 b1 p1] (Hp h (mo b1 Am p1 :: O)) fun d h' => ∃ r, G r /\ ∃ rb : Nat, d = EC 1 rb r /\ (rb = 0 -> r = []) /\ OK h (mo rb Am r :: O) /\ h' = Hp h (mo rb Am r :: O) := by
 intro N
 induction N with
 | zero => intro p0 p1 b1 G h O zb1 ok hF; exact IH hF
 | succ N ih0 =>
 have self_ok : ∀ {β : Type} {f0 : (List (List By8)) -> Option β} {G : β -> Prop} {R : D -> Heap -> Prop} {p0 : Ab} {p1 : List (List By8)} {b1 : Nat} (h : Heap) (O : List (Nat × AObj)) (zb1 : b1 = 0 -> p1 = []) (ok : OK h (mo b1 Am p1 :: O)) (hF : OptP ((iter Ci N (p0, p1)).bind f0) G) (hk : ∀ r rb, iter Ci N (p0, p1) = some r -> (rb = 0 -> r = []) -> OK h (mo rb Am r :: O) -> OptP (f0 r) G -> R (EC 1 rb r) (Hp h (mo rb Am r :: O))), CallsA prog 62 [.agg (Ac p0), EC 1 b1 p1] (Hp h (mo b1 Am p1 :: O)) R := by
  intro β f0 G R p0 p1 b1 h O zb1 ok hF hk;obtain ⟨r0, hr, hF⟩ := AM hF;refine (ih0 (G := fun r => r = r0) h O zb1 ok ⟨r0, hr, rfl⟩).mono ?_;rintro _ _ ⟨r, rfl, rp, rfl, y0, ok', rfl⟩;exact hk _ _ hr y0 ok' hF
 clear ih0;intro p0 p1 b1 G h O zb1 ok hF;replace hF : OptP (Ci (iter Ci N) (p0, p1)) G := hF;refine CallsA.ret ?_;refine FL func62 rfl Aaq ntmps62 rfl ?_;rw [Ci] at hF;refine BL ?_;refine B1 (v := .agg (Ac p0)) (cs := Ac p0) rfl rfl rfl rfl ?_;refine S_a (v := .snil) rfl ?_;refine Gi 4 (v := .sl 1 (List.map Am []) 0) (.nil _) ?_;refine C1 ?_;refine AF hF (fun (a5 : (List (List By8))) s' => ∃ g4 : Nat, (g4 = 0 -> a5 = []) /\ Zs h (mo g4 Am a5 :: O) 49 [(1, EC 1 g4 a5), (2, .iptr (Ac p0))] s') (fun J6 hF => ?_) ?_
 ·refine BL ?_;refine Ax rfl BJ AV (by rw [Aa]; rfl) ?_;refine Ax rfl FC Ak (by rw [Aa]; rfl) ?_;refine Ap rfl (Az AP Ak (congrArg (List.drop 0) (congrArg (List.drop 1) (Aa p0)))) ?_;refine YB ?_;refine Bb rfl hF (fun hb7 hF => ?_) fun hb7 hF => ?_
  ·refine Ce (mdl [(18, 1)]) ?_;refine PH ?_;refine Ax rfl BJ AV (by rw [Aa]; rfl) ?_;refine Ax rfl FC Ak (by rw [Aa]; rfl) ?_;refine Ap rfl (Az AP Ak (congrArg (List.drop 0) (congrArg (List.drop 1) (Aa p0)))) ?_;refine Dr (cs := [.str p0.Name.URI]) (es := (List.map Am [p0.Name.URI])) rfl B3 rfl (by kernel_rfl) (by kernel_rfl) ?_;refine US (j := 0) (M := [p0.Name.URI]) ok zb1 rfl rfl UN (fun _ => rfl) rfl B3 GY hF ?_;intro u8 zu8 ok hF;obtain ⟨a9, ha9, hF⟩ := M3 hF;rw [<- ha9] at ok zu8;rw [<- ha9];refine Qw ?_;refine C1 ?_;exact ⟨a9, hF, u8, zu8, oy ok, wy ok⟩
  ·refine Eh ?_;exact ⟨p1, hF, b1, zb1, oy ok, wy ok⟩
 ·rintro a5 s' hF ⟨g4, zg4, ok, hws⟩;refine Aw hws ?_;refine AF hF (fun (a27 : (List (List By8))) s' => ∃ g26 : Nat, (g26 = 0 -> a27 = []) /\ Zs h (mo g26 Am a27 :: O) 49 [(1, EC 1 g26 a27), (2, .iptr (Ac p0))] s') (fun J28 hF => ?_) ?_
  ·refine BL ?_;refine Ax rfl Bc AD (by rw [Aa]; rfl) ?_;refine Ap rfl (Az Cm AD (congrArg (List.drop 3) (Aa p0))) ?_;refine SC ?_;refine Bk (σ := (List (List By8)) × Int) hF (fun (v : (List (List By8)) × Int) s' => match v with | (a30, a31) => ∃ g29 : Nat, (g29 = 0 -> a30 = []) /\ Zs h (mo g29 Am a30 :: O) 49 [(1, EC 1 g29 a30), (2, .iptr (Ac p0)), (20, .sl 3 (List.map Af p0.Attrs) 0), (21, .int .i64 (p0.Attrs.length : Int)), (22, .int .i64 a31)] s') ?_ ?_
   ·exact ⟨g4, zg4, oy ok, wy ok⟩
   ·rintro G32 hG33 rec34 ⟨a30, a31⟩ s' ih35 hF ⟨g29, zg29, ok, hws⟩;refine Aw hws ?_;rw [DE] at hF;refine GG ?_;refine Bb rfl hF (fun hb36 hF => ?_) fun hb36 hF => ?_
    ·refine Eh ?_;refine AF hF (fun (a43 : (List (List By8))) s' => ∃ g42 : Nat, (g42 = 0 -> a43 = []) /\ Zs h (mo g42 Am a43 :: O) 49 [(1, EC 1 g42 a43), (2, .iptr (Ac p0)), (20, .sl 3 (List.map Af p0.Attrs) 0), (21, .int .i64 (p0.Attrs.length : Int)), (22, .int .i64 a31)] s') (fun J44 hF => ?_) ?_
     ·refine JJ ?_;refine IR ?_;refine Ce (mdl [(6, 1)]) ?_;refine Fi rfl rfl DZ BB hF (fun x45 _ hF => ?_);refine Ap rfl (A3 (vs := Af x45) Fg BB rfl rfl) ?_;refine Ds ok rfl Ga ?_;intro i46 hi46 ok;refine HS (j := 0) (cs' := [.str x45.Name.URI, .str x45.Name.Local, .str x45.Value]) ok rfl rfl rfl hi46 rfl BB rfl rfl (fun ok => ?_);refine Ji ?_;refine UI ?_;refine Y1 ?_;refine RF ?_;refine YB ?_;refine Bb rfl hF (fun hb47 hF => ?_) fun hb47 hF => ?_
      ·refine Ce (mdl [(35, 1)]) ?_;refine PH ?_;refine UI ?_;refine Y1 ?_;refine RF ?_;refine Dr (cs := [.str x45.Name.URI]) (es := (List.map Am [x45.Name.URI])) rfl B3 rfl (by kernel_rfl) (by kernel_rfl) ?_;refine US (j := 1) (M := [x45.Name.URI]) ok zg29 rfl rfl UN (fun _ => rfl) rfl B3 GY hF ?_;intro u48 zu48 ok hF;obtain ⟨a49, ha49, hF⟩ := M3 hF;rw [<- ha49] at ok zu48;rw [<- ha49];refine Qw ?_;refine C1 ?_;exact ⟨a49, hF, u48, zu48, oy ok, wy ok⟩
      ·refine Eh ?_;exact ⟨a30, hF, g29, zg29, oy ok, wy ok⟩
     ·rintro a43 s' hF ⟨g42, zg42, ok, hws⟩;refine Aw hws ?_;refine Np ?_;refine ih35 (a43, (IntKind.wrap .i64 (a31 + 1))) _ hF ?_;exact ⟨g42, zg42, oy ok, wy ok⟩
    ·refine EI ?_;replace hF := hG33 _ (Ar hF);exact ⟨a30, hF, g29, zg29, oy ok, wy ok⟩
  ·rintro a27 s' hF ⟨g26, zg26, ok, hws⟩;refine Aw hws ?_;refine AF hF (fun (a59 : (List (List By8))) s' => ∃ g58 : Nat, (g58 = 0 -> a59 = []) /\ Zs h (mo g58 Am a59 :: O) 49 [(1, EC 1 g58 a59)] s') (fun J60 hF => ?_) ?_
   ·refine BL ?_;refine Ax rfl AZ Au (by rw [Aa]; rfl) ?_;refine Ap rfl (Az BF Au (congrArg (List.drop 4) (Aa p0))) ?_;refine MK ?_;refine Bk (σ := (List (List By8)) × Int) hF (fun (v : (List (List By8)) × Int) s' => match v with | (a62, a63) => ∃ g61 : Nat, (g61 = 0 -> a62 = []) /\ Zs h (mo g61 Am a62 :: O) 49 [(1, EC 1 g61 a62), (38, .sl 6 (List.map Ac p0.Kids) 0), (39, .int .i64 (p0.Kids.length : Int)), (40, .int .i64 a63)] s') ?_ ?_
    ·exact ⟨g26, zg26, oy ok, wy ok⟩
    ·rintro G64 hG65 rec66 ⟨a62, a63⟩ s' ih67 hF ⟨g61, zg61, ok, hws⟩;refine Aw hws ?_;rw [DC] at hF;refine GG ?_;refine Bb rfl hF (fun hb68 hF => ?_) fun hb68 hF => ?_
     ·refine Lj ?_;refine Ce (mdl [(8, 1)]) ?_;refine Fi rfl rfl Ck Aj hF (fun x69 _ hF => ?_);refine Ap rfl (A3 (vs := Ac x69) At Aj (by rw [Aa]; rfl) (by rw [Aa]; rfl)) ?_;refine Ds ok rfl BP ?_;intro i70 hi70 ok;refine HS (j := 0) (cs' := [.int .i64 x69.Kind, .str x69.Name.URI, .str x69.Name.Local, .sl 3 (List.map Af x69.Attrs) 0, .sl 6 (List.map Ac x69.Kids) 0, .str x69.Text]) ok rfl (congrArg D.agg (Aa x69)) rfl hi70 rfl Aj rfl rfl (fun ok => ?_);refine C1 ?_;refine MO ?_;refine Ej (j := 0) ok rfl rfl rfl hi70 (A3 (vs := Ac x69) At Aj rfl (Aa x69).symm) ?_;refine PH ?_;obtain ⟨hpe, ok⟩ := Hp_pull 1 ok rfl;rw [hpe]; clear hpe;refine cl (self_ok (p0 := x69) (p1 := a62) (b1 := g61) h ((i70, .cells [.int .i64 x69.Kind, .str x69.Name.URI, .str x69.Name.Local, .sl 3 (List.map Af x69.Attrs) 0, .sl 6 (List.map Ac x69.Kids) 0, .str x69.Text]) :: O) zg61 ok hF fun x71 u72 _ zu72 ok hF => ?_);refine Qw ?_;refine PM ?_;refine ih67 (x71, (IntKind.wrap .i64 (a63 + 1))) _ hF ?_;exact ⟨u72, zu72, oy ok, wy ok⟩
     ·refine EI ?_;replace hF := hG65 _ (Ar hF);exact ⟨a62, hF, g61, zg61, oy ok, wy ok⟩
   ·rintro a59 s' hF ⟨g58, zg58, ok, hws⟩;refine Aw hws ?_;refine UZ ?_;refine Qw ?_;refine Up ?_;refine rr ?_;exact ⟨_, _, (.refl _), hy ok, _, Ar hF, g58, rfl, zg58, oy ok, rfl⟩
theorem KO (p0 : Ab) (p1 : List (List By8)) (b1 : Nat) {G : (List (List By8)) -> Prop} (h : Heap) (O : List (Nat × AObj)) (zb1 : b1 = 0 -> p1 = []) (ok : OK h (mo b1 Am p1 :: O)) (hF : OptP (Es p0 p1) G) : CallsA prog 62 [.agg (Ac p0), EC 1 b1 p1] (Hp h (mo b1 Am p1 :: O)) fun d h' => ∃ r, G r /\ ∃ rb : Nat, d = EC 1 rb r /\ (rb = 0 -> r = []) /\ OK h (mo rb Am r :: O) /\ h' = Hp h (mo rb Am r :: O) := Kv FUEL h O zb1 ok hF
theorem JY {β : Type} {f0 : (List (List By8)) -> Option β} {G : β -> Prop} {R : D -> Heap -> Prop} {p0 : Ab} {p1 : List (List By8)} {b1 : Nat} (h : Heap) (O : List (Nat × AObj)) (zb1 : b1 = 0 -> p1 = []) (ok : OK h (mo b1 Am p1 :: O)) (hF : OptP ((Es p0 p1).bind f0) G) (hk : ∀ r rb, Es p0 p1 = some r -> (rb = 0 -> r = []) -> OK h (mo rb Am r :: O) -> OptP (f0 r) G -> R (EC 1 rb r) (Hp h (mo rb Am r :: O))) : CallsA prog 62 [.agg (Ac p0), EC 1 b1 p1] (Hp h (mo b1 Am p1 :: O)) R := by
 obtain ⟨r0, hr, hF⟩ := AM hF;refine (KO (G := fun r => r = r0) p0 p1 b1 h O zb1 ok ⟨r0, hr, rfl⟩).mono ?_;rintro _ _ ⟨r, rfl, rp, rfl, y0, ok', rfl⟩;exact hk _ _ hr y0 ok' hF
theorem KD (p0 : Ab)  {G : (List (List By8)) -> Prop} (h : Heap) (O : List (Nat × AObj)) (ok : OK h (O)) (hF : OptP (D2 p0) G) : CallsA prog 26 [.agg (Ac p0)] (Hp h (O)) fun d h' => ∃ r, G r /\ ∃ rb : Nat, d = EC 1 rb r /\ (rb = 0 -> r = []) /\ OK h (mo rb Am r :: O) /\ h' = Hp h (mo rb Am r :: O) := by
 refine CallsA.ret ?_;refine FL func26 rfl Aal ntmps26 rfl ?_;rw [D2] at hF;refine BL ?_;refine B1 (v := .agg (Ac p0)) (cs := Ac p0) rfl rfl rfl rfl ?_;refine S_a (v := .snil) rfl ?_;refine Gi 2 (v := .sl 1 (List.map Am []) 0) (.nil _) ?_;refine Ji ?_;refine Ap rfl (A3 (vs := Ac p0) At Aj (by rw [Aa]; rfl) (by rw [Aa]; rfl)) ?_;refine Pw Am ok (fun ok => ?_);refine cl (JY (p0 := p0) (p1 := []) (b1 := 0) h (O) (fun _ => rfl) ok hF fun x2 u3 _ zu3 ok hF => ?_);refine Qw ?_;refine Ji ?_;refine PH ?_;obtain ⟨_, hg6, hF⟩ := AM hF;refine Fp (ds := [EC 1 u3 x2]) (SortS_ok (h := h) (O := (O)) (id := u3) (e := x2) zu3 (Kk hg6) ok fun z5 ok => ?_) (.cons (.refl _) .nil);obtain ⟨a4, ha4, hF⟩ := M3 hF;rw [<- ha4] at ok z5;rw [<- ha4];have hms : EC 1 u3 x2 = EC 1 u3 a4 := MB (by rw [ha4, Kl])
 try rw [hms] at ok
 try rw [hms]
 clear hms;refine Ji ?_;refine PH ?_;obtain ⟨_, hg9, hF⟩ := AM hF;refine Fp (ds := [EC 1 u3 a4]) (CompactS_ok (h := h) (O := (O)) (id := u3) (e := a4) z5 (Kk hg9) ok fun z8 ok => ?_) (.cons (.refl _) .nil);obtain ⟨a7, ha7, hF⟩ := M3 hF;rw [<- ha7] at ok z8;rw [<- ha7];refine Qw ?_;refine Up ?_;refine rr ?_;exact ⟨_, _, (.refl _), hy ok, _, Ar hF, u3, rfl, z8, oy ok, rfl⟩
theorem JZ {β : Type} {f0 : (List (List By8)) -> Option β} {G : β -> Prop} {R : D -> Heap -> Prop} {p0 : Ab}  (h : Heap) (O : List (Nat × AObj)) (ok : OK h (O)) (hF : OptP ((D2 p0).bind f0) G) (hk : ∀ r rb, D2 p0 = some r -> (rb = 0 -> r = []) -> OK h (mo rb Am r :: O) -> OptP (f0 r) G -> R (EC 1 rb r) (Hp h (mo rb Am r :: O))) : CallsA prog 26 [.agg (Ac p0)] (Hp h (O)) R := by
 obtain ⟨r0, hr, hF⟩ := AM hF;refine (KD (G := fun r => r = r0) p0  h O ok ⟨r0, hr, rfl⟩).mono ?_;rintro _ _ ⟨r, rfl, rp, rfl, y0, ok', rfl⟩;exact hk _ _ hr y0 ok' hF
theorem EP (p0 : List (List By8)) (p1 : (List By8) -> Option Bool) (f1 : FuncId) (fi1 : List D) (ca1 : List D) (b0 : Nat) {G : Int -> Prop} (h : Heap) (O : List (Nat × AObj)) (hf1 : ∀ (x0 : List By8) (G : Bool -> Prop) (h : Heap), OptP (p1 x0) G -> CallsA prog f1 (fi1 ++ [.str x0] ++ ca1) h fun d h' => ∃ r, G r /\ d = .bool r /\ h' = h) (zb0 : b0 = 0 -> p0 = []) (ok : OK h (mo b0 Am p0 :: O)) (hF : OptP (A0 p0 p1) G) : CallsA prog 61 [EC 1 b0 p0, .fn (.func f1) fi1 ca1] (Hp h (mo b0 Am p0 :: O)) fun d h' => ∃ r, G r /\ d = .int .i64 r /\ OK h (mo b0 Am p0 :: O) /\ h' = Hp h (mo b0 Am p0 :: O) := by
 refine CallsA.ret ?_;refine FL func61 rfl Acd ntmps61 rfl ?_;rw [A0] at hF;refine SD ?_;refine AF hF (fun (_ : Unit) s' => Zs h (mo b0 Am p0 :: O) 19 [] s') (fun J6 hF => ?_) ?_
 ·refine UZ ?_;refine RJ zb0 rfl CB ?_;refine Wr ?_;refine Bk (σ := Int) hF (fun (a7 : Int) s' => Zs h (mo b0 Am p0 :: O) 19 [(0, EC 1 b0 p0), (1, .fn (.func f1) fi1 ca1), (7, .int .i64 (p0.length : Int)), (8, .int .i64 a7)] s') ?_ ?_
  ·exact ⟨oy ok, wy ok⟩
  ·rintro G8 hG9 rec10 a7 s' ih11 hF ⟨ok, hws⟩;refine Aw hws ?_;rw [A9] at hF;refine GG ?_;refine Bb rfl hF (fun hb12 hF => ?_) fun hb12 hF => ?_
   ·refine Tm ?_;refine BL ?_;refine VF ?_;refine PH ?_;refine H8 ?_;refine TC zb0 rfl rfl CB Ak hF (fun x13 hx13 hF => ?_);refine Yb (q := 1) (j := 0) (f0 := 0) ok rfl zb0 rfl rfl (fun _ => rfl) hx13 rfl rfl (Az AP Ak rfl) ?_;refine L7 rfl (CM (enc := fun r => .bool r) (fun G h hF => hf1 x13 G h hF) _ hF fun x14 _ hF => ?_) (.app (.app (.refl _) (.cons (.refl _) (.nil))) (.refl _));refine C1 ?_;refine Bb rfl hF (fun hb15 hF => ?_) fun hb15 hF => ?_
    ·refine GI ?_;refine Qu ?_;replace hF := hG9 _ (Ar hF);refine rr ?_;exact ⟨_, _, (.refl _), hy ok, _, Ar hF, rfl, oy ok, rfl⟩
    ·refine NE ?_;refine ih11 (IntKind.wrap .i64 (a7 + 1)) _ hF ?_;exact ⟨oy ok, wy ok⟩
   ·refine EI ?_;replace hF := hG9 _ (Ar hF);exact ⟨(), hF, oy ok, wy ok⟩
 ·rintro ⟨⟩ s' hF ⟨ok, hws⟩;refine Aw hws ?_;refine Ld ?_;refine rr ?_;exact ⟨_, _, (.refl _), hy ok, _, Ar hF, rfl, oy ok, rfl⟩
theorem EE (p0 : List (List By8)) (p1 : (List By8) -> Option Bool) (f1 : FuncId) (fi1 : List D) (ca1 : List D) (b0 : Nat) {G : List (List By8) -> Prop} (h : Heap) (O : List (Nat × AObj)) (hf1 : ∀ (x0 : List By8) (G : Bool -> Prop) (h : Heap), OptP (p1 x0) G -> CallsA prog f1 (fi1 ++ [.str x0] ++ ca1) h fun d h' => ∃ r, G r /\ d = .bool r /\ h' = h) (zb0 : b0 = 0 -> p0 = []) (ok : OK h (mo b0 Am p0 :: O)) (hF : OptP (Bh p0 p1) G) : CallsA prog 25 [EC 1 b0 p0, .fn (.func f1) fi1 ca1] (Hp h (mo b0 Am p0 :: O)) fun d h' => ∃ r, G r /\ d = EC 1 b0 r /\ (b0 = 0 -> r = []) /\ OK h (mo b0 Am r :: O) /\ h' = Hp h (mo b0 Am r :: O) := by
 refine CallsA.ret ?_;refine FL func25 rfl ZG ntmps25 rfl ?_;rw [Bh] at hF;refine BL ?_;refine S_a (v := .snil) rfl ?_;refine Gi 4 (v := .sl 1 (List.map Am []) 0) (.nil _) ?_;refine Ji ?_;refine PH ?_;refine VF ?_;refine cl (okT (fun _ hF => EP _ (p0 := p0) (f1 := f1) (fi1 := fi1) (ca1 := ca1) (b0 := b0) h (O) hf1 zb0 ok hF) hF fun x1 _ _ _ hq hF => ?_);obtain ⟨rfl, ok, rfl⟩ := hq;refine IA ?_;refine JF ?_;refine Sa ?_;refine Bb rfl hF (fun hb2 hF => ?_) fun hb2 hF => ?_
 ·refine UZ ?_;refine Qw ?_;refine Up ?_;refine rr ?_;exact ⟨_, _, (.refl _), hy ok, _, Ar hF, rfl, zb0, oy ok, rfl⟩
 ·refine Eh ?_;refine AF hF (fun (v : (List (List By8)) × Int) s' => match v with | (a21, a23) => (b0 = 0 -> a21 = []) /\ Zs h (mo b0 Am a21 :: O) 42 [(0, EC 1 b0 a21), (5, .int .i64 a23)] s') (fun J24 hF => ?_) ?_
  ·refine GI ?_;refine Zw ?_;refine JJ ?_;refine Bk (σ := (List (List By8)) × Int × Int) hF (fun (v : (List (List By8)) × Int × Int) s' => match v with | (a25, a27, a28) => (b0 = 0 -> a25 = []) /\ Zs h (mo b0 Am a25 :: O) 42 [(0, EC 1 b0 a25), (1, .fn (.func f1) fi1 ca1), (5, .int .i64 a27), (6, .int .i64 a28)] s') ?_ ?_
   ·exact ⟨zb0, oy ok, wy ok⟩
   ·rintro G29 hG30 rec31 ⟨a25, a27, a28⟩ s' ih32 hF ⟨kz26, ok, hws⟩;refine Aw hws ?_;rw [A4] at hF;refine JF ?_;refine PH ?_;refine RJ kz26 rfl CB ?_;refine K6 ?_;refine Bb rfl hF (fun hb33 hF => ?_) fun hb33 hF => ?_
    ·refine Eh ?_;refine AF hF (fun (v : (List (List By8)) × Int) s' => match v with | (a39, a41) => (b0 = 0 -> a39 = []) /\ Zs h (mo b0 Am a39 :: O) 42 [(0, EC 1 b0 a39), (1, .fn (.func f1) fi1 ca1), (5, .int .i64 a41), (6, .int .i64 a28)] s') (fun J42 hF => ?_) ?_
     ·refine JJ ?_;refine UZ ?_;refine H8 ?_;refine TC kz26 rfl rfl CB Ak hF (fun x43 hx43 hF => ?_);refine Yb (q := 1) (j := 0) (f0 := 0) ok rfl kz26 rfl rfl (fun _ => rfl) hx43 rfl rfl (Az AP Ak rfl) ?_;refine JN ?_;refine BL ?_;refine VF ?_;refine IZ ?_;refine L7 rfl (CM (enc := fun r => .bool r) (fun G h hF => hf1 x43 G h hF) _ hF fun x44 _ hF => ?_) (.app (.app (.refl _) (.cons (.refl _) (.nil))) (.refl _));refine VJ ?_;refine Bb rfl hF (fun hb45 hF => ?_) fun hb45 hF => ?_
      ·refine UZ ?_;refine H8 ?_;refine IZ ?_;refine TC kz26 rfl rfl CB Ak hF (fun x46 hx46 hF => ?_);refine Aat (q := 1) (j := 0) (f0 := 0) (b := x43) ok kz26 rfl rfl rfl (fun _ => rfl) hx46 rfl rfl Ak rfl rfl (fun za47 ok => ?_);obtain ⟨a47, ha47, hF⟩ := M3 hF;rw [<- ha47] at ok za47;rw [<- ha47];have hms : EC 1 b0 a25 = EC 1 b0 a47 := MB (by rw [ha47, List.length_set])
       try rw [hms] at ok
       try rw [hms]
       clear hms;refine C1 ?_;refine PZ ?_;exact ⟨(a47, (IntKind.wrap .i64 (a27 + 1))), hF, za47, oy ok, wy ok⟩
      ·refine Eh ?_;exact ⟨(a25, a27), hF, kz26, oy ok, wy ok⟩
     ·rintro ⟨a39, a41⟩ s' hF ⟨kz40, ok, hws⟩;refine Aw hws ?_;refine PZ ?_;refine ih32 (a39, a41, (IntKind.wrap .i64 (a28 + 1))) _ hF ?_;exact ⟨kz40, oy ok, wy ok⟩
    ·refine EI ?_;replace hF := hG30 _ (Ar hF);exact ⟨(a25, a27), hF, kz26, oy ok, wy ok⟩
  ·rintro ⟨a21, a23⟩ s' hF ⟨kz22, ok, hws⟩;refine Aw hws ?_;refine UZ ?_;refine H8 ?_;refine Aao kz22 rfl CB Ak (JS rfl) Qh hF (fun x48 hx48 hF => ?_);refine Zd (c := Am) (e := a21) (i := a23) 0 ok kz22 rfl (fun _ => rfl) rfl hx48 rfl CB Wa rfl hF (fun hF hi49 hl50 ok => ?_);refine Ji ?_;refine PH ?_;refine H8 ?_;refine ZQ (e := (List.take (Int.toNat a23) a21)) hi49 (Eq.trans (b := EC 1 b0 a21) rfl (Ii hi49)) rfl CB Ak hl50.1 (Int.le_of_lt hl50.2) (by rw [List.length_take]; have := hl50; omega) ?_;refine Qw ?_;refine Up ?_;refine rr ?_;exact ⟨_, _, (.refl _), hy ok, _, Ar hF, rfl, (fun h => absurd h hi49), oy ok, rfl⟩
theorem Iw (p0 : List By8) {G : Bool -> Prop} (h : Heap) (hF : OptP (Ed p0) G) : CallsA prog 27 [.str p0] h fun d h' => ∃ r, G r /\ d = .bool r /\ h' = h := by
 refine CallsA.ret ?_;refine AS func27 rfl Aau ntmps27 rfl (fun ok => ?_);rw [Ed] at hF;refine ST ?_;refine K5 ?_;refine E7 ?_;exact rt
theorem F7 (p0 : Ab) {G : (List (List By8)) -> Prop} (h : Heap) (hF : OptP (CK p0) G) : CallsA prog 12 [.agg (Ac p0)] h fun d h' => ∃ r, G r /\ d = .sl 1 (List.map Am r) 0 /\ h' = h := by
 refine CallsA.ret ?_;refine AS func12 rfl Z0 ntmps12 rfl (fun ok => ?_);rw [CK] at hF;refine BL ?_;refine B1 (v := .agg (Ac p0)) (cs := Ac p0) rfl rfl rfl rfl ?_;refine S_a (v := .snil) rfl ?_;refine Gi 2 (v := .sl 1 (List.map Am []) 0) (.nil _) ?_;refine Ji ?_;refine Ap rfl (A3 (vs := Ac p0) At Aj (by rw [Aa]; rfl) (by rw [Aa]; rfl)) ?_;refine cl (JZ (p0 := p0) h [] ok hF fun x1 u2 _ zu2 ok hF => ?_);refine cl (okT (fun _ hF => EE _ (p0 := x1) (f1 := 27) (fi1 := []) (ca1 := []) (b0 := u2) h [] (fun z0 G h hF => Iw z0 h hF) zu2 ok hF) hF fun x3 _ _ _ hq hF => ?_);obtain ⟨rfl, zr4, ok, rfl⟩ := hq;refine Qw ?_;refine Yy 0 2 ok zr4 rfl rfl (fun _ => rfl) (fun ok => ?_);refine Up ?_;exact rt
theorem IU {β : Type} {f : (List (List By8)) -> Option β} {G : β -> Prop} {R : D -> Heap -> Prop} {p0 : Ab} (h : Heap) (hF : OptP ((CK p0).bind f) G) (hk : ∀ r, CK p0 = some r -> OptP (f r) G -> R (.sl 1 (List.map Am r) 0) h) : CallsA prog 12 [.agg (Ac p0)] h R := by
 obtain ⟨r0, hr, hF⟩ := AM hF;refine (F7 (G := fun r => r = r0) p0 h ⟨r0, hr, rfl⟩).mono ?_;rintro _ _ ⟨r, rfl, rfl, rfl⟩;exact hk _ hr hF
theorem B6 (p0 : Ai) (p1 : List (List By8)) (q0 : Nat) (b0_1 : Nat) {G : (List By8) -> Prop} (h : Heap) (O : List (Nat × AObj)) (hq0 : q0 ≠ 0) (zb0_1 : b0_1 = 0 -> p0.Builder.buf = []) (ok : OK h (Db q0 53 5 b0_1 p0.Builder.buf [.sl 1 (List.map Am p0.prefixes) 0] :: (0, .room) :: O)) (hF : OptP (Ay p0 p1) G) : CallsA prog 45 [.ptr q0 0, .sl 1 (List.map Am p1) 0] (Hp h (Db q0 53 5 b0_1 p0.Builder.buf [.sl 1 (List.map Am p0.prefixes) 0] :: (0, .room) :: O)) fun d h' => ∃ r, G r /\ d = .tup [] /\ ∃ b0_1' : Nat, (b0_1' = 0 -> r = []) /\ OK h (Db q0 53 5 b0_1' r [.sl 1 (List.map Am p0.prefixes) 0] :: (0, .room) :: O) /\ h' = Hp h (Db q0 53 5 b0_1' r [.sl 1 (List.map Am p0.prefixes) 0] :: (0, .room) :: O) := by
 refine CallsA.ret ?_;refine FL func45 rfl Abv ntmps45 rfl ?_;rw [Ay] at hF;refine Jm ?_;refine VH ?_;refine Bk (σ := (List By8) × Int) hF (fun (v : (List By8) × Int) s' => match v with | (a2, a3) => ∃ g1 : Nat, (g1 = 0 -> a2 = []) /\ Zs h (Db q0 53 5 g1 a2 [.sl 1 (List.map Am p0.prefixes) 0] :: (0, .room) :: O) 18 [(0, .ptr q0 0), (6, .sl 1 (List.map Am p1) 0), (7, .int .i64 (p1.length : Int)), (8, .int .i64 a3)] s') ?_ ?_
 ·exact ⟨b0_1, zb0_1, oy ok, wy ok⟩
 ·rintro G4 hG5 rec6 ⟨a2, a3⟩ s' ih7 hF ⟨g1, zg1, ok, hws⟩;refine Aw hws ?_;rw [C8] at hF;refine GG ?_;refine Bb rfl hF (fun hb8 hF => ?_) fun hb8 hF => ?_
  ·refine WB ?_;refine BL ?_;refine Fi rfl rfl CB Ak hF (fun x9 _ hF => ?_);refine OI ?_;refine JN ?_;refine Zt ?_;refine Abd ?_;refine Adr ?_;refine IZ ?_;obtain ⟨_, hg11, hF⟩ := AM hF;refine Fp (ds := [.ptr q0 0, .str x9]) (Aby (h := h) (O := (O)) (r0 := .sl 1 (List.map Am p0.prefixes) 0) (j := g1) (s := x9) (bs := a2) hq0 (Kk hg11) ok fun u10 zu10 ok => ?_) (.cons (.refl _) (.cons (.refl _) .nil));obtain ⟨a12, ha12, hF⟩ := M3 hF;rw [<- ha12] at ok zu10;rw [<- ha12];refine PM ?_;refine ih7 (a12, (IntKind.wrap .i64 (a3 + 1))) _ hF ?_;exact ⟨u10, zu10, oy ok, wy ok⟩
  ·refine EI ?_;replace hF := hG5 _ (Ar hF)
   repeat (with_reducible refine Exit.blk_nrm ?_)
   refine KP (fn := Tryz.f45) rfl .nil ?_;exact ⟨_, _, (.refl _), hy ok, _, Ar hF, rfl, g1, zg1, oy ok, rfl⟩
theorem Da {β : Type} {f0 : (List By8) -> Option β} {G : β -> Prop} {R : D -> Heap -> Prop} {p0 : Ai} {p1 : List (List By8)} {q0 : Nat} {b0_1 : Nat} (h : Heap) (O : List (Nat × AObj)) (hq0 : q0 ≠ 0) (zb0_1 : b0_1 = 0 -> p0.Builder.buf = []) (ok : OK h (Db q0 53 5 b0_1 p0.Builder.buf [.sl 1 (List.map Am p0.prefixes) 0] :: (0, .room) :: O)) (hF : OptP ((Ay p0 p1).bind f0) G) (hk : ∀ r b0_1', Ay p0 p1 = some r -> (b0_1' = 0 -> r = []) -> OK h (Db q0 53 5 b0_1' r [.sl 1 (List.map Am p0.prefixes) 0] :: (0, .room) :: O) -> OptP (f0 r) G -> R (.tup []) (Hp h (Db q0 53 5 b0_1' r [.sl 1 (List.map Am p0.prefixes) 0] :: (0, .room) :: O))) : CallsA prog 45 [.ptr q0 0, .sl 1 (List.map Am p1) 0] (Hp h (Db q0 53 5 b0_1 p0.Builder.buf [.sl 1 (List.map Am p0.prefixes) 0] :: (0, .room) :: O)) R := by
 obtain ⟨r0, hr, hF⟩ := AM hF;refine (B6 (G := fun r => r = r0) p0 p1 q0 b0_1 h O hq0 zb0_1 ok ⟨r0, hr, rfl⟩).mono ?_;rintro _ _ ⟨r, rfl, rfl, b0_1', y0, ok', rfl⟩;exact hk _ _ hr y0 ok' hF
theorem IS (p0 : List By8) (p1 : List By8) {G : Bool -> Prop} (h : Heap) (hF : OptP (DR p0 p1) G) : CallsA prog 148 [.str p0, .str p1] h fun d h' => ∃ r, G r /\ d = .bool r /\ h' = h := by
 refine CallsA.ret ?_;refine AS func148 rfl XF ntmps148 rfl (fun ok => ?_);rw [DR] at hF;refine ST ?_;refine cl (CM (fun _ h hF => DL _ h hF) _ hF fun x1 _ hF => ?_);refine D3 ?_;refine Bl 4 11 hF (fun J3 hb2 hF => ?_) (fun J3 hb2 hF => ?_) (fun v4 hF => ?_)
 ·refine K4 ?_;refine cl (CM (fun _ h hF => DL _ h hF) _ hF fun x5 _ hF => ?_);refine Wv ?_;refine Jw ?_;exact tw
 ·refine Ow ?_;exact tw
 ·refine D3 ?_;refine Ba (b := v4) 4 16 (.bool (v4 || (Op.bytesLess p0 p1))) (fun hb6 => ?_) (fun hb6 => ?_) ?_
  ·refine LV ?_;exact th
  ·refine K4 ?_;refine Tn ?_;refine Eg rfl rfl Nx ?_;refine IW ?_;exact th
  refine E7 ?_;exact rt
theorem EW (p0 : List By8) {G : Bool -> Prop} (h : Heap) (hF : OptP (DF p0) G) : CallsA prog 191 [.str p0] h fun d h' => ∃ r, G r /\ d = .bool r /\ h' = h := by
 refine CallsA.ret ?_;refine AS func191 rfl X4 ntmps191 rfl (fun ok => ?_);rw [DF] at hF;refine ST ?_;refine IZ ?_;refine QS ?_;refine E7 ?_;exact rt
theorem Ex (p0 : List (List By8)) (p1 : List By8) {G : Int × Bool -> Prop} (h : Heap) (hF : OptP (A8 p0 p1) G) : CallsA prog 136 [.sl 1 (List.map Am p0) 0, .str p1] h fun d h' => ∃ r, G r /\ d = .tup [.int .i64 r.1, .bool r.2] /\ h' = h := by
 refine CallsA.ret ?_;refine AS func136 rfl Zc ntmps136 rfl (fun ok => ?_);rw [A8] at hF;refine BL ?_;refine N2 ?_;refine Fs ?_;refine Jm ?_;refine Xp ?_;refine IA ?_;refine GI ?_;refine SO ?_;refine AF hF (fun (a7 : Int) s' => Zs h [] 54 [(0, .sl 1 (List.map Am p0) 0), (1, .str p1), (6, .int .i64 (p0.length : Int)), (7, .int .i64 a7)] s') (fun J8 hF => ?_) ?_
 ·refine JJ ?_;refine Bk (σ := Int × Int) hF (fun (v : Int × Int) s' => match v with | (a9, a10) => Zs h [] 54 [(0, .sl 1 (List.map Am p0) 0), (1, .str p1), (6, .int .i64 (p0.length : Int)), (7, .int .i64 a9), (8, .int .i64 a10)] s') ?_ ?_
  ·exact ⟨oy ok, wy ok⟩
  ·rintro G11 hG12 rec13 ⟨a9, a10⟩ s' ih14 hF ⟨ok, hws⟩;refine Aw hws ?_;rw [AG] at hF;refine SG ?_;refine K6 ?_;refine Bb rfl hF (fun hb15 hF => ?_) fun hb15 hF => ?_
   ·refine SW ?_;refine SH ?_;refine Qy ?_;refine LI rfl (XG Rl RU) ?_;refine Eg rfl rfl (Ab3 rfl) ?_;refine LI rfl (XG N1 Sh) ?_;refine IA ?_;refine Vj ?_;refine Fi rfl rfl CB Ak hF (fun x16 _ hF => ?_);refine OI ?_;refine IZ ?_;refine cl (CM (fun _ h hF => IS _ _ h hF) _ hF fun x17 _ hF => ?_);refine C1 ?_;refine Bb rfl hF (fun hb18 hF => ?_) fun hb18 hF => ?_
    ·refine PZ ?_;refine ih14 ((IntKind.wrap .i64 ((IntKind.wrap .i64 (Ud .u64 (IntKind.wrap .u64 (IntKind.wrap .i64 (a9 + a10))) 1)) + 1)), a10) _ hF ?_;exact ⟨oy ok, wy ok⟩
    ·refine MH ?_;refine IA ?_;refine ih14 (a9, (IntKind.wrap .i64 (Ud .u64 (IntKind.wrap .u64 (IntKind.wrap .i64 (a9 + a10))) 1))) _ hF ?_;exact ⟨oy ok, wy ok⟩
   ·refine EI ?_;replace hF := hG12 _ (Ar hF);exact ⟨a9, hF, oy ok, wy ok⟩
 ·rintro a7 s' hF ⟨ok, hws⟩;refine Aw hws ?_;refine SH ?_;refine H8 ?_;refine Xn ?_;refine Bl 18 53 hF (fun J20 hb19 hF => ?_) (fun J20 hb19 hF => ?_) (fun v21 hF => ?_)
  ·refine S8 ?_;refine QD ?_;refine Fi rfl rfl CB Ak hF (fun x22 _ hF => ?_);refine Wt ?_;refine Tn ?_;refine K5 ?_;refine Qt ?_;refine Bl 10 52 hF (fun J24 hb23 hF => ?_) (fun J24 hb23 hF => ?_) (fun v25 hF => ?_)
   ·refine Xt ?_;refine Zl ?_;refine QC ?_;exact tw
   ·refine S8 ?_;refine QD ?_;refine Fi rfl rfl CB Ak hF (fun x26 _ hF => ?_);refine Wt ?_;refine cl (CM (fun _ h hF => EW _ h hF) _ hF fun x27 _ hF => ?_);refine Qt ?_;refine Bl 3 51 hF (fun J29 hb28 hF => ?_) (fun J29 hb28 hF => ?_) (fun v30 hF => ?_)
    ·refine K4 ?_;refine cl (CM (fun _ h hF => EW _ h hF) _ hF fun x31 _ hF => ?_);refine UR ?_;exact tw
    ·refine SB ?_;exact tw
    ·refine Qz ?_;exact tw
   ·refine MI ?_;exact tw
  ·refine Lp ?_;refine LN ?_;refine Tc ?_;refine Zk ?_;refine K7 ?_;exact tw
  ·refine N2 ?_;refine E7 ?_;exact rt
theorem G6 (p0 : Int) {G : (List By8) -> Prop} (h : Heap) (hF : OptP (D6 p0) G) : CallsA prog 94 [.int .i64 p0] h fun d h' => ∃ r, G r /\ d = .str r /\ h' = h := by
 refine CallsA.ret ?_;refine AS func94 rfl Aa1 ntmps94 rfl (fun ok => ?_);rw [D6] at hF;refine BL ?_;refine S_a (v := .str []) rfl ?_;refine C1 ?_;refine GI ?_;refine Qy ?_;refine cl (L_Itoa_ok _ hF fun x1 _ hF => ?_);refine DT rfl rfl hF (fun hF => ?_);refine NT ?_;exact rt
theorem Er (p0 : Ai) (p1 : Ad) (q0 : Nat) (b0_1 : Nat) {G : (List By8) -> Prop} (h : Heap) (O : List (Nat × AObj)) (hq0 : q0 ≠ 0) (zb0_1 : b0_1 = 0 -> p0.Builder.buf = []) (ok : OK h (Db q0 53 5 b0_1 p0.Builder.buf [.sl 1 (List.map Am p0.prefixes) 0] :: (0, .room) :: O)) (hF : OptP (CX p0 p1) G) : CallsA prog 93 [.ptr q0 0, .agg (An p1)] (Hp h (Db q0 53 5 b0_1 p0.Builder.buf [.sl 1 (List.map Am p0.prefixes) 0] :: (0, .room) :: O)) fun d h' => ∃ r, G r /\ d = .str r /\ OK h (Db q0 53 5 b0_1 p0.Builder.buf [.sl 1 (List.map Am p0.prefixes) 0] :: (0, .room) :: O) /\ h' = Hp h (Db q0 53 5 b0_1 p0.Builder.buf [.sl 1 (List.map Am p0.prefixes) 0] :: (0, .room) :: O) := by
 refine CallsA.ret ?_;refine FL func93 rfl Abf ntmps93 rfl ?_;rw [CX] at hF;refine BL ?_;refine B1 rfl rfl rfl rfl ?_;refine S_a (v := .str []) rfl ?_;refine C1 ?_;refine OE ?_;refine Uq ?_;refine XP ?_;refine BL ?_;refine K5 ?_;refine Fs ?_;refine Bb rfl hF (fun hb1 hF => ?_) fun hb1 hF => ?_
 ·refine BL ?_;refine SK ?_;refine NT ?_;refine rr ?_;exact ⟨_, _, (.refl _), hy ok, _, Ar hF, rfl, oy ok, rfl⟩
 ·refine BL ?_;refine K5 ?_;refine Fs ?_;refine Bb rfl hF (fun hb2 hF => ?_) fun hb2 hF => ?_
  ·refine BL ?_;refine SK ?_;refine DT rfl rfl hF (fun hF => ?_);refine NT ?_;refine rr ?_;exact ⟨_, _, (.refl _), hy ok, _, Ar hF, rfl, oy ok, rfl⟩
  ·refine U6 ?_;refine MT (mdl [(24, 3)]) (by kernel_rfl) (by kernel_rfl) ?_;refine U8 ?_;refine Abd ?_;refine Iv rfl LC Kh ?_;refine U5 (j := 0) ok rfl rfl rfl hq0 rfl rfl rfl (Az (v := .sl 1 (List.map Am p0.prefixes) 0) Pm Kh rfl) ?_;refine Uq ?_;refine cl (CM (fun _ h hF => Ex _ _ h hF) _ hF fun x3 _ hF => ?_);refine Vi ?_;refine N2 ?_;refine Fs ?_;refine IR ?_;refine MW (mdl [(32, 3)]) [0, 3, 4, 1, 2, 5, 6] [_, _, _, _, _, _, _] (by kernel_rfl) rfl rfl (by kernel_rfl) ?_;refine H8 ?_;refine SK ?_;refine cl (CM (fun _ h hF => G6 _ h hF) _ hF fun x4 _ hF => ?_);refine DT rfl rfl hF (fun hF => ?_);refine DT rfl rfl hF (fun hF => ?_);refine NT ?_;refine rr ?_;exact ⟨_, _, (.refl _), hy ok, _, Ar hF, rfl, oy ok, rfl⟩
theorem GE (rec0 : Ai × Ab × Bool -> Option ((List By8))) (self_ok : ∀ {β : Type} {f0 : (List By8) -> Option β} {G : β -> Prop} {R : D -> Heap -> Prop} {p0 : Ai} {p1 : Ab} {p2 : Bool} {q0 : Nat} {b0_1 : Nat} (h : Heap) (O : List (Nat × AObj)) (hq0 : q0 ≠ 0) (zb0_1 : b0_1 = 0 -> p0.Builder.buf = []) (ok : OK h (Db q0 53 5 b0_1 p0.Builder.buf [.sl 1 (List.map Am p0.prefixes) 0] :: (0, .room) :: O)) (hF : OptP ((rec0 (p0, p1, p2)).bind f0) G) (hk : ∀ r b0_1', rec0 (p0, p1, p2) = some r -> (b0_1' = 0 -> r = []) -> OK h (Db q0 53 5 b0_1' r [.sl 1 (List.map Am p0.prefixes) 0] :: (0, .room) :: O) -> OptP (f0 r) G -> R (.tup []) (Hp h (Db q0 53 5 b0_1' r [.sl 1 (List.map Am p0.prefixes) 0] :: (0, .room) :: O))), CallsA prog 19 [.ptr q0 0, .agg (Ac p1), .bool p2] (Hp h (Db q0 53 5 b0_1 p0.Builder.buf [.sl 1 (List.map Am p0.prefixes) 0] :: (0, .room) :: O)) R) (p0 : Ai) (p1 : Ab) (p2 : Bool) (q0 : Nat) (b0_1 : Nat) {G : (List By8) -> Prop} (h : Heap) (O : List (Nat × AObj)) (hq0 : q0 ≠ 0) (zb0_1 : b0_1 = 0 -> p0.Builder.buf = []) (ok : OK h (Db q0 53 5 b0_1 p0.Builder.buf [.sl 1 (List.map Am p0.prefixes) 0] :: (0, .room) :: O)) (hF : OptP (Cf rec0 p0 p1 p2) G) : CallsA prog 47 [.ptr q0 0, .agg (Ac p1), .bool p2] (Hp h (Db q0 53 5 b0_1 p0.Builder.buf [.sl 1 (List.map Am p0.prefixes) 0] :: (0, .room) :: O)) fun d h' => ∃ r, G r /\ d = .tup [] /\ ∃ b0_1' : Nat, (b0_1' = 0 -> r = []) /\ OK h (Db q0 53 5 b0_1' r [.sl 1 (List.map Am p0.prefixes) 0] :: (0, .room) :: O) /\ h' = Hp h (Db q0 53 5 b0_1' r [.sl 1 (List.map Am p0.prefixes) 0] :: (0, .room) :: O) := by
 refine CallsA.ret ?_;refine FL func47 rfl Aa8 ntmps47 rfl ?_;rw [Cf] at hF;refine BL ?_;refine B1 (v := .agg (Ac p1)) (cs := Ac p1) rfl rfl rfl rfl ?_;refine Ji ?_;refine U8 ?_;refine Ax rfl BJ AV (by rw [Aa]; rfl) ?_;refine Ap rfl (A3 (vs := An p1.Name) De AV (by rw [Aa]; rfl) (by rw [Aa]; rfl)) ?_;obtain ⟨hpe, ok⟩ := Hp_pull 1 ok rfl;rw [hpe]; clear hpe;obtain ⟨hpe, ok⟩ := Hp_pull 1 ok rfl;rw [hpe]; clear hpe;refine cl (okT (fun _ hF => Er _ (p0 := (⟨(⟨(), p0.Builder.buf⟩ : Al), p0.prefixes⟩ : Ai)) (q0 := q0) (b0_1 := b0_1) h (O) hq0 zb0_1 ok hF) hF fun x1 _ _ _ hq hF => ?_);obtain ⟨rfl, ok, rfl⟩ := hq;refine JN ?_;refine BL ?_;refine U8 ?_;refine IZ ?_;refine Dr (cs := [.str [60], .str x1]) (es := (List.map Am [[60], x1])) rfl B3 rfl (by kernel_rfl) (by kernel_rfl) ?_;obtain ⟨hpe, ok⟩ := Hp_pull 1 ok rfl;rw [hpe]; clear hpe;obtain ⟨hpe, ok⟩ := Hp_pull 1 ok rfl;rw [hpe]; clear hpe;refine cl (okT (fun _ hF => B6 _ (p0 := (⟨(⟨(), p0.Builder.buf⟩ : Al), p0.prefixes⟩ : Ai)) (q0 := q0) (b0_1 := b0_1) h (O) hq0 zb0_1 ok hF) hF fun x2 _ _ _ hq hF => ?_);obtain ⟨rfl, u3, zu3, ok, rfl⟩ := hq;refine C1 ?_;refine AF hF (fun (a23 : (List By8)) s' => ∃ g22 : Nat, (g22 = 0 -> a23 = []) /\ Zs h (Db q0 53 5 g22 a23 [.sl 1 (List.map Am p0.prefixes) 0] :: (0, .room) :: O) 76 [(0, .ptr q0 0), (4, .iptr (Ac p1)), (6, .str x1)] s') (fun J24 hF => ?_) ?_
 ·refine BL ?_;refine U8 ?_;refine Abd ?_;refine Iv rfl LC Kh ?_;refine U5 (j := 0) ok rfl rfl rfl hq0 rfl rfl rfl (Az (v := .sl 1 (List.map Am p0.prefixes) 0) Pm Kh rfl) ?_;refine VH ?_;refine Bk (σ := (List By8) × Int) hF (fun (v : (List By8) × Int) s' => match v with | (a26, a27) => ∃ g25 : Nat, (g25 = 0 -> a26 = []) /\ Zs h (Db q0 53 5 g25 a26 [.sl 1 (List.map Am p0.prefixes) 0] :: (0, .room) :: O) 76 [(0, .ptr q0 0), (2, .bool p2), (4, .iptr (Ac p1)), (6, .str x1), (24, .sl 1 (List.map Am p0.prefixes) 0), (25, .int .i64 (p0.prefixes.length : Int)), (26, .int .i64 a27)] s') ?_ ?_
  ·exact ⟨u3, zu3, oy ok, wy ok⟩
  ·rintro G28 hG29 rec30 ⟨a26, a27⟩ s' ih31 hF ⟨g25, zg25, ok, hws⟩;refine Aw hws ?_;rw [BG] at hF;refine GG ?_;refine Bb rfl hF (fun hb32 hF => ?_) fun hb32 hF => ?_
   ·refine Eh ?_;refine AF hF (fun (a40 : (List By8)) s' => ∃ g39 : Nat, (g39 = 0 -> a40 = []) /\ Zs h (Db q0 53 5 g39 a40 [.sl 1 (List.map Am p0.prefixes) 0] :: (0, .room) :: O) 76 [(0, .ptr q0 0), (2, .bool p2), (4, .iptr (Ac p1)), (6, .str x1), (24, .sl 1 (List.map Am p0.prefixes) 0), (25, .int .i64 (p0.prefixes.length : Int)), (26, .int .i64 a27)] s') (fun J41 hF => ?_) ?_
    ·refine JJ ?_;refine GI ?_;refine Fi rfl rfl CB Ak hF (fun x42 _ hF => ?_);refine OI ?_;refine N2 ?_;refine JN ?_;refine BL ?_;refine TP ?_;refine Bb rfl hF (fun hb43 hF => ?_) fun hb43 hF => ?_
     ·refine Zt ?_;refine H8 ?_;refine cl (CM (fun _ h hF => G6 _ h hF) _ hF fun x44 _ hF => ?_);refine IZ ?_;refine cl (L_referQuote_ok _ hF fun x45 _ hF => ?_);refine Dr (cs := [.str [32, 120, 109, 108, 110, 115, 58], .str x44, .str [61, 34], .str x45, .str [34]]) (es := (List.map Am [[32, 120, 109, 108, 110, 115, 58], x44, [61, 34], x45, [34]])) rfl B3 rfl (by kernel_rfl) (by kernel_rfl) ?_;obtain ⟨hpe, ok⟩ := Hp_pull 1 ok rfl;rw [hpe]; clear hpe;obtain ⟨hpe, ok⟩ := Hp_pull 1 ok rfl;rw [hpe]; clear hpe;refine cl (okT (fun _ hF => B6 _ (p0 := (⟨(⟨(), a26⟩ : Al), p0.prefixes⟩ : Ai)) (q0 := q0) (b0_1 := g25) h (O) hq0 zg25 ok hF) hF fun x46 _ _ _ hq hF => ?_);obtain ⟨rfl, u47, zu47, ok, rfl⟩ := hq;refine C1 ?_;exact ⟨x46, hF, u47, zu47, oy ok, wy ok⟩
     ·refine Eh ?_;exact ⟨a26, hF, g25, zg25, oy ok, wy ok⟩
    ·rintro a40 s' hF ⟨g39, zg39, ok, hws⟩;refine Aw hws ?_;refine Np ?_;refine ih31 (a40, (IntKind.wrap .i64 (a27 + 1))) _ hF ?_;exact ⟨g39, zg39, oy ok, wy ok⟩
   ·refine EI ?_;replace hF := hG29 _ (Ar hF);exact ⟨a26, hF, g25, zg25, oy ok, wy ok⟩
 ·rintro a23 s' hF ⟨g22, zg22, ok, hws⟩;refine Aw hws ?_;refine AF hF (fun (a63 : (List By8)) s' => ∃ g62 : Nat, (g62 = 0 -> a63 = []) /\ Zs h (Db q0 53 5 g62 a63 [.sl 1 (List.map Am p0.prefixes) 0] :: (0, .room) :: O) 76 [(0, .ptr q0 0), (4, .iptr (Ac p1)), (6, .str x1)] s') (fun J64 hF => ?_) ?_
  ·refine BL ?_;refine Ax rfl Bc AD (by rw [Aa]; rfl) ?_;refine Ap rfl (Az Cm AD (congrArg (List.drop 3) (Aa p1))) ?_;refine SC ?_;refine Bk (σ := (List By8) × Int) hF (fun (v : (List By8) × Int) s' => match v with | (a66, a67) => ∃ g65 : Nat, (g65 = 0 -> a66 = []) /\ Zs h (Db q0 53 5 g65 a66 [.sl 1 (List.map Am p0.prefixes) 0] :: (0, .room) :: O) 76 [(0, .ptr q0 0), (4, .iptr (Ac p1)), (6, .str x1), (41, .sl 3 (List.map Af p1.Attrs) 0), (42, .int .i64 (p1.Attrs.length : Int)), (43, .int .i64 a67)] s') ?_ ?_
   ·exact ⟨g22, zg22, oy ok, wy ok⟩
   ·rintro G68 hG69 rec70 ⟨a66, a67⟩ s' ih71 hF ⟨g65, zg65, ok, hws⟩;refine Aw hws ?_;rw [BI] at hF;refine GG ?_;refine Bb rfl hF (fun hb72 hF => ?_) fun hb72 hF => ?_
    ·refine Lj ?_;refine Ce (mdl [(10, 1)]) ?_;refine Fi rfl rfl DZ BB hF (fun x73 _ hF => ?_);refine Ap rfl (A3 (vs := Af x73) Fg BB rfl rfl) ?_;refine Ds ok rfl Ga ?_;intro i74 hi74 ok;refine HS (j := 0) (cs' := [.str x73.Name.URI, .str x73.Name.Local, .str x73.Value]) ok rfl rfl rfl hi74 rfl BB rfl rfl (fun ok => ?_);refine C1 ?_;refine Ny (mdl []) [0, 1, 2, 3, 5] [4, 6, 7, 8, 9] [6, 4, 7, 8, 9] [_, _, _, _, _] [_, _, _, _, _] [_, _, _, _, _] (by kernel_rfl) rfl rfl rfl rfl (by kernel_rfl) ?_;refine U8 ?_;refine U8 ?_;refine UI ?_;refine Ej (j := 0) ok rfl rfl rfl hi74 (A3 (vs := An x73.Name) De AV rfl rfl) ?_;refine Zj ?_;refine C1 ?_;refine ⟨?_, ?_⟩
     ·obtain ⟨hpe, ok⟩ := Hp_pull 2 ok rfl;rw [hpe]; clear hpe;obtain ⟨hpe, ok⟩ := Hp_pull 2 ok rfl;rw [hpe]; clear hpe;refine cl (okT (fun _ hF => Er _ (p0 := (⟨(⟨(), a66⟩ : Al), p0.prefixes⟩ : Ai)) (q0 := q0) (b0_1 := g65) h ((i74, .cells [.str x73.Name.URI, .str x73.Name.Local, .str x73.Value]) :: O) hq0 zg65 ok hF) hF fun x75 _ _ _ hq hF => ?_);obtain ⟨rfl, ok, rfl⟩ := hq;refine Ej (j := 2) ok rfl rfl rfl (by assumption) (Az (v := .str _) AP Ak rfl) ?_;refine cl (L_referQuote_ok _ hF fun x76 _ hF => ?_);refine Dr (cs := [.str [32], .str x75, .str [61, 34], .str x76, .str [34]]) (es := (List.map Am [[32], x75, [61, 34], x76, [34]])) rfl B3 rfl (by kernel_rfl) (by kernel_rfl) ?_;obtain ⟨hpe, ok⟩ := Hp_pull 1 ok rfl;rw [hpe]; clear hpe;obtain ⟨hpe, ok⟩ := Hp_pull 1 ok rfl;rw [hpe]; clear hpe;refine cl (okT (fun _ hF => B6 _ (p0 := (⟨(⟨(), a66⟩ : Al), p0.prefixes⟩ : Ai)) (q0 := q0) (b0_1 := g65) h ((i74, .cells [.str x73.Name.URI, .str x73.Name.Local, .str x73.Value]) :: O) hq0 zg65 ok hF) hF fun x77 _ _ _ hq hF => ?_);obtain ⟨rfl, u78, zu78, ok, rfl⟩ := hq;refine PM ?_;refine ih71 (x77, (IntKind.wrap .i64 (a67 + 1))) _ hF ?_;exact ⟨u78, zu78, oy ok, wy ok⟩
     ·refine RF ?_;obtain ⟨hpe, ok⟩ := Hp_pull 2 ok rfl;rw [hpe]; clear hpe;obtain ⟨hpe, ok⟩ := Hp_pull 2 ok rfl;rw [hpe]; clear hpe;refine cl (okT (fun _ hF => Er _ (p0 := (⟨(⟨(), a66⟩ : Al), p0.prefixes⟩ : Ai)) (q0 := q0) (b0_1 := g65) h ((i74, .cells [.str x73.Name.URI, .str x73.Name.Local, .str x73.Value]) :: O) hq0 zg65 ok hF) hF fun x79 _ _ _ hq hF => ?_);obtain ⟨rfl, ok, rfl⟩ := hq;refine cl (L_referQuote_ok _ hF fun x80 _ hF => ?_);refine Dr (cs := [.str [32], .str x79, .str [61, 34], .str x80, .str [34]]) (es := (List.map Am [[32], x79, [61, 34], x80, [34]])) rfl B3 rfl (by kernel_rfl) (by kernel_rfl) ?_;obtain ⟨hpe, ok⟩ := Hp_pull 1 ok rfl;rw [hpe]; clear hpe;obtain ⟨hpe, ok⟩ := Hp_pull 1 ok rfl;rw [hpe]; clear hpe;refine cl (okT (fun _ hF => B6 _ (p0 := (⟨(⟨(), a66⟩ : Al), p0.prefixes⟩ : Ai)) (q0 := q0) (b0_1 := g65) h ((i74, .cells [.str x73.Name.URI, .str x73.Name.Local, .str x73.Value]) :: O) hq0 zg65 ok hF) hF fun x81 _ _ _ hq hF => ?_);obtain ⟨rfl, u82, zu82, ok, rfl⟩ := hq;refine PM ?_;refine ih71 (x81, (IntKind.wrap .i64 (a67 + 1))) _ hF ?_;exact ⟨u82, zu82, oy ok, wy ok⟩
    ·refine EI ?_;replace hF := hG69 _ (Ar hF);exact ⟨a66, hF, g65, zg65, oy ok, wy ok⟩
  ·rintro a63 s' hF ⟨g62, zg62, ok, hws⟩;refine Aw hws ?_;refine BL ?_;refine U8 ?_;refine Dr (cs := [.str [62]]) (es := (List.map Am [[62]])) rfl B3 rfl (by kernel_rfl) (by kernel_rfl) ?_;obtain ⟨hpe, ok⟩ := Hp_pull 1 ok rfl;rw [hpe]; clear hpe;obtain ⟨hpe, ok⟩ := Hp_pull 1 ok rfl;rw [hpe]; clear hpe;refine cl (okT (fun _ hF => B6 _ (p0 := (⟨(⟨(), a63⟩ : Al), p0.prefixes⟩ : Ai)) (q0 := q0) (b0_1 := g62) h (O) hq0 zg62 ok hF) hF fun x83 _ _ _ hq hF => ?_);obtain ⟨rfl, u84, zu84, ok, rfl⟩ := hq;refine C1 ?_;refine AF hF (fun (a94 : (List By8)) s' => ∃ g93 : Nat, (g93 = 0 -> a94 = []) /\ Zs h (Db q0 53 5 g93 a94 [.sl 1 (List.map Am p0.prefixes) 0] :: (0, .room) :: O) 76 [(0, .ptr q0 0), (6, .str x1)] s') (fun J95 hF => ?_) ?_
   ·refine BL ?_;refine Ax rfl AZ Au (by rw [Aa]; rfl) ?_;refine Ap rfl (Az BF Au (congrArg (List.drop 4) (Aa p1))) ?_;refine MK ?_;refine Bk (σ := (List By8) × Int) hF (fun (v : (List By8) × Int) s' => match v with | (a97, a98) => ∃ g96 : Nat, (g96 = 0 -> a97 = []) /\ Zs h (Db q0 53 5 g96 a97 [.sl 1 (List.map Am p0.prefixes) 0] :: (0, .room) :: O) 76 [(0, .ptr q0 0), (6, .str x1), (62, .sl 6 (List.map Ac p1.Kids) 0), (63, .int .i64 (p1.Kids.length : Int)), (64, .int .i64 a98)] s') ?_ ?_
    ·exact ⟨u84, zu84, oy ok, wy ok⟩
    ·rintro G99 hG100 rec101 ⟨a97, a98⟩ s' ih102 hF ⟨g96, zg96, ok, hws⟩;refine Aw hws ?_;rw [BH] at hF;refine GG ?_;refine Bb rfl hF (fun hb103 hF => ?_) fun hb103 hF => ?_
     ·refine Lj ?_;refine Ce (mdl [(12, 1)]) ?_;refine Fi rfl rfl Ck Aj hF (fun x104 _ hF => ?_);refine Ap rfl (A3 (vs := Ac x104) At Aj (by rw [Aa]; rfl) (by rw [Aa]; rfl)) ?_;refine Ds ok rfl BP ?_;intro i105 hi105 ok;refine HS (j := 0) (cs' := [.int .i64 x104.Kind, .str x104.Name.URI, .str x104.Name.Local, .sl 3 (List.map Af x104.Attrs) 0, .sl 6 (List.map Ac x104.Kids) 0, .str x104.Text]) ok rfl (congrArg D.agg (Aa x104)) rfl hi105 rfl Aj rfl rfl (fun ok => ?_);refine C1 ?_;refine Zt ?_;refine Ej (j := 0) ok rfl rfl rfl hi105 (A3 (vs := Ac x104) At Aj rfl (Aa x104).symm) ?_;obtain ⟨hpe, ok⟩ := Hp_pull 2 ok rfl;rw [hpe]; clear hpe;obtain ⟨hpe, ok⟩ := Hp_pull 2 ok rfl;rw [hpe]; clear hpe;refine cl (self_ok (p0 := (⟨(⟨(), a97⟩ : Al), p0.prefixes⟩ : Ai)) (q0 := q0) (b0_1 := g96) h ((i105, .cells [.int .i64 x104.Kind, .str x104.Name.URI, .str x104.Name.Local, .sl 3 (List.map Af x104.Attrs) 0, .sl 6 (List.map Ac x104.Kids) 0, .str x104.Text]) :: O) hq0 zg96 ok hF fun x106 u107 _ zu107 ok hF => ?_);refine PM ?_;refine ih102 (x106, (IntKind.wrap .i64 (a98 + 1))) _ hF ?_;exact ⟨u107, zu107, oy ok, wy ok⟩
     ·refine EI ?_;replace hF := hG100 _ (Ar hF);exact ⟨a97, hF, g96, zg96, oy ok, wy ok⟩
   ·rintro a94 s' hF ⟨g93, zg93, ok, hws⟩;refine Aw hws ?_;refine Zt ?_;refine IZ ?_;refine Dr (cs := [.str [60, 47], .str x1, .str [62]]) (es := (List.map Am [[60, 47], x1, [62]])) rfl B3 rfl (by kernel_rfl) (by kernel_rfl) ?_;obtain ⟨hpe, ok⟩ := Hp_pull 1 ok rfl;rw [hpe]; clear hpe;obtain ⟨hpe, ok⟩ := Hp_pull 1 ok rfl;rw [hpe]; clear hpe;refine cl (okT (fun _ hF => B6 _ (p0 := (⟨(⟨(), a94⟩ : Al), p0.prefixes⟩ : Ai)) (q0 := q0) (b0_1 := g93) h (O) hq0 zg93 ok hF) hF fun x108 _ _ _ hq hF => ?_);obtain ⟨rfl, u109, zu109, ok, rfl⟩ := hq;refine C1 ?_
    repeat (with_reducible refine Exit.blk_nrm ?_)
    refine KP (fn := Tryz.f47) rfl .nil ?_;exact ⟨_, _, (.refl _), hy ok, _, Ar hF, rfl, u109, zu109, oy ok, rfl⟩
theorem Gj {β : Type} {f0 : (List By8) -> Option β} {G : β -> Prop} {R : D -> Heap -> Prop} {rec0 : Ai × Ab × Bool -> Option ((List By8))} (self_ok : ∀ {β : Type} {f0 : (List By8) -> Option β} {G : β -> Prop} {R : D -> Heap -> Prop} {p0 : Ai} {p1 : Ab} {p2 : Bool} {q0 : Nat} {b0_1 : Nat} (h : Heap) (O : List (Nat × AObj)) (hq0 : q0 ≠ 0) (zb0_1 : b0_1 = 0 -> p0.Builder.buf = []) (ok : OK h (Db q0 53 5 b0_1 p0.Builder.buf [.sl 1 (List.map Am p0.prefixes) 0] :: (0, .room) :: O)) (hF : OptP ((rec0 (p0, p1, p2)).bind f0) G) (hk : ∀ r b0_1', rec0 (p0, p1, p2) = some r -> (b0_1' = 0 -> r = []) -> OK h (Db q0 53 5 b0_1' r [.sl 1 (List.map Am p0.prefixes) 0] :: (0, .room) :: O) -> OptP (f0 r) G -> R (.tup []) (Hp h (Db q0 53 5 b0_1' r [.sl 1 (List.map Am p0.prefixes) 0] :: (0, .room) :: O))), CallsA prog 19 [.ptr q0 0, .agg (Ac p1), .bool p2] (Hp h (Db q0 53 5 b0_1 p0.Builder.buf [.sl 1 (List.map Am p0.prefixes) 0] :: (0, .room) :: O)) R) {p0 : Ai} {p1 : Ab} {p2 : Bool} {q0 : Nat} {b0_1 : Nat} (h : Heap) (O : List (Nat × AObj)) (hq0 : q0 ≠ 0) (zb0_1 : b0_1 = 0 -> p0.Builder.buf = []) (ok : OK h (Db q0 53 5 b0_1 p0.Builder.buf [.sl 1 (List.map Am p0.prefixes) 0] :: (0, .room) :: O)) (hF : OptP ((Cf rec0 p0 p1 p2).bind f0) G) (hk : ∀ r b0_1', Cf rec0 p0 p1 p2 = some r -> (b0_1' = 0 -> r = []) -> OK h (Db q0 53 5 b0_1' r [.sl 1 (List.map Am p0.prefixes) 0] :: (0, .room) :: O) -> OptP (f0 r) G -> R (.tup []) (Hp h (Db q0 53 5 b0_1' r [.sl 1 (List.map Am p0.prefixes) 0] :: (0, .room) :: O))) : CallsA prog 47 [.ptr q0 0, .agg (Ac p1), .bool p2] (Hp h (Db q0 53 5 b0_1 p0.Builder.buf [.sl 1 (List.map Am p0.prefixes) 0] :: (0, .room) :: O)) R := by
 obtain ⟨r0, hr, hF⟩ := AM hF;refine (GE (G := fun r => r = r0) rec0 self_ok p0 p1 p2 q0 b0_1 h O hq0 zb0_1 ok ⟨r0, hr, rfl⟩).mono ?_;rintro _ _ ⟨r, rfl, rfl, b0_1', y0, ok', rfl⟩;exact hk _ _ hr y0 ok' hF
theorem Ia : ∀ (N : Nat) {p0 : Ai} {p1 : Ab} {p2 : Bool} {q0 : Nat} {b0_1 : Nat} {G : (List By8) -> Prop} (h : Heap) (O : List (Nat × AObj)) (hq0 : q0 ≠ 0) (zb0_1 : b0_1 = 0 -> p0.Builder.buf = []) (ok : OK h (Db q0 53 5 b0_1 p0.Builder.buf [.sl 1 (List.map Am p0.prefixes) 0] :: (0, .room) :: O)) (hF : OptP (iter AL N (p0, p1, p2)) G), CallsA prog 19 [.ptr q0 0, .agg (Ac p1), .bool p2] (Hp h (Db q0 53 5 b0_1 p0.Builder.buf [.sl 1 (List.map Am p0.prefixes) 0] :: (0, .room) :: O)) fun d h' => ∃ r, G r /\ d = .tup [] /\ ∃ b0_1' : Nat, (b0_1' = 0 -> r = []) /\ OK h (Db q0 53 5 b0_1' r [.sl 1 (List.map Am p0.prefixes) 0] :: (0, .room) :: O) /\ h' = Hp h (Db q0 53 5 b0_1' r [.sl 1 (List.map Am p0.prefixes) 0] :: (0, .room) :: O) := by
 intro N
 induction N with
 | zero => intro p0 p1 p2 q0 b0_1 G h O hq0 zb0_1 ok hF; exact IH hF
 | succ N ih0 =>
 have self_ok : ∀ {β : Type} {f0 : (List By8) -> Option β} {G : β -> Prop} {R : D -> Heap -> Prop} {p0 : Ai} {p1 : Ab} {p2 : Bool} {q0 : Nat} {b0_1 : Nat} (h : Heap) (O : List (Nat × AObj)) (hq0 : q0 ≠ 0) (zb0_1 : b0_1 = 0 -> p0.Builder.buf = []) (ok : OK h (Db q0 53 5 b0_1 p0.Builder.buf [.sl 1 (List.map Am p0.prefixes) 0] :: (0, .room) :: O)) (hF : OptP ((iter AL N (p0, p1, p2)).bind f0) G) (hk : ∀ r b0_1', iter AL N (p0, p1, p2) = some r -> (b0_1' = 0 -> r = []) -> OK h (Db q0 53 5 b0_1' r [.sl 1 (List.map Am p0.prefixes) 0] :: (0, .room) :: O) -> OptP (f0 r) G -> R (.tup []) (Hp h (Db q0 53 5 b0_1' r [.sl 1 (List.map Am p0.prefixes) 0] :: (0, .room) :: O))), CallsA prog 19 [.ptr q0 0, .agg (Ac p1), .bool p2] (Hp h (Db q0 53 5 b0_1 p0.Builder.buf [.sl 1 (List.map Am p0.prefixes) 0] :: (0, .room) :: O)) R := by
  intro β f0 G R p0 p1 p2 q0 b0_1 h O hq0 zb0_1 ok hF hk;obtain ⟨r0, hr, hF⟩ := AM hF;refine (ih0 (G := fun r => r = r0) h O hq0 zb0_1 ok ⟨r0, hr, rfl⟩).mono ?_;rintro _ _ ⟨r, rfl, rfl, b0_1', y0, ok', rfl⟩;exact hk _ _ hr y0 ok' hF
 clear ih0;intro p0 p1 p2 q0 b0_1 G h O hq0 zb0_1 ok hF;replace hF : OptP (AL (iter AL N) (p0, p1, p2)) G := hF;refine CallsA.ret ?_;refine FL func19 rfl Aa0 ntmps19 rfl ?_;rw [AL] at hF;refine Fw ?_;refine Ce (mdl []) ?_;refine B1 (v := .agg (Ac p1)) (cs := Ac p1) rfl rfl rfl rfl ?_;refine E3 ?_;refine Fw ?_;refine Ce (mdl []) ?_;refine Ax rfl Bd AQ (by rw [Aa]; rfl) ?_;refine Ap rfl (Az CL AQ (congrArg (List.drop 0) (Aa p1))) ?_;refine E3 ?_;refine Ke ?_;refine Fw ?_;refine Ce (mdl []) ?_;refine Eg rfl rfl (NA ..) ?_;refine S_a (v := .bool _) rfl ?_;refine E3 ?_;refine Bb (b := (p1.Kind == 3)) rfl hF (fun hb1 hF => ?_) (fun hb1 hF => ?_)
 ·
  refine Ce (mdl []) ?_;refine S_m (v := .ptr _ _) rfl ?_;refine Ax rfl A1 Ak (by rw [Aa]; rfl) ?_;refine Ap rfl (Az AP Ak (congrArg (List.drop 5) (Aa p1))) ?_;refine Fp (L_referText_ok _ hF fun x2 _ hF => ?_) (.cons (.refl _) (.nil));refine Dr (cs := [.str x2]) (es := (List.map Am [x2])) rfl B3 rfl (by kernel_rfl) (by kernel_rfl) ?_;obtain ⟨hpe, ok⟩ := Hp_pull 1 ok rfl;rw [hpe]; clear hpe;obtain ⟨hpe, ok⟩ := Hp_pull 1 ok rfl;rw [hpe]; clear hpe;refine Fp (Da (p0 := (⟨(⟨(), p0.Builder.buf⟩ : Al), p0.prefixes⟩ : Ai)) (q0 := q0) (b0_1 := b0_1) h (O) hq0 zb0_1 ok hF fun x3 u4 _ zu4 ok hF => ?_) (.cons (.refl _) (.cons (.refl _) (.nil)));refine E3 ?_
  repeat (with_reducible refine Exit.blk_nrm ?_)
  have hwo : WO (Db q0 53 5 u4 x3 [.sl 1 (List.map Am p0.prefixes) 0] :: (0, .room) :: O) (Db q0 53 5 u4 x3 [.sl 1 (List.map Am p0.prefixes) 0] :: (0, .room) :: O) := (.keep (.keep (.refl O)))
  refine KP (fn := Tryz.f19) rfl .nil ?_;exact ⟨_, _, (.refl _), (hwo.spec ok).2.2, _, Ar hF, rfl, u4, zu4, (hwo.spec ok).1, rfl⟩
 ·
  refine Fw ?_;refine Ce (mdl []) ?_;refine Eg rfl rfl (NA ..) ?_;refine S_a (v := .bool _) rfl ?_;refine E3 ?_;refine Bb (b := (p1.Kind == 4)) rfl hF (fun hb5 hF => ?_) (fun hb5 hF => ?_)
  ·
   refine Ce (mdl []) ?_;refine S_m (v := .ptr _ _) rfl ?_;refine Ax rfl A1 Ak (by rw [Aa]; rfl) ?_;refine Ap rfl (Az AP Ak (congrArg (List.drop 5) (Aa p1))) ?_;refine Dr (cs := [.str [60, 33, 45, 45], .str p1.Text, .str [45, 45, 62]]) (es := (List.map Am [[60, 33, 45, 45], p1.Text, [45, 45, 62]])) rfl B3 rfl (by kernel_rfl) (by kernel_rfl) ?_;obtain ⟨hpe, ok⟩ := Hp_pull 1 ok rfl;rw [hpe]; clear hpe;obtain ⟨hpe, ok⟩ := Hp_pull 1 ok rfl;rw [hpe]; clear hpe;refine Fp (Da (p0 := (⟨(⟨(), p0.Builder.buf⟩ : Al), p0.prefixes⟩ : Ai)) (q0 := q0) (b0_1 := b0_1) h (O) hq0 zb0_1 ok hF fun x6 u7 _ zu7 ok hF => ?_) (.cons (.refl _) (.cons (.refl _) (.nil)));refine E3 ?_
   repeat (with_reducible refine Exit.blk_nrm ?_)
   have hwo : WO (Db q0 53 5 u7 x6 [.sl 1 (List.map Am p0.prefixes) 0] :: (0, .room) :: O) (Db q0 53 5 u7 x6 [.sl 1 (List.map Am p0.prefixes) 0] :: (0, .room) :: O) := (.keep (.keep (.refl O)))
   refine KP (fn := Tryz.f19) rfl .nil ?_;exact ⟨_, _, (.refl _), (hwo.spec ok).2.2, _, Ar hF, rfl, u7, zu7, (hwo.spec ok).1, rfl⟩
  ·
   refine Fw ?_;refine Ce (mdl []) ?_;refine Eg rfl rfl (NA ..) ?_;refine S_a (v := .bool _) rfl ?_;refine E3 ?_;refine Bb (b := (p1.Kind == 5)) rfl hF (fun hb8 hF => ?_) (fun hb8 hF => ?_)
   ·
    refine Fw ?_;refine Ce (mdl []) ?_;refine S_m (v := .ptr _ _) rfl ?_;refine Ax rfl BJ AV (by rw [Aa]; rfl) ?_;refine Ax rfl EL Ak (by rw [Aa]; rfl) ?_;refine Ap rfl (Az AP Ak (congrArg (List.drop 1) (congrArg (List.drop 1) (Aa p1)))) ?_;refine Dr (cs := [.str [60, 63], .str p1.Name.Local]) (es := (List.map Am [[60, 63], p1.Name.Local])) rfl B3 rfl (by kernel_rfl) (by kernel_rfl) ?_;obtain ⟨hpe, ok⟩ := Hp_pull 1 ok rfl;rw [hpe]; clear hpe;obtain ⟨hpe, ok⟩ := Hp_pull 1 ok rfl;rw [hpe]; clear hpe;refine Fp (Da (p0 := (⟨(⟨(), p0.Builder.buf⟩ : Al), p0.prefixes⟩ : Ai)) (q0 := q0) (b0_1 := b0_1) h (O) hq0 zb0_1 ok hF fun x9 u10 _ zu10 ok hF => ?_) (.cons (.refl _) (.cons (.refl _) (.nil)));refine E3 ?_;refine AF hF (fun (a15 : (List By8)) s' => ∃ g14 : Nat, (g14 = 0 -> a15 = []) /\ Zs h (Db q0 53 5 g14 a15 [.sl 1 (List.map Am p0.prefixes) 0] :: (0, .room) :: O) 48 [(0, .ptr q0 0)] s') (fun J16 hF => ?_) ?_
    ·
     refine Fw ?_;refine Ce (mdl []) ?_;refine Ax rfl A1 Ak (by rw [Aa]; rfl) ?_;refine Ap rfl (Az AP Ak (congrArg (List.drop 5) (Aa p1))) ?_;refine Eg rfl rfl Um ?_;refine E3 ?_;refine Bb (b := (!(p1.Text == []))) rfl hF (fun hb17 hF => ?_) (fun hb17 hF => ?_)
     ·
      refine Ce (mdl []) ?_;refine S_m (v := .ptr _ _) rfl ?_;refine Ax rfl A1 Ak (by rw [Aa]; rfl) ?_;refine Ap rfl (Az AP Ak (congrArg (List.drop 5) (Aa p1))) ?_;refine Dr (cs := [.str [32], .str p1.Text]) (es := (List.map Am [[32], p1.Text])) rfl B3 rfl (by kernel_rfl) (by kernel_rfl) ?_;obtain ⟨hpe, ok⟩ := Hp_pull 1 ok rfl;rw [hpe]; clear hpe;obtain ⟨hpe, ok⟩ := Hp_pull 1 ok rfl;rw [hpe]; clear hpe;refine Fp (Da (p0 := (⟨(⟨(), x9⟩ : Al), p0.prefixes⟩ : Ai)) (q0 := q0) (b0_1 := u10) h (O) hq0 zu10 ok hF fun x18 u19 _ zu19 ok hF => ?_) (.cons (.refl _) (.cons (.refl _) (.nil)));refine E3 ?_;have hwo : WO (Db q0 53 5 u19 x18 [.sl 1 (List.map Am p0.prefixes) 0] :: (0, .room) :: O) (Db q0 53 5 u19 x18 [.sl 1 (List.map Am p0.prefixes) 0] :: (0, .room) :: O) := (.keep (.keep (.refl O)))
      exact ⟨x18, hF, u19, zu19, (hwo.spec ok).1, WS.mk' (.cons (.refl _) .nil) ok hwo⟩
     ·
      refine IT ?_;have hwo : WO (Db q0 53 5 u10 x9 [.sl 1 (List.map Am p0.prefixes) 0] :: (0, .room) :: O) (Db q0 53 5 u10 x9 [.sl 1 (List.map Am p0.prefixes) 0] :: (0, .room) :: O) := (.keep (.keep (.refl O)))
      exact ⟨x9, hF, u10, zu10, (hwo.spec ok).1, WS.mk' (.cons (.refl _) .nil) ok hwo⟩
    ·
     rintro a15 s' hF ⟨g14, zg14, ok, hws⟩;refine Aw hws ?_;refine Ce (mdl []) ?_;refine S_m (v := .ptr _ _) rfl ?_;refine Dr (cs := [.str [63, 62]]) (es := (List.map Am [[63, 62]])) rfl B3 rfl (by kernel_rfl) (by kernel_rfl) ?_;obtain ⟨hpe, ok⟩ := Hp_pull 1 ok rfl;rw [hpe]; clear hpe;obtain ⟨hpe, ok⟩ := Hp_pull 1 ok rfl;rw [hpe]; clear hpe;refine Fp (Da (p0 := (⟨(⟨(), a15⟩ : Al), p0.prefixes⟩ : Ai)) (q0 := q0) (b0_1 := g14) h (O) hq0 zg14 ok hF fun x20 u21 _ zu21 ok hF => ?_) (.cons (.refl _) (.cons (.refl _) (.nil)));refine E3 ?_
     repeat (with_reducible refine Exit.blk_nrm ?_)
     have hwo : WO (Db q0 53 5 u21 x20 [.sl 1 (List.map Am p0.prefixes) 0] :: (0, .room) :: O) (Db q0 53 5 u21 x20 [.sl 1 (List.map Am p0.prefixes) 0] :: (0, .room) :: O) := (.keep (.keep (.refl O)))
     refine KP (fn := Tryz.f19) rfl .nil ?_;exact ⟨_, _, (.refl _), (hwo.spec ok).2.2, _, Ar hF, rfl, u21, zu21, (hwo.spec ok).1, rfl⟩
   ·
    refine Fw ?_;refine Ce (mdl []) ?_;refine Eg rfl rfl (NA ..) ?_;refine S_a (v := .bool _) rfl ?_;refine E3 ?_;refine Bb (b := (p1.Kind == 2)) rfl hF (fun hb22 hF => ?_) (fun hb22 hF => ?_)
    ·
     refine Ce (mdl []) ?_;refine S_m (v := .ptr _ _) rfl ?_;refine Ap rfl (A3 (vs := Ac p1) At Aj (by rw [Aa]; rfl) (by rw [Aa]; rfl)) ?_;refine S_m (v := .bool _) rfl ?_;obtain ⟨hpe, ok⟩ := Hp_pull 1 ok rfl;rw [hpe]; clear hpe;obtain ⟨hpe, ok⟩ := Hp_pull 1 ok rfl;rw [hpe]; clear hpe;refine Fp (Gj (rec0 := iter AL N) self_ok (p0 := (⟨(⟨(), p0.Builder.buf⟩ : Al), p0.prefixes⟩ : Ai)) (q0 := q0) (b0_1 := b0_1) h (O) hq0 zb0_1 ok hF fun x23 u24 _ zu24 ok hF => ?_) (.cons (.refl _) (.cons (.refl _) (.cons (.refl _) (.nil))));refine E3 ?_
     repeat (with_reducible refine Exit.blk_nrm ?_)
     have hwo : WO (Db q0 53 5 u24 x23 [.sl 1 (List.map Am p0.prefixes) 0] :: (0, .room) :: O) (Db q0 53 5 u24 x23 [.sl 1 (List.map Am p0.prefixes) 0] :: (0, .room) :: O) := (.keep (.keep (.refl O)))
     refine KP (fn := Tryz.f19) rfl .nil ?_;exact ⟨_, _, (.refl _), (hwo.spec ok).2.2, _, Ar hF, rfl, u24, zu24, (hwo.spec ok).1, rfl⟩
    ·
     refine IT ?_
     repeat (with_reducible refine Exit.blk_nrm ?_)
     have hwo : WO (Db q0 53 5 b0_1 p0.Builder.buf [.sl 1 (List.map Am p0.prefixes) 0] :: (0, .room) :: O) (Db q0 53 5 b0_1 p0.Builder.buf [.sl 1 (List.map Am p0.prefixes) 0] :: (0, .room) :: O) := (.keep (.keep (.refl O)))
     refine KP (fn := Tryz.f19) rfl .nil ?_;exact ⟨_, _, (.refl _), (hwo.spec ok).2.2, _, Ar hF, rfl, b0_1, zb0_1, (hwo.spec ok).1, rfl⟩
theorem H1 (p0 : Ai) (p1 : Ab) (p2 : Bool) (q0 : Nat) (b0_1 : Nat) {G : (List By8) -> Prop} (h : Heap) (O : List (Nat × AObj)) (hq0 : q0 ≠ 0) (zb0_1 : b0_1 = 0 -> p0.Builder.buf = []) (ok : OK h (Db q0 53 5 b0_1 p0.Builder.buf [.sl 1 (List.map Am p0.prefixes) 0] :: (0, .room) :: O)) (hF : OptP (Dy p0 p1 p2) G) : CallsA prog 19 [.ptr q0 0, .agg (Ac p1), .bool p2] (Hp h (Db q0 53 5 b0_1 p0.Builder.buf [.sl 1 (List.map Am p0.prefixes) 0] :: (0, .room) :: O)) fun d h' => ∃ r, G r /\ d = .tup [] /\ ∃ b0_1' : Nat, (b0_1' = 0 -> r = []) /\ OK h (Db q0 53 5 b0_1' r [.sl 1 (List.map Am p0.prefixes) 0] :: (0, .room) :: O) /\ h' = Hp h (Db q0 53 5 b0_1' r [.sl 1 (List.map Am p0.prefixes) 0] :: (0, .room) :: O) := Ia FUEL h O hq0 zb0_1 ok hF
theorem Hr {β : Type} {f0 : (List By8) -> Option β} {G : β -> Prop} {R : D -> Heap -> Prop} {p0 : Ai} {p1 : Ab} {p2 : Bool} {q0 : Nat} {b0_1 : Nat} (h : Heap) (O : List (Nat × AObj)) (hq0 : q0 ≠ 0) (zb0_1 : b0_1 = 0 -> p0.Builder.buf = []) (ok : OK h (Db q0 53 5 b0_1 p0.Builder.buf [.sl 1 (List.map Am p0.prefixes) 0] :: (0, .room) :: O)) (hF : OptP ((Dy p0 p1 p2).bind f0) G) (hk : ∀ r b0_1', Dy p0 p1 p2 = some r -> (b0_1' = 0 -> r = []) -> OK h (Db q0 53 5 b0_1' r [.sl 1 (List.map Am p0.prefixes) 0] :: (0, .room) :: O) -> OptP (f0 r) G -> R (.tup []) (Hp h (Db q0 53 5 b0_1' r [.sl 1 (List.map Am p0.prefixes) 0] :: (0, .room) :: O))) : CallsA prog 19 [.ptr q0 0, .agg (Ac p1), .bool p2] (Hp h (Db q0 53 5 b0_1 p0.Builder.buf [.sl 1 (List.map Am p0.prefixes) 0] :: (0, .room) :: O)) R := by
 obtain ⟨r0, hr, hF⟩ := AM hF;refine (H1 (G := fun r => r = r0) p0 p1 p2 q0 b0_1 h O hq0 zb0_1 ok ⟨r0, hr, rfl⟩).mono ?_;rintro _ _ ⟨r, rfl, rfl, b0_1', y0, ok', rfl⟩;exact hk _ _ hr y0 ok' hF
theorem Km (p0 : Ab)  {G : (List By8) × Int -> Prop} (h : Heap) (O : List (Nat × AObj)) (ok : OK h (O)) (hF : OptP (Dm p0) G) : CallsA prog 10 [.agg (Ac p0)] (Hp h (O)) fun d h' => ∃ r, G r /\ ∃ rb : Nat, d = .tup [EC 1 rb r.1, .int .i64 r.2] /\ (rb = 0 -> r.1 = []) /\ OK h (moY rb EO r.1 :: O) /\ h' = Hp h (moY rb EO r.1 :: O) := by
 refine CallsA.ret ?_;refine FL func10 rfl ZS ntmps10 rfl ?_;rw [Dm] at hF;refine Fw ?_;refine Ce (mdl []) ?_;refine B1 (v := .agg (Ac p0)) (cs := Ac p0) rfl rfl rfl rfl ?_;refine S_a (v := .snil) rfl ?_;refine Pw EO ok (fun ok => ?_);refine S_a (v := .int _ _) rfl ?_;refine E3 ?_;refine Fw ?_;refine Fw ?_;refine Ce (mdl []) ?_;refine Ap rfl (A3 (vs := Ac p0) At Aj (by rw [Aa]; rfl) (by rw [Aa]; rfl)) ?_;refine Fp (KU _ hF fun x2 _ hF => ?_) (.cons (.refl _) (.nil));refine S_a (v := .int _ _) rfl ?_;refine E3 ?_;refine Fw ?_;refine Ce (mdl []) ?_;refine S_m (v := .int _ _) rfl ?_;refine Eg rfl rfl (Uy ..) ?_;refine E3 ?_;refine Bb (b := (x2 != 0)) rfl hF (fun hb3 hF => ?_) (fun hb3 hF => ?_)
 ·
  refine Fw ?_;refine Ce (mdl []) ?_;refine S_m (v := .int _ _) rfl ?_;refine S_a (v := .snil) rfl ?_;refine Pw EO ok (fun ok => ?_);refine S_a (v := .int _ _) rfl ?_;refine E3 ?_;refine Ps ?_
  repeat (first | with_reducible refine Exit.sel_ret ?_ | with_reducible refine Exit.blk_ret ?_ | with_reducible refine Exit.jmp_ret ?_)
  have hwo : WO (moY 0 EO [] :: moY 0 EO [] :: O) (moY 0 EO [] :: O) := (.keep (.drop (.refl O)))
  refine Mj (fn := Tryz.f10) rfl (.tmp (v := EC 1 0 ([] : List By8)) rfl (.tmp (v := .int .i64 x2) rfl .nil)) ?_;exact ⟨_, _, (.refl _), (hwo.spec ok).2.2, _, Ar hF, 0, rfl, (fun _ => rfl), (hwo.spec ok).1, rfl⟩
 ·
  refine IT ?_;refine Fw ?_;refine Ce (mdl [(16, 7)]) ?_;refine Ap rfl (A3 (vs := Ac p0) At Aj (by rw [Aa]; rfl) (by rw [Aa]; rfl)) ?_;refine Fp (IU _ hF fun x5 _ hF => ?_) (.cons (.refl _) (.nil));refine Ef (v := .agg [.nilp, .snil, .sl 1 (List.map Am x5) 0]) (II S0 Ti rfl) ?_;refine XR (e := 5) (rest := [.sl 1 (List.map Am x5) 0]) ok rfl rfl rfl rfl (by decide) ?_;intro i6 hi6 ok;refine S_a (v := .ptr _ _) rfl ?_;refine E3 ?_;refine AF hF (fun (a20 : (List By8)) s' => ∃ g19 : Nat, (g19 = 0 -> a20 = []) /\ Zs h (Db i6 53 5 g19 a20 [.sl 1 (List.map Am x5) 0] :: (0, .room) :: O) 42 [(5, .ptr i6 0)] s') (fun J21 hF => ?_) ?_
  ·
   refine Fw ?_;refine Ce (mdl []) ?_;refine Ax rfl AZ Au (by rw [Aa]; rfl) ?_;refine Ap rfl (Az BF Au (congrArg (List.drop 4) (Aa p0))) ?_;refine KS rfl Ck ?_;refine S_m (v := .int _ _) rfl ?_;refine E3 ?_;refine Ke ?_;refine Bk (σ := (List By8) × Int) hF (fun (v : (List By8) × Int) s' => match v with | (a23, a24) => ∃ g22 : Nat, (g22 = 0 -> a23 = []) /\ Zs h (Db i6 53 5 g22 a23 [.sl 1 (List.map Am x5) 0] :: (0, .room) :: O) 42 [(5, .ptr i6 0), (18, .sl 6 (List.map Ac p0.Kids) 0), (19, .int .i64 (p0.Kids.length : Int)), (20, .int .i64 a24)] s') ?_ ?_
   ·
    have hwo : WO (Db i6 53 5 0 ([] : List By8) [.sl 1 (List.map Am x5) 0] :: (0, .room) :: moY 0 EO [] :: O) (Db i6 53 5 0 ([] : List By8) [.sl 1 (List.map Am x5) 0] :: (0, .room) :: O) := (.keep (.keep (.drop (.refl O))))
    exact ⟨0, (fun _ => rfl), (hwo.spec ok).1, WS.mk' (.cons (.refl _) (.cons (.refl _) (.cons (.refl _) (.cons (.refl _) .nil)))) ok hwo⟩
   ·
    rintro G25 hG26 rec27 ⟨a23, a24⟩ s' ih28 hF ⟨g22, zg22, ok, hws⟩;refine Aw hws ?_;rw [DD] at hF;refine Fw ?_;refine Ce (mdl []) ?_;refine Eg rfl rfl (Vd ..) ?_;refine E3 ?_;refine Fw ?_;refine Bb (b := (decide (a24 < (p0.Kids.length : Int)))) rfl hF (fun hb29 hF => ?_) (fun hb29 hF => ?_)
    ·
     refine IT ?_;refine Fw ?_;refine Ke ?_;refine Fw ?_;refine Ce (mdl [(7, 1)]) ?_;refine Fi rfl rfl Ck Aj hF (fun x30 _ hF => ?_);refine Ap rfl (A3 (vs := Ac x30) At Aj (by rw [Aa]; rfl) (by rw [Aa]; rfl)) ?_;refine Ds ok rfl BP ?_;intro i31 hi31 ok;refine HS (j := 0) (cs' := [.int .i64 x30.Kind, .str x30.Name.URI, .str x30.Name.Local, .sl 3 (List.map Af x30.Attrs) 0, .sl 6 (List.map Ac x30.Kids) 0, .str x30.Text]) ok rfl (congrArg D.agg (Aa x30)) rfl hi31 rfl Aj rfl rfl (fun ok => ?_);refine E3 ?_;refine Fw ?_;refine Ce (mdl []) ?_;refine S_m (v := .ptr _ _) rfl ?_;refine Ej (j := 0) ok rfl rfl rfl hi31 (A3 (vs := Ac x30) At Aj rfl (Aa x30).symm) ?_;obtain ⟨hpe, ok⟩ := Hp_pull 2 ok rfl;rw [hpe]; clear hpe;obtain ⟨hpe, ok⟩ := Hp_pull 2 ok rfl;rw [hpe]; clear hpe;refine Fp (Hr (p0 := (⟨(⟨(), a23⟩ : Al), x5⟩ : Ai)) (q0 := i6) (b0_1 := g22) h ((i31, .cells [.int .i64 x30.Kind, .str x30.Name.URI, .str x30.Name.Local, .sl 3 (List.map Af x30.Attrs) 0, .sl 6 (List.map Ac x30.Kids) 0, .str x30.Text]) :: O) hi6 zg22 ok hF fun x32 u33 _ zu33 ok hF => ?_) (.cons (.refl _) (.cons (.refl _) (.cons (.refl _) (.nil))));refine E3 ?_;refine Ce (mdl []) ?_;refine S_m (v := .ptr _ _) rfl ?_;refine Pl (v := .ptr _ _) rfl rfl ?_;refine Iv rfl Ik J1 ?_;obtain ⟨_, hg35, hF⟩ := AM hF;refine Fp (ds := [.ptr i6 0, .int .u8 (UInt8.toNat (10 : By8) : Int)]) (ZF (h := h) (O := ((i31, .cells [.int .i64 x30.Kind, .str x30.Name.URI, .str x30.Name.Local, .sl 3 (List.map Af x30.Attrs) 0, .sl 6 (List.map Ac x30.Kids) 0, .str x30.Text]) :: O)) (r0 := .sl 1 (List.map Am x5) 0) (j := u33) (c := (10 : By8)) (bs := x32) hi6 (Kk hg35) ok fun u34 zu34 ok => ?_) (.cons (.refl _) (.cons (.refl _) .nil));obtain ⟨a36, ha36, hF⟩ := M3 hF;rw [<- ha36] at ok zu34;rw [<- ha36];refine E3 ?_;refine Ce (mdl []) ?_;refine Eg rfl rfl (U4 ..) ?_;refine S_m (v := .int _ _) rfl ?_;refine E3 ?_;refine ih28 (a36, (IntKind.wrap .i64 (a24 + 1))) _ hF ?_;have hwo : WO (Db i6 53 5 u34 a36 [.sl 1 (List.map Am x5) 0] :: (0, .room) :: (i31, .cells [.int .i64 x30.Kind, .str x30.Name.URI, .str x30.Name.Local, .sl 3 (List.map Af x30.Attrs) 0, .sl 6 (List.map Ac x30.Kids) 0, .str x30.Text]) :: O) (Db i6 53 5 u34 a36 [.sl 1 (List.map Am x5) 0] :: (0, .room) :: O) := (.keep (.keep (.drop (.refl O))))
     exact ⟨u34, zu34, (hwo.spec ok).1, WS.mk' (.cons (.refl _) (.cons (.refl _) (.cons (.refl _) (.cons (.refl _) .nil)))) ok hwo⟩
    ·
     refine RT ?_;simp only [Exit.sel, Exit.blk, Exit.jmp, if_true, if_false, reduceIte, Nat.reduceEqDiff, Nat.succ_ne_zero, Nat.zero_ne_one, Nat.one_ne_zero];replace hF := hG26 _ (Ar hF);have hwo : WO (Db i6 53 5 g22 a23 [.sl 1 (List.map Am x5) 0] :: (0, .room) :: O) (Db i6 53 5 g22 a23 [.sl 1 (List.map Am x5) 0] :: (0, .room) :: O) := (.keep (.keep (.refl O)))
     exact ⟨a23, hF, g22, zg22, (hwo.spec ok).1, WS.mk' (.cons (.refl _) .nil) ok hwo⟩
  ·
   rintro a20 s' hF ⟨g19, zg19, ok, hws⟩;refine Aw hws ?_;refine Fw ?_;refine Fw ?_;refine Ce (mdl []) ?_;refine S_m (v := .ptr _ _) rfl ?_;refine Pl (v := .ptr _ _) rfl rfl ?_;refine Iv rfl Ik J1 ?_;refine Fp (ds := [.ptr i6 0]) (V4 (h := h) (O := (O)) (r0 := .sl 1 (List.map Am x5) 0) (j := g19) (bs := a20) hi6 ok ?_) (.cons (.refl _) .nil);refine Eg rfl rfl (Vb ..) ?_;refine E3 ?_;refine Bb (b := (decide (65536 < (a20.length : Int)))) rfl hF (fun hb37 hF => ?_) (fun hb37 hF => ?_)
   ·
    refine Fw ?_;refine Ce (mdl []) ?_;refine S_a (v := .snil) rfl ?_;refine Pw EO ok (fun ok => ?_);refine S_a (v := .int _ _) rfl ?_;refine E3 ?_;refine Ps ?_
    repeat (first | with_reducible refine Exit.sel_ret ?_ | with_reducible refine Exit.blk_ret ?_ | with_reducible refine Exit.jmp_ret ?_)
    have hwo : WO (moY 0 EO [] :: Db i6 53 5 g19 a20 [.sl 1 (List.map Am x5) 0] :: (0, .room) :: O) (moY 0 EO [] :: O) := (.keep (.drop (.drop (.refl O))))
    refine Mj (fn := Tryz.f10) rfl (.tmp (v := EC 1 0 ([] : List By8)) rfl (.tmp (v := .int .i64 6) rfl .nil)) ?_;exact ⟨_, _, (.refl _), (hwo.spec ok).2.2, _, Ar hF, 0, rfl, (fun _ => rfl), (hwo.spec ok).1, rfl⟩
   ·
    refine IT ?_;refine Fw ?_;refine Ce (mdl [(41, 1)]) ?_;refine S_m (v := .ptr _ _) rfl ?_;refine Pl (v := .ptr _ _) rfl rfl ?_;refine Iv rfl Ik J1 ?_;obtain ⟨_, hg39, hF⟩ := AM hF;refine Fp (ds := [.ptr i6 0]) (W4 (h := h) (O := (O)) (r0 := .sl 1 (List.map Am x5) 0) (j := g19) (bs := a20) hi6 (T7 hg39) ok fun ok => ?_) (.cons (.refl _) .nil);refine XA ok rfl rfl Ff Bs KX ?_;intro u42 zu42 ok;refine S_a (v := EC _ _ _) rfl ?_;refine S_a (v := .int _ _) rfl ?_;refine E3 ?_;refine Ps ?_
    repeat (first | with_reducible refine Exit.sel_ret ?_ | with_reducible refine Exit.blk_ret ?_ | with_reducible refine Exit.jmp_ret ?_)
    have hwo : WO (moY u42 EO a20 :: (0, .room) :: (0, .room) :: O) (moY u42 EO a20 :: O) := (.keep (.drop (.drop (.refl O))))
    refine Mj (fn := Tryz.f10) rfl (.tmp (v := EC 1 u42 a20) rfl (.tmp (v := .int .i64 0) rfl .nil)) ?_;exact ⟨_, _, (.refl _), (hwo.spec ok).2.2, _, Ar hF, u42, rfl, zu42, (hwo.spec ok).1, rfl⟩
theorem Ft {β : Type} {f0 : (List By8) × Int -> Option β} {G : β -> Prop} {R : D -> Heap -> Prop} {p0 : Ab}  (h : Heap) (O : List (Nat × AObj)) (ok : OK h (O)) (hF : OptP ((Dm p0).bind f0) G) (hk : ∀ r rb, Dm p0 = some r -> (rb = 0 -> r.1 = []) -> OK h (moY rb EO r.1 :: O) -> OptP (f0 r) G -> R (.tup [EC 1 rb r.1, .int .i64 r.2]) (Hp h (moY rb EO r.1 :: O))) : CallsA prog 10 [.agg (Ac p0)] (Hp h (O)) R := by
 obtain ⟨r0, hr, hF⟩ := AM hF;refine (Km (G := fun r => r = r0) p0  h O ok ⟨r0, hr, rfl⟩).mono ?_;rintro _ _ ⟨r, rfl, rp, rfl, y0, ok', rfl⟩;exact hk _ _ hr y0 ok' hF
theorem Hj {G : Bool -> Prop} (h : Heap) (hF : OptP (DN) G) : CallsA prog 8 [] h fun d h' => ∃ r, G r /\ d = .bool r /\ h' = h := by
 refine CallsA.ret ?_;refine AS func8 rfl Ade ntmps8 rfl (fun ok => ?_);rw [DN] at hF;refine NB ?_;refine IR ?_;refine Ce (mdl [(1, 1)]) ?_;refine Ef (v := .agg (An (⟨[117], [97]⟩ : Ad))) (II GR GZ rfl) ?_;refine Ef (v := .agg (An (⟨[], [98]⟩ : Ad))) (II GR GZ rfl) ?_;refine Ef (v := .agg (Af (⟨(⟨[], [98]⟩ : Ad), [49, 60]⟩ : Ae))) (II Ga T3 rfl) ?_;refine Dr (cs := [.str (⟨(⟨[], [98]⟩ : Ad), [49, 60]⟩ : Ae).Name.URI, .str (⟨(⟨[], [98]⟩ : Ad), [49, 60]⟩ : Ae).Name.Local, .str (⟨(⟨[], [98]⟩ : Ad), [49, 60]⟩ : Ae).Value]) (es := (List.map Af [(⟨(⟨[], [98]⟩ : Ad), [49, 60]⟩ : Ae)])) rfl Ir rfl (by kernel_rfl) (by kernel_rfl) ?_;refine Ef (v := .agg (An (⟨[], [99]⟩ : Ad))) (II GR GZ rfl) ?_;refine Ef (v := .agg [.int .i64 2, .str (⟨[], [99]⟩ : Ad).URI, .str (⟨[], [99]⟩ : Ad).Local, .snil, .snil, .str []]) (II BP In rfl) ?_;refine Gi 9 (v := .agg (Ac (⟨2, (⟨[], [99]⟩ : Ad), [], [], []⟩ : Ab))) (Wd.toE (.aggC (.cons (.refl _) (.cons (.refl _) (.cons (.refl _) (.cons (.nil _) (.cons (.nil _) (.cons (.refl _) (.nil)))))))) (Aa _)) ?_;refine Iy (d := 9) (v := .agg [.int .i64 (⟨2, (⟨[], [99]⟩ : Ad), [], [], []⟩ : Ab).Kind, .str (⟨2, (⟨[], [99]⟩ : Ad), [], [], []⟩ : Ab).Name.URI, .str (⟨2, (⟨[], [99]⟩ : Ad), [], [], []⟩ : Ab).Name.Local, .sl 3 (List.map Af (⟨2, (⟨[], [99]⟩ : Ad), [], [], []⟩ : Ab).Attrs) 0, .sl 6 (List.map Ac (⟨2, (⟨[], [99]⟩ : Ad), [], [], []⟩ : Ab).Kids) 0, .str (⟨2, (⟨[], [99]⟩ : Ad), [], [], []⟩ : Ab).Text]) (congrArg D.agg (Aa (⟨2, (⟨[], [99]⟩ : Ad), [], [], []⟩ : Ab))) ?_;refine Dr (cs := [.int .i64 (⟨2, (⟨[], [99]⟩ : Ad), [], [], []⟩ : Ab).Kind, .str (⟨2, (⟨[], [99]⟩ : Ad), [], [], []⟩ : Ab).Name.URI, .str (⟨2, (⟨[], [99]⟩ : Ad), [], [], []⟩ : Ab).Name.Local, .sl 3 (List.map Af (⟨2, (⟨[], [99]⟩ : Ad), [], [], []⟩ : Ab).Attrs) 0, .sl 6 (List.map Ac (⟨2, (⟨[], [99]⟩ : Ad), [], [], []⟩ : Ab).Kids) 0, .str (⟨2, (⟨[], [99]⟩ : Ad), [], [], []⟩ : Ab).Text]) (es := (List.map Ac [(⟨2, (⟨[], [99]⟩ : Ad), [], [], []⟩ : Ab)])) rfl DA rfl (by kernel_rfl) (by simp only [List.map_cons, List.map_nil, Aa]; rfl) ?_;refine Ef (v := .agg (Ac (⟨2, (⟨[117], [97]⟩ : Ad), [(⟨(⟨[], [98]⟩ : Ad), [49, 60]⟩ : Ae)], [(⟨2, (⟨[], [99]⟩ : Ad), [], [], []⟩ : Ab)], []⟩ : Ab))) (II BP In (by rw [Aa]; rfl)) ?_
 refine Ds ok rfl BP ?_;intro i1 hi1 ok;refine HS (j := 0) (cs' := [.int .i64 (⟨2, (⟨[117], [97]⟩ : Ad), [(⟨(⟨[], [98]⟩ : Ad), [49, 60]⟩ : Ae)], [(⟨2, (⟨[], [99]⟩ : Ad), [], [], []⟩ : Ab)], []⟩ : Ab).Kind, .str (⟨2, (⟨[117], [97]⟩ : Ad), [(⟨(⟨[], [98]⟩ : Ad), [49, 60]⟩ : Ae)], [(⟨2, (⟨[], [99]⟩ : Ad), [], [], []⟩ : Ab)], []⟩ : Ab).Name.URI, .str (⟨2, (⟨[117], [97]⟩ : Ad), [(⟨(⟨[], [98]⟩ : Ad), [49, 60]⟩ : Ae)], [(⟨2, (⟨[], [99]⟩ : Ad), [], [], []⟩ : Ab)], []⟩ : Ab).Name.Local, .sl 3 (List.map Af (⟨2, (⟨[117], [97]⟩ : Ad), [(⟨(⟨[], [98]⟩ : Ad), [49, 60]⟩ : Ae)], [(⟨2, (⟨[], [99]⟩ : Ad), [], [], []⟩ : Ab)], []⟩ : Ab).Attrs) 0, .sl 6 (List.map Ac (⟨2, (⟨[117], [97]⟩ : Ad), [(⟨(⟨[], [98]⟩ : Ad), [49, 60]⟩ : Ae)], [(⟨2, (⟨[], [99]⟩ : Ad), [], [], []⟩ : Ab)], []⟩ : Ab).Kids) 0, .str (⟨2, (⟨[117], [97]⟩ : Ad), [(⟨(⟨[], [98]⟩ : Ad), [49, 60]⟩ : Ae)], [(⟨2, (⟨[], [99]⟩ : Ad), [], [], []⟩ : Ab)], []⟩ : Ab).Text]) ok rfl (congrArg D.agg (Aa (⟨2, (⟨[117], [97]⟩ : Ad), [(⟨(⟨[], [98]⟩ : Ad), [49, 60]⟩ : Ae)], [(⟨2, (⟨[], [99]⟩ : Ad), [], [], []⟩ : Ab)], []⟩ : Ab))) rfl hi1 rfl Aj rfl rfl (fun ok => ?_);refine Ji ?_;refine Ej (j := 0) ok rfl rfl rfl hi1 (A3 (vs := Ac (⟨2, (⟨[117], [97]⟩ : Ad), [(⟨(⟨[], [98]⟩ : Ad), [49, 60]⟩ : Ae)], [(⟨2, (⟨[], [99]⟩ : Ad), [], [], []⟩ : Ab)], []⟩ : Ab)) At Aj rfl (Aa (⟨2, (⟨[117], [97]⟩ : Ad), [(⟨(⟨[], [98]⟩ : Ad), [49, 60]⟩ : Ae)], [(⟨2, (⟨[], [99]⟩ : Ad), [], [], []⟩ : Ab)], []⟩ : Ab)).symm) ?_;refine Iy (d := 13) (v := .agg [.int .i64 (⟨2, (⟨[117], [97]⟩ : Ad), [(⟨(⟨[], [98]⟩ : Ad), [49, 60]⟩ : Ae)], [(⟨2, (⟨[], [99]⟩ : Ad), [], [], []⟩ : Ab)], []⟩ : Ab).Kind, .str (⟨2, (⟨[117], [97]⟩ : Ad), [(⟨(⟨[], [98]⟩ : Ad), [49, 60]⟩ : Ae)], [(⟨2, (⟨[], [99]⟩ : Ad), [], [], []⟩ : Ab)], []⟩ : Ab).Name.URI, .str (⟨2, (⟨[117], [97]⟩ : Ad), [(⟨(⟨[], [98]⟩ : Ad), [49, 60]⟩ : Ae)], [(⟨2, (⟨[], [99]⟩ : Ad), [], [], []⟩ : Ab)], []⟩ : Ab).Name.Local, .sl 3 (List.map Af (⟨2, (⟨[117], [97]⟩ : Ad), [(⟨(⟨[], [98]⟩ : Ad), [49, 60]⟩ : Ae)], [(⟨2, (⟨[], [99]⟩ : Ad), [], [], []⟩ : Ab)], []⟩ : Ab).Attrs) 0, .sl 6 (List.map Ac (⟨2, (⟨[117], [97]⟩ : Ad), [(⟨(⟨[], [98]⟩ : Ad), [49, 60]⟩ : Ae)], [(⟨2, (⟨[], [99]⟩ : Ad), [], [], []⟩ : Ab)], []⟩ : Ab).Kids) 0, .str (⟨2, (⟨[117], [97]⟩ : Ad), [(⟨(⟨[], [98]⟩ : Ad), [49, 60]⟩ : Ae)], [(⟨2, (⟨[], [99]⟩ : Ad), [], [], []⟩ : Ab)], []⟩ : Ab).Text]) (congrArg D.agg (Aa (⟨2, (⟨[117], [97]⟩ : Ad), [(⟨(⟨[], [98]⟩ : Ad), [49, 60]⟩ : Ae)], [(⟨2, (⟨[], [99]⟩ : Ad), [], [], []⟩ : Ab)], []⟩ : Ab))) ?_
 refine Dr (cs := [.int .i64 (⟨2, (⟨[117], [97]⟩ : Ad), [(⟨(⟨[], [98]⟩ : Ad), [49, 60]⟩ : Ae)], [(⟨2, (⟨[], [99]⟩ : Ad), [], [], []⟩ : Ab)], []⟩ : Ab).Kind, .str (⟨2, (⟨[117], [97]⟩ : Ad), [(⟨(⟨[], [98]⟩ : Ad), [49, 60]⟩ : Ae)], [(⟨2, (⟨[], [99]⟩ : Ad), [], [], []⟩ : Ab)], []⟩ : Ab).Name.URI, .str (⟨2, (⟨[117], [97]⟩ : Ad), [(⟨(⟨[], [98]⟩ : Ad), [49, 60]⟩ : Ae)], [(⟨2, (⟨[], [99]⟩ : Ad), [], [], []⟩ : Ab)], []⟩ : Ab).Name.Local, .sl 3 (List.map Af (⟨2, (⟨[117], [97]⟩ : Ad), [(⟨(⟨[], [98]⟩ : Ad), [49, 60]⟩ : Ae)], [(⟨2, (⟨[], [99]⟩ : Ad), [], [], []⟩ : Ab)], []⟩ : Ab).Attrs) 0, .sl 6 (List.map Ac (⟨2, (⟨[117], [97]⟩ : Ad), [(⟨(⟨[], [98]⟩ : Ad), [49, 60]⟩ : Ae)], [(⟨2, (⟨[], [99]⟩ : Ad), [], [], []⟩ : Ab)], []⟩ : Ab).Kids) 0, .str (⟨2, (⟨[117], [97]⟩ : Ad), [(⟨(⟨[], [98]⟩ : Ad), [49, 60]⟩ : Ae)], [(⟨2, (⟨[], [99]⟩ : Ad), [], [], []⟩ : Ab)], []⟩ : Ab).Text]) (es := (List.map Ac [(⟨2, (⟨[117], [97]⟩ : Ad), [(⟨(⟨[], [98]⟩ : Ad), [49, 60]⟩ : Ae)], [(⟨2, (⟨[], [99]⟩ : Ad), [], [], []⟩ : Ab)], []⟩ : Ab)])) rfl DA rfl (by kernel_rfl) (by simp only [List.map_cons, List.map_nil, Aa]; rfl) ?_;refine Ef (v := .agg [.int .i64 1, .str [], .str [], .snil, .sl 6 (List.map Ac [(⟨2, (⟨[117], [97]⟩ : Ad), [(⟨(⟨[], [98]⟩ : Ad), [49, 60]⟩ : Ae)], [(⟨2, (⟨[], [99]⟩ : Ad), [], [], []⟩ : Ab)], []⟩ : Ab)]) 0, .str []]) (II BP In rfl) ?_;refine Gi 15 (v := .agg (Ac (⟨1, (⟨[], []⟩ : Ad), [], [(⟨2, (⟨[117], [97]⟩ : Ad), [(⟨(⟨[], [98]⟩ : Ad), [49, 60]⟩ : Ae)], [(⟨2, (⟨[], [99]⟩ : Ad), [], [], []⟩ : Ab)], []⟩ : Ab)], []⟩ : Ab))) (Wd.toE (.aggC (.cons (.refl _) (.cons (.refl _) (.cons (.refl _) (.cons (.nil _) (.cons (.refl _) (.cons (.refl _) (.nil)))))))) (Aa _)) ?_;refine cl (Ft (p0 := (⟨1, (⟨[], []⟩ : Ad), [], [(⟨2, (⟨[117], [97]⟩ : Ad), [(⟨(⟨[], [98]⟩ : Ad), [49, 60]⟩ : Ae)], [(⟨2, (⟨[], [99]⟩ : Ad), [], [], []⟩ : Ab)], []⟩ : Ab)], []⟩ : Ab)) h [(i1, .cells [.int .i64 (⟨2, (⟨[117], [97]⟩ : Ad), [(⟨(⟨[], [98]⟩ : Ad), [49, 60]⟩ : Ae)], [(⟨2, (⟨[], [99]⟩ : Ad), [], [], []⟩ : Ab)], []⟩ : Ab).Kind, .str (⟨2, (⟨[117], [97]⟩ : Ad), [(⟨(⟨[], [98]⟩ : Ad), [49, 60]⟩ : Ae)], [(⟨2, (⟨[], [99]⟩ : Ad), [], [], []⟩ : Ab)], []⟩ : Ab).Name.URI, .str (⟨2, (⟨[117], [97]⟩ : Ad), [(⟨(⟨[], [98]⟩ : Ad), [49, 60]⟩ : Ae)], [(⟨2, (⟨[], [99]⟩ : Ad), [], [], []⟩ : Ab)], []⟩ : Ab).Name.Local, .sl 3 (List.map Af (⟨2, (⟨[117], [97]⟩ : Ad), [(⟨(⟨[], [98]⟩ : Ad), [49, 60]⟩ : Ae)], [(⟨2, (⟨[], [99]⟩ : Ad), [], [], []⟩ : Ab)], []⟩ : Ab).Attrs) 0, .sl 6 (List.map Ac (⟨2, (⟨[117], [97]⟩ : Ad), [(⟨(⟨[], [98]⟩ : Ad), [49, 60]⟩ : Ae)], [(⟨2, (⟨[], [99]⟩ : Ad), [], [], []⟩ : Ab)], []⟩ : Ab).Kids) 0, .str (⟨2, (⟨[117], [97]⟩ : Ad), [(⟨(⟨[], [98]⟩ : Ad), [49, 60]⟩ : Ae)], [(⟨2, (⟨[], [99]⟩ : Ad), [], [], []⟩ : Ab)], []⟩ : Ab).Text])] ok hF fun x2 u3 _ zu3 ok hF => ?_)
 refine Vi ?_;refine Qw ?_;refine Ys 0 2 ok zu3 rfl rfl (fun _ => rfl) (fun ok => ?_);refine IA ?_;refine Xx ?_;refine Ba (b := (x2.2 == 0)) 4 25 (.bool ((x2.2 == 0) && (x2.1 == [60, 110, 49, 58, 97, 32, 120, 109, 108, 110, 115, 58, 110, 49, 61, 34, 117, 34, 32, 98, 61, 34, 49, 38, 108, 116, 59, 34, 62, 60, 99, 62, 60, 47, 99, 62, 60, 47, 110, 49, 58, 97, 62, 10]))) (fun hb5 => ?_) (fun hb5 => ?_) ?_
 ·refine S8 ?_;refine Z8 ?_;refine BQ ?_;refine K5 ?_;refine Jw ?_;exact th
 ·refine Ow ?_;exact th
 refine E7 ?_;exact rt
theorem HF : ∀ (N : Nat) (v : Ab) (G : Ab -> Prop) (h : Heap), OptP (iter Bj N v) G -> CallsA prog 9 [.agg (Ac v)] h fun d h' => ∃ r, G r /\ d = .agg (Ac r) /\ h' = h := by
 intro N
 induction N with
 | zero => intro v G h hF; exact IH hF
 | succ N ih0 =>
 intro p0 G h hF;show CallsA prog 9 [.agg (Ac p0)] h fun d h' => ∃ r, G r /\ d = .agg (Ac r) /\ h' = h;replace hF : OptP (Bj (iter Bj N) p0) G := hF;refine CallsA.ret ?_;refine AS func9 rfl Aek ntmps9 rfl (fun ok => ?_);rw [Bj] at hF;refine IR ?_;refine Ce (mdl [(2, 1)]) ?_;refine B1 (v := .agg (Ac p0)) (cs := Ac p0) rfl rfl rfl rfl ?_;refine Ds ok rfl BP ?_;intro i1 hi1 ok;refine SI ?_;refine Uj N0 (mdl [(12, 2), (15, 2), (3, 1), (7, 3), (9, 3), (11, 3), (14, 3)]) (NJ _) (by kernel_rfl) ?_;refine A_seq [0, 1, 2, 3, 4, 5, 7, 8] [_, _, _, _, _, _, _, _] 5 #[true, true, true, true, true, true, false, true, true, false, false, false, false] rfl rfl (by kernel_rfl) (by kernel_rfl) ?_;refine Ax rfl Bd AQ (by rw [Aa]; rfl) ?_;refine Ap rfl (Az CL AQ (congrArg (List.drop 0) (Aa p0))) ?_;refine Ax rfl BJ AV (by rw [Aa]; rfl) ?_;refine Ap rfl (A3 (vs := An p0.Name) De AV (by rw [Aa]; rfl) (by rw [Aa]; rfl)) ?_;refine Ax rfl A1 Ak (by rw [Aa]; rfl) ?_;refine Ap rfl (Az AP Ak (congrArg (List.drop 5) (Aa p0))) ?_;refine Ax rfl Bc AD (by rw [Aa]; rfl) ?_;refine Ap rfl (Az Cm AD (congrArg (List.drop 3) (Aa p0))) ?_;refine C1 ?_;refine A_two 6 11 _ _ #[true, true, true, true, true, true, true, true, true, false, false, false, false] #[true, true, true, true, true, true, false, true, true, false, false, true, false] (by kernel_rfl) rfl rfl (by kernel_rfl) (by kernel_rfl) ?_ ?_
 ·refine Lt (cs := []) (es := (List.map Af [])) ok rfl Ir rfl (by kernel_rfl) (by kernel_rfl) ?_;intro r2 hr2 ok;refine C1 ?_;refine A_seq [] [] 4 #[true, true, true, true, true, true, true, true, true, false, false, false, false] rfl rfl (by kernel_rfl) (by kernel_rfl) ?_;refine C1 ?_;refine A_two 9 11 _ _ #[true, true, true, true, true, true, true, true, true, true, false, false, false] #[true, true, true, true, true, true, true, true, true, false, false, true, false] (by kernel_rfl) rfl rfl (by kernel_rfl) (by kernel_rfl) ?_ ?_
  ·refine Iu (j := 0) ok rfl rfl rfl rfl hr2 Ir Mv hF ?_;intro r3 hr3 ok hF;refine C1 ?_;refine A_seq [10, 11, 12] [_, _, _] 0 #[true, true, true, true, true, true, true, true, true, true, true, true, true] rfl rfl (by kernel_rfl) (by kernel_rfl) ?_;refine Ef (v := .agg [.int .i64 p0.Kind, .str p0.Name.URI, .str p0.Name.Local, .sl 3 (List.map Af ([] ++ p0.Attrs)) r3, .snil, .str p0.Text]) (II BP In rfl) ?_;refine Ds ok rfl BP ?_;intro i4 hi4 ok;refine HS (j := 0) (cs' := [.int .i64 p0.Kind, .str p0.Name.URI, .str p0.Name.Local, .sl 3 (List.map Af ([] ++ p0.Attrs)) r3, .snil, .str p0.Text]) ok rfl rfl rfl hi4 rfl Aj rfl rfl (fun ok => ?_);refine C1 ?_;refine A_end (by kernel_rfl) ?_;refine ZJ ?_;show AY prog (mdl []) true #[] [] _ _;refine L5 0 4 6 (fun r5 => [.int .i64 p0.Kind, .str p0.Name.URI, .str p0.Name.Local, .sl 3 (List.map Af ([] ++ p0.Attrs)) r3, .sl 6 (List.map Ac []) r5, .str p0.Text]) ok rfl hi4 rfl (fun _ => rfl) ?_;intro r5 hr5 ok;refine C1 ?_;refine AF hF (fun (v : Int × (List By8) × (List By8) × (List Ae) × (List Ab) × (List By8)) s' => match v with | (a22, a23, a24, a25, a27, a29) => ∃ g26 g28 : Nat, g26 ≠ 0 /\ g28 ≠ 0 /\ Zs h [(g28, .room), (i4, .cells [.int .i64 a22, .str a23, .str a24, .sl 3 (List.map Af a25) g26, .sl 6 (List.map Ac a27) g28, .str a29]), (g26, .room), (i1, .cells [.int .i64 0, .str [], .str [], .sl 3 (List.map Af []) 0, .sl 6 (List.map Ac []) 0, .str []])] 33 [(2, .ptr i1 0), (3, .ptr i4 0)] s') (fun J30 hF => ?_) ?_
   ·refine BL ?_;refine Ax rfl AZ Au (by rw [Aa]; rfl) ?_;refine Ap rfl (Az BF Au (congrArg (List.drop 4) (Aa p0))) ?_;refine MK ?_;refine Bk (σ := Int × (List By8) × (List By8) × (List Ae) × (List Ab) × (List By8) × Int) hF (fun (v : Int × (List By8) × (List By8) × (List Ae) × (List Ab) × (List By8) × Int) s' => match v with | (a31, a32, a33, a34, a36, a38, a39) => ∃ g35 g37 : Nat, g35 ≠ 0 /\ g37 ≠ 0 /\ Zs h [(g37, .room), (i4, .cells [.int .i64 a31, .str a32, .str a33, .sl 3 (List.map Af a34) g35, .sl 6 (List.map Ac a36) g37, .str a38]), (g35, .room), (i1, .cells [.int .i64 0, .str [], .str [], .sl 3 (List.map Af []) 0, .sl 6 (List.map Ac []) 0, .str []])] 33 [(2, .ptr i1 0), (3, .ptr i4 0), (18, .sl 6 (List.map Ac p0.Kids) 0), (19, .int .i64 (p0.Kids.length : Int)), (20, .int .i64 a39)] s') ?_ ?_
    ·have hwo : WO [(r5, .room), (i4, .cells [.int .i64 p0.Kind, .str p0.Name.URI, .str p0.Name.Local, .sl 3 (List.map Af ([] ++ p0.Attrs)) r3, .sl 6 (List.map Ac []) r5, .str p0.Text]), (r3, .room), (i1, .cells [.int .i64 0, .str [], .str [], .snil, .snil, .str []])] [(r5, .room), (i4, .cells [.int .i64 p0.Kind, .str p0.Name.URI, .str p0.Name.Local, .sl 3 (List.map Af ([] ++ p0.Attrs)) r3, .sl 6 (List.map Ac []) r5, .str p0.Text]), (r3, .room), (i1, .cells [.int .i64 0, .str [], .str [], .sl 3 (List.map Af []) 0, .sl 6 (List.map Ac []) 0, .str []])] := (.keep (.keep (.keep (.weak (.cons (.refl _) (.cons (.refl _) (.cons (.refl _) (.cons (.nil _) (.cons (.nil _) (.cons (.refl _) (.nil))))))) .nil))))
     exact ⟨r3, r5, hr3, hr5, (hwo.spec ok).1, WS.mk' (.cons (.refl _) (.cons (.refl _) (.cons (.refl _) (.cons (.refl _) (.cons (.refl _) .nil))))) ok hwo⟩
    ·rintro G40 hG41 rec42 ⟨a31, a32, a33, a34, a36, a38, a39⟩ s' ih43 hF ⟨g35, g37, hg35, hg37, ok, hws⟩;refine Aw hws ?_;rw [BO] at hF;refine GG ?_;refine Bb rfl hF (fun hb44 hF => ?_) fun hb44 hF => ?_
     ·refine Lj ?_;refine Ce (mdl [(5, 1)]) ?_;refine Fi rfl rfl Ck Aj hF (fun x45 _ hF => ?_);refine Ap rfl (A3 (vs := Ac x45) At Aj (by rw [Aa]; rfl) (by rw [Aa]; rfl)) ?_;refine Ds ok rfl BP ?_;intro i46 hi46 ok;refine HS (j := 0) (cs' := [.int .i64 x45.Kind, .str x45.Name.URI, .str x45.Name.Local, .sl 3 (List.map Af x45.Attrs) 0, .sl 6 (List.map Ac x45.Kids) 0, .str x45.Text]) ok rfl (congrArg D.agg (Aa x45)) rfl hi46 rfl Aj rfl rfl (fun ok => ?_);refine C1 ?_;refine Ny (mdl [(29, 2)]) [0, 2] [1, 3, 4, 5, 6, 7] [3, 1, 4, 5, 6, 7] [_, _] [_, _, _, _, _, _] [_, _, _, _, _, _] (by kernel_rfl) rfl rfl rfl rfl (by kernel_rfl) ?_;refine TO ?_;refine Ej (j := 0) ok rfl rfl rfl hi46 (A3 (vs := Ac x45) At Aj rfl (Aa x45).symm) ?_;refine C1 ?_;refine ⟨?_, ?_⟩
      ·refine Zy ?_;refine cl (CM (enc := fun r => .agg (Ac r)) (fun G h hF => ih0 x45 G h hF) _ hF fun x47 _ hF => ?_);refine Iy (d := 27) (v := .agg [.int .i64 x47.Kind, .str x47.Name.URI, .str x47.Name.Local, .sl 3 (List.map Af x47.Attrs) 0, .sl 6 (List.map Ac x47.Kids) 0, .str x47.Text]) (congrArg D.agg (Aa x47)) ?_;refine Dr (cs := [.int .i64 x47.Kind, .str x47.Name.URI, .str x47.Name.Local, .sl 3 (List.map Af x47.Attrs) 0, .sl 6 (List.map Ac x47.Kids) 0, .str x47.Text]) (es := (List.map Ac [x47])) rfl DA rfl (by kernel_rfl) (by simp only [List.map_cons, List.map_nil, Aa]; rfl) ?_;refine Iu (j := 1) ok rfl rfl rfl rfl hg37 DA F9 hF ?_;intro r48 hr48 ok hF;refine TO ?_;refine st_ 2 ok hi4 Au (fun ok => ?_);refine PM ?_;refine ih43 (a31, a32, a33, a34, (a36 ++ [x47]), a38, (IntKind.wrap .i64 (a39 + 1))) _ hF ?_;exact ⟨g35, r48, hg35, hr48, oy ok, wy ok⟩
      ·refine cl (CM (enc := fun r => .agg (Ac r)) (fun G h hF => ih0 x45 G h hF) _ hF fun x49 _ hF => ?_);refine Zy ?_;refine Iy (d := 27) (v := .agg [.int .i64 x49.Kind, .str x49.Name.URI, .str x49.Name.Local, .sl 3 (List.map Af x49.Attrs) 0, .sl 6 (List.map Ac x49.Kids) 0, .str x49.Text]) (congrArg D.agg (Aa x49)) ?_;refine Dr (cs := [.int .i64 x49.Kind, .str x49.Name.URI, .str x49.Name.Local, .sl 3 (List.map Af x49.Attrs) 0, .sl 6 (List.map Ac x49.Kids) 0, .str x49.Text]) (es := (List.map Ac [x49])) rfl DA rfl (by kernel_rfl) (by simp only [List.map_cons, List.map_nil, Aa]; rfl) ?_;refine Iu (j := 1) ok rfl rfl rfl rfl hg37 DA F9 hF ?_;intro r50 hr50 ok hF;refine TO ?_;refine st_ 2 ok hi4 Au (fun ok => ?_);refine PM ?_;refine ih43 (a31, a32, a33, a34, (a36 ++ [x49]), a38, (IntKind.wrap .i64 (a39 + 1))) _ hF ?_;exact ⟨g35, r50, hg35, hr50, oy ok, wy ok⟩
     ·refine EI ?_;replace hF := hG41 _ (Ar hF);exact ⟨(a31, a32, a33, a34, a36, a38), hF, g35, g37, hg35, hg37, oy ok, wy ok⟩
   ·rintro ⟨a22, a23, a24, a25, a27, a29⟩ s' hF ⟨g26, g28, hg26, hg28, ok, hws⟩;refine Aw hws ?_;refine BL ?_;refine Ej (j := 1) ok rfl rfl rfl hi4 (A3 (vs := [.int .i64 a22, .str a23, .str a24, .sl 3 (List.map Af a25) g26, .sl 6 (List.map Ac a27) g28, .str a29]) At Aj rfl rfl) ?_;refine Gi 32 (v := .agg (Ac (⟨a22, (⟨a23, a24⟩ : Ad), a25, a27, a29⟩ : Ab))) (Wd.toE (.aggC (.cons (.refl _) (.cons (.refl _) (.cons (.refl _) (.cons (.zero _ _ _) (.cons (.zero _ _ _) (.cons (.refl _) (.nil)))))))) (Aa _)) ?_;refine HS (j := 3) (cs' := [.int .i64 (⟨a22, (⟨a23, a24⟩ : Ad), a25, a27, a29⟩ : Ab).Kind, .str (⟨a22, (⟨a23, a24⟩ : Ad), a25, a27, a29⟩ : Ab).Name.URI, .str (⟨a22, (⟨a23, a24⟩ : Ad), a25, a27, a29⟩ : Ab).Name.Local, .sl 3 (List.map Af (⟨a22, (⟨a23, a24⟩ : Ad), a25, a27, a29⟩ : Ab).Attrs) 0, .sl 6 (List.map Ac (⟨a22, (⟨a23, a24⟩ : Ad), a25, a27, a29⟩ : Ab).Kids) 0, .str (⟨a22, (⟨a23, a24⟩ : Ad), a25, a27, a29⟩ : Ab).Text]) ok rfl (congrArg D.agg (Aa (⟨a22, (⟨a23, a24⟩ : Ad), a25, a27, a29⟩ : Ab))) rfl hi1 rfl Aj rfl rfl (fun ok => ?_);refine Up ?_;refine xr ?_;refine Mj (fn := Tryz.f9) rfl (.cell rfl (Rf (j := 3) ok rfl hi1 (A3 (vs := [.int .i64 (⟨a22, (⟨a23, a24⟩ : Ad), a25, a27, a29⟩ : Ab).Kind, .str (⟨a22, (⟨a23, a24⟩ : Ad), a25, a27, a29⟩ : Ab).Name.URI, .str (⟨a22, (⟨a23, a24⟩ : Ad), a25, a27, a29⟩ : Ab).Name.Local, .sl 3 (List.map Af (⟨a22, (⟨a23, a24⟩ : Ad), a25, a27, a29⟩ : Ab).Attrs) 0, .sl 6 (List.map Ac (⟨a22, (⟨a23, a24⟩ : Ad), a25, a27, a29⟩ : Ab).Kids) 0, .str (⟨a22, (⟨a23, a24⟩ : Ad), a25, a27, a29⟩ : Ab).Text]) At Aj rfl rfl)) .nil) ?_;exact ⟨_, _, (Wd.toE (.aggC (.cons (.refl _) (.cons (.refl _) (.cons (.refl _) (.cons (.refl _) (.cons (.refl _) (.cons (.refl _) (.nil)))))))) (Aa _)), ok.wh, _, Ar hF, rfl, rfl⟩
  ·refine Ds ok rfl BP ?_;intro i51 hi51 ok;refine C1 ?_;refine A_seq [9, 10, 12] [_, _, _] 0 #[true, true, true, true, true, true, true, true, true, true, true, true, true] rfl rfl (by kernel_rfl) (by kernel_rfl) ?_;refine Iu (j := 1) ok rfl rfl rfl rfl hr2 Ir Mv hF ?_;intro r52 hr52 ok hF;refine Ef (v := .agg [.int .i64 p0.Kind, .str p0.Name.URI, .str p0.Name.Local, .sl 3 (List.map Af ([] ++ p0.Attrs)) r52, .snil, .str p0.Text]) (II BP In rfl) ?_;refine HS (j := 0) (cs' := [.int .i64 p0.Kind, .str p0.Name.URI, .str p0.Name.Local, .sl 3 (List.map Af ([] ++ p0.Attrs)) r52, .snil, .str p0.Text]) ok rfl rfl rfl hi51 rfl Aj rfl rfl (fun ok => ?_);refine C1 ?_;refine A_end (by kernel_rfl) ?_;refine ZJ ?_;show AY prog (mdl []) true #[] [] _ _;refine L5 0 4 6 (fun r53 => [.int .i64 p0.Kind, .str p0.Name.URI, .str p0.Name.Local, .sl 3 (List.map Af ([] ++ p0.Attrs)) r52, .sl 6 (List.map Ac []) r53, .str p0.Text]) ok rfl hi51 rfl (fun _ => rfl) ?_;intro r53 hr53 ok;refine C1 ?_;refine AF hF (fun (v : Int × (List By8) × (List By8) × (List Ae) × (List Ab) × (List By8)) s' => match v with | (a70, a71, a72, a73, a75, a77) => ∃ g74 g76 : Nat, g74 ≠ 0 /\ g76 ≠ 0 /\ Zs h [(g76, .room), (i51, .cells [.int .i64 a70, .str a71, .str a72, .sl 3 (List.map Af a73) g74, .sl 6 (List.map Ac a75) g76, .str a77]), (g74, .room), (i1, .cells [.int .i64 0, .str [], .str [], .sl 3 (List.map Af []) 0, .sl 6 (List.map Ac []) 0, .str []])] 33 [(2, .ptr i1 0), (3, .ptr i51 0)] s') (fun J78 hF => ?_) ?_
   ·refine BL ?_;refine Ax rfl AZ Au (by rw [Aa]; rfl) ?_;refine Ap rfl (Az BF Au (congrArg (List.drop 4) (Aa p0))) ?_;refine MK ?_;refine Bk (σ := Int × (List By8) × (List By8) × (List Ae) × (List Ab) × (List By8) × Int) hF (fun (v : Int × (List By8) × (List By8) × (List Ae) × (List Ab) × (List By8) × Int) s' => match v with | (a79, a80, a81, a82, a84, a86, a87) => ∃ g83 g85 : Nat, g83 ≠ 0 /\ g85 ≠ 0 /\ Zs h [(g85, .room), (i51, .cells [.int .i64 a79, .str a80, .str a81, .sl 3 (List.map Af a82) g83, .sl 6 (List.map Ac a84) g85, .str a86]), (g83, .room), (i1, .cells [.int .i64 0, .str [], .str [], .sl 3 (List.map Af []) 0, .sl 6 (List.map Ac []) 0, .str []])] 33 [(2, .ptr i1 0), (3, .ptr i51 0), (18, .sl 6 (List.map Ac p0.Kids) 0), (19, .int .i64 (p0.Kids.length : Int)), (20, .int .i64 a87)] s') ?_ ?_
    ·have hwo : WO [(r53, .room), (i51, .cells [.int .i64 p0.Kind, .str p0.Name.URI, .str p0.Name.Local, .sl 3 (List.map Af ([] ++ p0.Attrs)) r52, .sl 6 (List.map Ac []) r53, .str p0.Text]), (r52, .room), (i1, .cells [.int .i64 0, .str [], .str [], .snil, .snil, .str []])] [(r53, .room), (i51, .cells [.int .i64 p0.Kind, .str p0.Name.URI, .str p0.Name.Local, .sl 3 (List.map Af ([] ++ p0.Attrs)) r52, .sl 6 (List.map Ac []) r53, .str p0.Text]), (r52, .room), (i1, .cells [.int .i64 0, .str [], .str [], .sl 3 (List.map Af []) 0, .sl 6 (List.map Ac []) 0, .str []])] := (.keep (.keep (.keep (.weak (.cons (.refl _) (.cons (.refl _) (.cons (.refl _) (.cons (.nil _) (.cons (.nil _) (.cons (.refl _) (.nil))))))) .nil))))
     exact ⟨r52, r53, hr52, hr53, (hwo.spec ok).1, WS.mk' (.cons (.refl _) (.cons (.refl _) (.cons (.refl _) (.cons (.refl _) (.cons (.refl _) .nil))))) ok hwo⟩
    ·rintro G88 hG89 rec90 ⟨a79, a80, a81, a82, a84, a86, a87⟩ s' ih91 hF ⟨g83, g85, hg83, hg85, ok, hws⟩;refine Aw hws ?_;rw [BO] at hF;refine GG ?_;refine Bb rfl hF (fun hb92 hF => ?_) fun hb92 hF => ?_
     ·refine Lj ?_;refine Ce (mdl [(5, 1)]) ?_;refine Fi rfl rfl Ck Aj hF (fun x93 _ hF => ?_);refine Ap rfl (A3 (vs := Ac x93) At Aj (by rw [Aa]; rfl) (by rw [Aa]; rfl)) ?_;refine Ds ok rfl BP ?_;intro i94 hi94 ok;refine HS (j := 0) (cs' := [.int .i64 x93.Kind, .str x93.Name.URI, .str x93.Name.Local, .sl 3 (List.map Af x93.Attrs) 0, .sl 6 (List.map Ac x93.Kids) 0, .str x93.Text]) ok rfl (congrArg D.agg (Aa x93)) rfl hi94 rfl Aj rfl rfl (fun ok => ?_);refine C1 ?_;refine Ny (mdl [(29, 2)]) [0, 2] [1, 3, 4, 5, 6, 7] [3, 1, 4, 5, 6, 7] [_, _] [_, _, _, _, _, _] [_, _, _, _, _, _] (by kernel_rfl) rfl rfl rfl rfl (by kernel_rfl) ?_;refine TO ?_;refine Ej (j := 0) ok rfl rfl rfl hi94 (A3 (vs := Ac x93) At Aj rfl (Aa x93).symm) ?_;refine C1 ?_;refine ⟨?_, ?_⟩
      ·refine Zy ?_;refine cl (CM (enc := fun r => .agg (Ac r)) (fun G h hF => ih0 x93 G h hF) _ hF fun x95 _ hF => ?_);refine Iy (d := 27) (v := .agg [.int .i64 x95.Kind, .str x95.Name.URI, .str x95.Name.Local, .sl 3 (List.map Af x95.Attrs) 0, .sl 6 (List.map Ac x95.Kids) 0, .str x95.Text]) (congrArg D.agg (Aa x95)) ?_;refine Dr (cs := [.int .i64 x95.Kind, .str x95.Name.URI, .str x95.Name.Local, .sl 3 (List.map Af x95.Attrs) 0, .sl 6 (List.map Ac x95.Kids) 0, .str x95.Text]) (es := (List.map Ac [x95])) rfl DA rfl (by kernel_rfl) (by simp only [List.map_cons, List.map_nil, Aa]; rfl) ?_;refine Iu (j := 1) ok rfl rfl rfl rfl hg85 DA F9 hF ?_;intro r96 hr96 ok hF;refine TO ?_;refine st_ 2 ok hi51 Au (fun ok => ?_);refine PM ?_;refine ih91 (a79, a80, a81, a82, (a84 ++ [x95]), a86, (IntKind.wrap .i64 (a87 + 1))) _ hF ?_;exact ⟨g83, r96, hg83, hr96, oy ok, wy ok⟩
      ·refine cl (CM (enc := fun r => .agg (Ac r)) (fun G h hF => ih0 x93 G h hF) _ hF fun x97 _ hF => ?_);refine Zy ?_;refine Iy (d := 27) (v := .agg [.int .i64 x97.Kind, .str x97.Name.URI, .str x97.Name.Local, .sl 3 (List.map Af x97.Attrs) 0, .sl 6 (List.map Ac x97.Kids) 0, .str x97.Text]) (congrArg D.agg (Aa x97)) ?_;refine Dr (cs := [.int .i64 x97.Kind, .str x97.Name.URI, .str x97.Name.Local, .sl 3 (List.map Af x97.Attrs) 0, .sl 6 (List.map Ac x97.Kids) 0, .str x97.Text]) (es := (List.map Ac [x97])) rfl DA rfl (by kernel_rfl) (by simp only [List.map_cons, List.map_nil, Aa]; rfl) ?_;refine Iu (j := 1) ok rfl rfl rfl rfl hg85 DA F9 hF ?_;intro r98 hr98 ok hF;refine TO ?_;refine st_ 2 ok hi51 Au (fun ok => ?_);refine PM ?_;refine ih91 (a79, a80, a81, a82, (a84 ++ [x97]), a86, (IntKind.wrap .i64 (a87 + 1))) _ hF ?_;exact ⟨g83, r98, hg83, hr98, oy ok, wy ok⟩
     ·refine EI ?_;replace hF := hG89 _ (Ar hF);exact ⟨(a79, a80, a81, a82, a84, a86), hF, g83, g85, hg83, hg85, oy ok, wy ok⟩
   ·rintro ⟨a70, a71, a72, a73, a75, a77⟩ s' hF ⟨g74, g76, hg74, hg76, ok, hws⟩;refine Aw hws ?_;refine BL ?_;refine Ej (j := 1) ok rfl rfl rfl hi51 (A3 (vs := [.int .i64 a70, .str a71, .str a72, .sl 3 (List.map Af a73) g74, .sl 6 (List.map Ac a75) g76, .str a77]) At Aj rfl rfl) ?_;refine Gi 32 (v := .agg (Ac (⟨a70, (⟨a71, a72⟩ : Ad), a73, a75, a77⟩ : Ab))) (Wd.toE (.aggC (.cons (.refl _) (.cons (.refl _) (.cons (.refl _) (.cons (.zero _ _ _) (.cons (.zero _ _ _) (.cons (.refl _) (.nil)))))))) (Aa _)) ?_;refine HS (j := 3) (cs' := [.int .i64 (⟨a70, (⟨a71, a72⟩ : Ad), a73, a75, a77⟩ : Ab).Kind, .str (⟨a70, (⟨a71, a72⟩ : Ad), a73, a75, a77⟩ : Ab).Name.URI, .str (⟨a70, (⟨a71, a72⟩ : Ad), a73, a75, a77⟩ : Ab).Name.Local, .sl 3 (List.map Af (⟨a70, (⟨a71, a72⟩ : Ad), a73, a75, a77⟩ : Ab).Attrs) 0, .sl 6 (List.map Ac (⟨a70, (⟨a71, a72⟩ : Ad), a73, a75, a77⟩ : Ab).Kids) 0, .str (⟨a70, (⟨a71, a72⟩ : Ad), a73, a75, a77⟩ : Ab).Text]) ok rfl (congrArg D.agg (Aa (⟨a70, (⟨a71, a72⟩ : Ad), a73, a75, a77⟩ : Ab))) rfl hi1 rfl Aj rfl rfl (fun ok => ?_);refine Up ?_;refine xr ?_;refine Mj (fn := Tryz.f9) rfl (.cell rfl (Rf (j := 3) ok rfl hi1 (A3 (vs := [.int .i64 (⟨a70, (⟨a71, a72⟩ : Ad), a73, a75, a77⟩ : Ab).Kind, .str (⟨a70, (⟨a71, a72⟩ : Ad), a73, a75, a77⟩ : Ab).Name.URI, .str (⟨a70, (⟨a71, a72⟩ : Ad), a73, a75, a77⟩ : Ab).Name.Local, .sl 3 (List.map Af (⟨a70, (⟨a71, a72⟩ : Ad), a73, a75, a77⟩ : Ab).Attrs) 0, .sl 6 (List.map Ac (⟨a70, (⟨a71, a72⟩ : Ad), a73, a75, a77⟩ : Ab).Kids) 0, .str (⟨a70, (⟨a71, a72⟩ : Ad), a73, a75, a77⟩ : Ab).Text]) At Aj rfl rfl)) .nil) ?_;exact ⟨_, _, (Wd.toE (.aggC (.cons (.refl _) (.cons (.refl _) (.cons (.refl _) (.cons (.refl _) (.cons (.refl _) (.cons (.refl _) (.nil)))))))) (Aa _)), ok.wh, _, Ar hF, rfl, rfl⟩
 ·refine Ds ok rfl BP ?_;intro i99 hi99 ok;refine C1 ?_;refine A_seq [6, 9, 10, 12] [_, _, _, _] 0 #[true, true, true, true, true, true, true, true, true, true, true, true, true] rfl rfl (by kernel_rfl) (by kernel_rfl) ?_;refine Lt (cs := []) (es := (List.map Af [])) ok rfl Ir rfl (by kernel_rfl) (by kernel_rfl) ?_;intro r100 hr100 ok;refine Iu (j := 0) ok rfl rfl rfl rfl hr100 Ir Mv hF ?_;intro r101 hr101 ok hF;refine Ef (v := .agg [.int .i64 p0.Kind, .str p0.Name.URI, .str p0.Name.Local, .sl 3 (List.map Af ([] ++ p0.Attrs)) r101, .snil, .str p0.Text]) (II BP In rfl) ?_;refine HS (j := 1) (cs' := [.int .i64 p0.Kind, .str p0.Name.URI, .str p0.Name.Local, .sl 3 (List.map Af ([] ++ p0.Attrs)) r101, .snil, .str p0.Text]) ok rfl rfl rfl hi99 rfl Aj rfl rfl (fun ok => ?_);refine C1 ?_;refine A_end (by kernel_rfl) ?_;refine ZJ ?_;show AY prog (mdl []) true #[] [] _ _;refine L5 1 4 6 (fun r102 => [.int .i64 p0.Kind, .str p0.Name.URI, .str p0.Name.Local, .sl 3 (List.map Af ([] ++ p0.Attrs)) r101, .sl 6 (List.map Ac []) r102, .str p0.Text]) ok rfl hi99 rfl (fun _ => rfl) ?_;intro r102 hr102 ok;refine C1 ?_;refine AF hF (fun (v : Int × (List By8) × (List By8) × (List Ae) × (List Ab) × (List By8)) s' => match v with | (a119, a120, a121, a122, a124, a126) => ∃ g123 g125 : Nat, g123 ≠ 0 /\ g125 ≠ 0 /\ Zs h [(g125, .room), (g123, .room), (i99, .cells [.int .i64 a119, .str a120, .str a121, .sl 3 (List.map Af a122) g123, .sl 6 (List.map Ac a124) g125, .str a126]), (i1, .cells [.int .i64 0, .str [], .str [], .sl 3 (List.map Af []) 0, .sl 6 (List.map Ac []) 0, .str []])] 33 [(2, .ptr i1 0), (3, .ptr i99 0)] s') (fun J127 hF => ?_) ?_
  ·refine BL ?_;refine Ax rfl AZ Au (by rw [Aa]; rfl) ?_;refine Ap rfl (Az BF Au (congrArg (List.drop 4) (Aa p0))) ?_;refine MK ?_;refine Bk (σ := Int × (List By8) × (List By8) × (List Ae) × (List Ab) × (List By8) × Int) hF (fun (v : Int × (List By8) × (List By8) × (List Ae) × (List Ab) × (List By8) × Int) s' => match v with | (a128, a129, a130, a131, a133, a135, a136) => ∃ g132 g134 : Nat, g132 ≠ 0 /\ g134 ≠ 0 /\ Zs h [(g134, .room), (g132, .room), (i99, .cells [.int .i64 a128, .str a129, .str a130, .sl 3 (List.map Af a131) g132, .sl 6 (List.map Ac a133) g134, .str a135]), (i1, .cells [.int .i64 0, .str [], .str [], .sl 3 (List.map Af []) 0, .sl 6 (List.map Ac []) 0, .str []])] 33 [(2, .ptr i1 0), (3, .ptr i99 0), (18, .sl 6 (List.map Ac p0.Kids) 0), (19, .int .i64 (p0.Kids.length : Int)), (20, .int .i64 a136)] s') ?_ ?_
   ·have hwo : WO [(r102, .room), (r101, .room), (i99, .cells [.int .i64 p0.Kind, .str p0.Name.URI, .str p0.Name.Local, .sl 3 (List.map Af ([] ++ p0.Attrs)) r101, .sl 6 (List.map Ac []) r102, .str p0.Text]), (i1, .cells [.int .i64 0, .str [], .str [], .snil, .snil, .str []])] [(r102, .room), (r101, .room), (i99, .cells [.int .i64 p0.Kind, .str p0.Name.URI, .str p0.Name.Local, .sl 3 (List.map Af ([] ++ p0.Attrs)) r101, .sl 6 (List.map Ac []) r102, .str p0.Text]), (i1, .cells [.int .i64 0, .str [], .str [], .sl 3 (List.map Af []) 0, .sl 6 (List.map Ac []) 0, .str []])] := (.keep (.keep (.keep (.weak (.cons (.refl _) (.cons (.refl _) (.cons (.refl _) (.cons (.nil _) (.cons (.nil _) (.cons (.refl _) (.nil))))))) .nil))))
    exact ⟨r101, r102, hr101, hr102, (hwo.spec ok).1, WS.mk' (.cons (.refl _) (.cons (.refl _) (.cons (.refl _) (.cons (.refl _) (.cons (.refl _) .nil))))) ok hwo⟩
   ·rintro G137 hG138 rec139 ⟨a128, a129, a130, a131, a133, a135, a136⟩ s' ih140 hF ⟨g132, g134, hg132, hg134, ok, hws⟩;refine Aw hws ?_;rw [BO] at hF;refine GG ?_;refine Bb rfl hF (fun hb141 hF => ?_) fun hb141 hF => ?_
    ·refine Lj ?_;refine Ce (mdl [(5, 1)]) ?_;refine Fi rfl rfl Ck Aj hF (fun x142 _ hF => ?_);refine Ap rfl (A3 (vs := Ac x142) At Aj (by rw [Aa]; rfl) (by rw [Aa]; rfl)) ?_;refine Ds ok rfl BP ?_;intro i143 hi143 ok;refine HS (j := 0) (cs' := [.int .i64 x142.Kind, .str x142.Name.URI, .str x142.Name.Local, .sl 3 (List.map Af x142.Attrs) 0, .sl 6 (List.map Ac x142.Kids) 0, .str x142.Text]) ok rfl (congrArg D.agg (Aa x142)) rfl hi143 rfl Aj rfl rfl (fun ok => ?_);refine C1 ?_;refine Ny (mdl [(29, 2)]) [0, 2] [1, 3, 4, 5, 6, 7] [3, 1, 4, 5, 6, 7] [_, _] [_, _, _, _, _, _] [_, _, _, _, _, _] (by kernel_rfl) rfl rfl rfl rfl (by kernel_rfl) ?_;refine TO ?_;refine Ej (j := 0) ok rfl rfl rfl hi143 (A3 (vs := Ac x142) At Aj rfl (Aa x142).symm) ?_;refine C1 ?_;refine ⟨?_, ?_⟩
     ·refine Ac0 ?_;refine cl (CM (enc := fun r => .agg (Ac r)) (fun G h hF => ih0 x142 G h hF) _ hF fun x144 _ hF => ?_);refine Iy (d := 27) (v := .agg [.int .i64 x144.Kind, .str x144.Name.URI, .str x144.Name.Local, .sl 3 (List.map Af x144.Attrs) 0, .sl 6 (List.map Ac x144.Kids) 0, .str x144.Text]) (congrArg D.agg (Aa x144)) ?_;refine Dr (cs := [.int .i64 x144.Kind, .str x144.Name.URI, .str x144.Name.Local, .sl 3 (List.map Af x144.Attrs) 0, .sl 6 (List.map Ac x144.Kids) 0, .str x144.Text]) (es := (List.map Ac [x144])) rfl DA rfl (by kernel_rfl) (by simp only [List.map_cons, List.map_nil, Aa]; rfl) ?_;refine Iu (j := 1) ok rfl rfl rfl rfl hg134 DA F9 hF ?_;intro r145 hr145 ok hF;refine TO ?_;refine st_ 3 ok hi99 Au (fun ok => ?_);refine PM ?_;refine ih140 (a128, a129, a130, a131, (a133 ++ [x144]), a135, (IntKind.wrap .i64 (a136 + 1))) _ hF ?_;exact ⟨g132, r145, hg132, hr145, oy ok, wy ok⟩
     ·refine cl (CM (enc := fun r => .agg (Ac r)) (fun G h hF => ih0 x142 G h hF) _ hF fun x146 _ hF => ?_);refine Ac0 ?_;refine Iy (d := 27) (v := .agg [.int .i64 x146.Kind, .str x146.Name.URI, .str x146.Name.Local, .sl 3 (List.map Af x146.Attrs) 0, .sl 6 (List.map Ac x146.Kids) 0, .str x146.Text]) (congrArg D.agg (Aa x146)) ?_;refine Dr (cs := [.int .i64 x146.Kind, .str x146.Name.URI, .str x146.Name.Local, .sl 3 (List.map Af x146.Attrs) 0, .sl 6 (List.map Ac x146.Kids) 0, .str x146.Text]) (es := (List.map Ac [x146])) rfl DA rfl (by kernel_rfl) (by simp only [List.map_cons, List.map_nil, Aa]; rfl) ?_;refine Iu (j := 1) ok rfl rfl rfl rfl hg134 DA F9 hF ?_;intro r147 hr147 ok hF;refine TO ?_;refine st_ 3 ok hi99 Au (fun ok => ?_);refine PM ?_;refine ih140 (a128, a129, a130, a131, (a133 ++ [x146]), a135, (IntKind.wrap .i64 (a136 + 1))) _ hF ?_;exact ⟨g132, r147, hg132, hr147, oy ok, wy ok⟩
    ·refine EI ?_;replace hF := hG138 _ (Ar hF);exact ⟨(a128, a129, a130, a131, a133, a135), hF, g132, g134, hg132, hg134, oy ok, wy ok⟩
  ·rintro ⟨a119, a120, a121, a122, a124, a126⟩ s' hF ⟨g123, g125, hg123, hg125, ok, hws⟩;refine Aw hws ?_;refine BL ?_;refine Ej (j := 2) ok rfl rfl rfl hi99 (A3 (vs := [.int .i64 a119, .str a120, .str a121, .sl 3 (List.map Af a122) g123, .sl 6 (List.map Ac a124) g125, .str a126]) At Aj rfl rfl) ?_;refine Gi 32 (v := .agg (Ac (⟨a119, (⟨a120, a121⟩ : Ad), a122, a124, a126⟩ : Ab))) (Wd.toE (.aggC (.cons (.refl _) (.cons (.refl _) (.cons (.refl _) (.cons (.zero _ _ _) (.cons (.zero _ _ _) (.cons (.refl _) (.nil)))))))) (Aa _)) ?_;refine HS (j := 3) (cs' := [.int .i64 (⟨a119, (⟨a120, a121⟩ : Ad), a122, a124, a126⟩ : Ab).Kind, .str (⟨a119, (⟨a120, a121⟩ : Ad), a122, a124, a126⟩ : Ab).Name.URI, .str (⟨a119, (⟨a120, a121⟩ : Ad), a122, a124, a126⟩ : Ab).Name.Local, .sl 3 (List.map Af (⟨a119, (⟨a120, a121⟩ : Ad), a122, a124, a126⟩ : Ab).Attrs) 0, .sl 6 (List.map Ac (⟨a119, (⟨a120, a121⟩ : Ad), a122, a124, a126⟩ : Ab).Kids) 0, .str (⟨a119, (⟨a120, a121⟩ : Ad), a122, a124, a126⟩ : Ab).Text]) ok rfl (congrArg D.agg (Aa (⟨a119, (⟨a120, a121⟩ : Ad), a122, a124, a126⟩ : Ab))) rfl hi1 rfl Aj rfl rfl (fun ok => ?_);refine Up ?_;refine xr ?_;refine Mj (fn := Tryz.f9) rfl (.cell rfl (Rf (j := 3) ok rfl hi1 (A3 (vs := [.int .i64 (⟨a119, (⟨a120, a121⟩ : Ad), a122, a124, a126⟩ : Ab).Kind, .str (⟨a119, (⟨a120, a121⟩ : Ad), a122, a124, a126⟩ : Ab).Name.URI, .str (⟨a119, (⟨a120, a121⟩ : Ad), a122, a124, a126⟩ : Ab).Name.Local, .sl 3 (List.map Af (⟨a119, (⟨a120, a121⟩ : Ad), a122, a124, a126⟩ : Ab).Attrs) 0, .sl 6 (List.map Ac (⟨a119, (⟨a120, a121⟩ : Ad), a122, a124, a126⟩ : Ab).Kids) 0, .str (⟨a119, (⟨a120, a121⟩ : Ad), a122, a124, a126⟩ : Ab).Text]) At Aj rfl rfl)) .nil) ?_;exact ⟨_, _, (Wd.toE (.aggC (.cons (.refl _) (.cons (.refl _) (.cons (.refl _) (.cons (.refl _) (.cons (.refl _) (.cons (.refl _) (.nil)))))))) (Aa _)), ok.wh, _, Ar hF, rfl, rfl⟩
theorem HU (p0 : Ab) {G : Ab -> Prop} (h : Heap) (hF : OptP (Dw p0) G) : CallsA prog 9 [.agg (Ac p0)] h fun d h' => ∃ r, G r /\ d = .agg (Ac r) /\ h' = h := HF FUEL p0 G h hF
theorem Hd {β : Type} {f : Ab -> Option β} {G : β -> Prop} {R : D -> Heap -> Prop} {p0 : Ab} (h : Heap) (hF : OptP ((Dw p0).bind f) G) (hk : ∀ r, Dw p0 = some r -> OptP (f r) G -> R (.agg (Ac r)) h) : CallsA prog 9 [.agg (Ac p0)] h R := by
 obtain ⟨r0, hr, hF⟩ := AM hF;refine (HU (G := fun r => r = r0) p0 h ⟨r0, hr, rfl⟩).mono ?_;rintro _ _ ⟨r, rfl, rfl, rfl⟩;exact hk _ hr hF
theorem HT : ∀ (N : Nat) (v : Ab) (G : (List Ab) -> Prop) (h : Heap), OptP (iter By N v) G -> CallsA prog 49 [.agg (Ac v)] h fun d h' => ∃ r, G r /\ d = .sl 6 (List.map Ac r) 0 /\ h' = h := by
 intro N
 induction N with
 | zero => intro v G h hF; exact IH hF
 | succ N ih0 =>
 intro p0 G h hF;show CallsA prog 49 [.agg (Ac p0)] h fun d h' => ∃ r, G r /\ d = .sl 6 (List.map Ac r) 0 /\ h' = h;replace hF : OptP (By (iter By N) p0) G := hF;refine CallsA.ret ?_;refine AS func49 rfl Ab8 ntmps49 rfl (fun ok => ?_);rw [By] at hF;refine BL ?_;refine B1 (v := .agg (Ac p0)) (cs := Ac p0) rfl rfl rfl rfl ?_;refine S_a (v := .snil) rfl ?_;refine Gi 2 (v := .sl 6 (List.map Ac []) 0) (.nil _) ?_;refine SI ?_;refine Ce (mdl [(7, 2)]) ?_;refine Ap rfl (A3 (vs := Ac p0) At Aj (by rw [Aa]; rfl) (by rw [Aa]; rfl)) ?_;refine Iy (d := 6) (v := .agg [.int .i64 p0.Kind, .str p0.Name.URI, .str p0.Name.Local, .sl 3 (List.map Af p0.Attrs) 0, .sl 6 (List.map Ac p0.Kids) 0, .str p0.Text]) (congrArg D.agg (Aa p0)) ?_;refine Lt (cs := [.int .i64 p0.Kind, .str p0.Name.URI, .str p0.Name.Local, .sl 3 (List.map Af p0.Attrs) 0, .sl 6 (List.map Ac p0.Kids) 0, .str p0.Text]) (es := (List.map Ac [p0])) ok rfl DA rfl (by kernel_rfl) (by simp only [List.map_cons, List.map_nil, Aa]; rfl) ?_;intro r1 hr1 ok;refine MN ?_;refine AF hF (fun (a10 : (List Ab)) s' => ∃ g11 : Nat, g11 ≠ 0 /\ Zs h [(g11, .room)] 21 [(3, .sl 6 (List.map Ac a10) g11)] s') (fun J12 hF => ?_) ?_
 ·refine BL ?_;refine Ax rfl AZ Au (by rw [Aa]; rfl) ?_;refine Ap rfl (Az BF Au (congrArg (List.drop 4) (Aa p0))) ?_;refine MK ?_;refine Bk (σ := (List Ab) × Int) hF (fun (v : (List Ab) × Int) s' => match v with | (a13, a15) => ∃ g14 : Nat, g14 ≠ 0 /\ Zs h [(g14, .room)] 21 [(3, .sl 6 (List.map Ac a13) g14), (9, .sl 6 (List.map Ac p0.Kids) 0), (10, .int .i64 (p0.Kids.length : Int)), (11, .int .i64 a15)] s') ?_ ?_
  ·exact ⟨r1, hr1, oy ok, wy ok⟩
  ·rintro G16 hG17 rec18 ⟨a13, a15⟩ s' ih19 hF ⟨g14, hg14, ok, hws⟩;refine Aw hws ?_;rw [CR] at hF;refine GG ?_;refine Bb rfl hF (fun hb20 hF => ?_) fun hb20 hF => ?_
   ·refine Lj ?_;refine Ce (mdl [(5, 1)]) ?_;refine Fi rfl rfl Ck Aj hF (fun x21 _ hF => ?_);refine Ap rfl (A3 (vs := Ac x21) At Aj (by rw [Aa]; rfl) (by rw [Aa]; rfl)) ?_;refine Ds ok rfl BP ?_;intro i22 hi22 ok;refine HS (j := 0) (cs' := [.int .i64 x21.Kind, .str x21.Name.URI, .str x21.Name.Local, .sl 3 (List.map Af x21.Attrs) 0, .sl 6 (List.map Ac x21.Kids) 0, .str x21.Text]) ok rfl (congrArg D.agg (Aa x21)) rfl hi22 rfl Aj rfl rfl (fun ok => ?_);refine C1 ?_;refine Ce (mdl [(18, 2)]) ?_;refine Md ?_;refine Ej (j := 0) ok rfl rfl rfl hi22 (A3 (vs := Ac x21) At Aj rfl (Aa x21).symm) ?_;refine cl (CM (enc := fun r => .sl 6 (List.map Ac r) 0) (fun G h hF => ih0 x21 G h hF) _ hF fun x23 _ hF => ?_);refine Iu (j := 1) ok rfl rfl rfl rfl hg14 DA F9 hF ?_;intro r24 hr24 ok hF;refine MN ?_;refine Np ?_;refine ih19 ((a13 ++ x23), (IntKind.wrap .i64 (a15 + 1))) _ hF ?_;exact ⟨r24, hr24, oy ok, wy ok⟩
   ·refine EI ?_;replace hF := hG17 _ (Ar hF);exact ⟨a13, hF, g14, hg14, oy ok, wy ok⟩
 ·rintro a10 s' hF ⟨g11, hg11, ok, hws⟩;refine Aw hws ?_;refine Jm ?_;refine Gi 20 (v := .sl 6 (List.map Ac a10) 0) (.zero _ _ _) ?_;refine MN ?_;refine SZ ?_;exact rt
theorem Ib (p0 : Ab) {G : (List Ab) -> Prop} (h : Heap) (hF : OptP (CY p0) G) : CallsA prog 49 [.agg (Ac p0)] h fun d h' => ∃ r, G r /\ d = .sl 6 (List.map Ac r) 0 /\ h' = h := HT FUEL p0 G h hF
theorem E4 {β : Type} {f : (List Ab) -> Option β} {G : β -> Prop} {R : D -> Heap -> Prop} {p0 : Ab} (h : Heap) (hF : OptP ((CY p0).bind f) G) (hk : ∀ r, CY p0 = some r -> OptP (f r) G -> R (.sl 6 (List.map Ac r) 0) h) : CallsA prog 49 [.agg (Ac p0)] h R := by
 obtain ⟨r0, hr, hF⟩ := AM hF;refine (Ib (G := fun r => r = r0) p0 h ⟨r0, hr, rfl⟩).mono ?_;rintro _ _ ⟨r, rfl, rfl, rfl⟩;exact hk _ hr hF
theorem HM : ∀ (N : Nat) (v : Ab × Int) (G : Bool -> Prop) (h : Heap), OptP (iter Bu N v) G -> CallsA prog 50 [.agg (Ac v.1), .int .i64 v.2] h fun d h' => ∃ r, G r /\ d = .bool r /\ h' = h := by
 intro N
 induction N with
 | zero => intro v G h hF; exact IH hF
 | succ N ih0 =>
 rintro ⟨p0, p1⟩ G h hF;show CallsA prog 50 [.agg (Ac p0), .int .i64 p1] h fun d h' => ∃ r, G r /\ d = .bool r /\ h' = h;replace hF : OptP (Bu (iter Bu N) (p0, p1)) G := hF;refine CallsA.ret ?_;refine AS func50 rfl Aa4 ntmps50 rfl (fun ok => ?_);rw [Bu] at hF;refine BL ?_;refine B1 (v := .agg (Ac p0)) (cs := Ac p0) rfl rfl rfl rfl ?_;refine Fs ?_;refine AF hF (fun (a3 : Int) s' => Zs h [] 25 [(1, .int .i64 a3), (2, .iptr (Ac p0))] s') (fun J4 hF => ?_) ?_
 ·refine BL ?_;refine Ax rfl Bd AQ (by rw [Aa]; rfl) ?_;refine Ap rfl (Az CL AQ (congrArg (List.drop 0) (Aa p0))) ?_;refine Sa ?_;refine Bb rfl hF (fun hb5 hF => ?_) fun hb5 hF => ?_
  ·refine JF ?_;refine K6 ?_;refine Bb rfl hF (fun hb6 hF => ?_) fun hb6 hF => ?_
   ·refine G5 ?_;exact rt
   ·refine Eh ?_;refine MH ?_;refine Pe ?_;refine IA ?_;exact ⟨(IntKind.wrap .i64 (p1 - 1)), hF, oy ok, wy ok⟩
  ·refine Eh ?_;exact ⟨p1, hF, oy ok, wy ok⟩
 ·rintro a3 s' hF ⟨ok, hws⟩;refine Aw hws ?_;refine AF hF (fun (_ : Unit) s' => Zs h [] 25 [] s') (fun J13 hF => ?_) ?_
  ·refine BL ?_;refine Ax rfl AZ Au (by rw [Aa]; rfl) ?_;refine Ap rfl (Az BF Au (congrArg (List.drop 4) (Aa p0))) ?_;refine MK ?_;refine Bk (σ := Int) hF (fun (a14 : Int) s' => Zs h [] 25 [(1, .int .i64 a3), (15, .sl 6 (List.map Ac p0.Kids) 0), (16, .int .i64 (p0.Kids.length : Int)), (17, .int .i64 a14)] s') ?_ ?_
   ·exact ⟨oy ok, wy ok⟩
   ·rintro G15 hG16 rec17 a14 s' ih18 hF ⟨ok, hws⟩;refine Aw hws ?_;rw [CU] at hF;refine GG ?_;refine Bb rfl hF (fun hb19 hF => ?_) fun hb19 hF => ?_
    ·refine Lj ?_;refine Ce (mdl [(6, 1)]) ?_;refine Fi rfl rfl Ck Aj hF (fun x20 _ hF => ?_);refine Ap rfl (A3 (vs := Ac x20) At Aj (by rw [Aa]; rfl) (by rw [Aa]; rfl)) ?_;refine Ds ok rfl BP ?_;intro i21 hi21 ok;refine HS (j := 0) (cs' := [.int .i64 x20.Kind, .str x20.Name.URI, .str x20.Name.Local, .sl 3 (List.map Af x20.Attrs) 0, .sl 6 (List.map Ac x20.Kids) 0, .str x20.Text]) ok rfl (congrArg D.agg (Aa x20)) rfl hi21 rfl Aj rfl rfl (fun ok => ?_);refine Ji ?_;refine Ej (j := 0) ok rfl rfl rfl hi21 (A3 (vs := Ac x20) At Aj rfl (Aa x20).symm) ?_;refine H8 ?_;refine cl (CM (enc := fun r => .bool r) (fun G h hF => ih0 (x20, a3) G h hF) _ hF fun x22 _ hF => ?_);refine C1 ?_;refine Bb rfl hF (fun hb23 hF => ?_) fun hb23 hF => ?_
     ·refine G5 ?_;replace hF := hG16 _ (Ar hF);exact rt
     ·refine NE ?_;refine ih18 (IntKind.wrap .i64 (a14 + 1)) _ hF ?_;exact ⟨oy ok, wy ok⟩
    ·refine EI ?_;replace hF := hG16 _ (Ar hF);exact ⟨(), hF, oy ok, wy ok⟩
  ·rintro ⟨⟩ s' hF ⟨ok, hws⟩;refine Aw hws ?_;refine G5 ?_;exact rt
theorem HE (p0 : Ab) (p1 : Int) {G : Bool -> Prop} (h : Heap) (hF : OptP (Dz p0 p1) G) : CallsA prog 50 [.agg (Ac p0), .int .i64 p1] h fun d h' => ∃ r, G r /\ d = .bool r /\ h' = h := HM FUEL (p0, p1) G h hF
theorem Hu {β : Type} {f : Bool -> Option β} {G : β -> Prop} {R : D -> Heap -> Prop} {p0 : Ab} {p1 : Int} (h : Heap) (hF : OptP ((Dz p0 p1).bind f) G) (hk : ∀ r, Dz p0 p1 = some r -> OptP (f r) G -> R (.bool r) h) : CallsA prog 50 [.agg (Ac p0), .int .i64 p1] h R := by
 obtain ⟨r0, hr, hF⟩ := AM hF;refine (HE (G := fun r => r = r0) p0 p1 h ⟨r0, hr, rfl⟩).mono ?_;rintro _ _ ⟨r, rfl, rfl, rfl⟩;exact hk _ hr hF
theorem H3 (p0 : Ab) {G : Bool -> Prop} (h : Heap) (hF : OptP (Cs p0) G) : CallsA prog 51 [.agg (Ac p0)] h fun d h' => ∃ r, G r /\ d = .bool r /\ h' = h := by
 refine CallsA.ret ?_;refine AS func51 rfl Ab4 ntmps51 rfl (fun ok => ?_);rw [Cs] at hF;refine BL ?_;refine B1 (v := .agg (Ac p0)) (cs := Ac p0) rfl rfl rfl rfl ?_;refine O3 ?_;refine Ax rfl BJ AV (by rw [Aa]; rfl) ?_;refine Ap rfl (A3 (vs := An p0.Name) De AV (by rw [Aa]; rfl) (by rw [Aa]; rfl)) ?_;refine Ef (v := .agg (An (⟨[], []⟩ : Ad))) (II GR GZ rfl) ?_;refine Eg rfl rfl (XQ (b := ((p0.Name.URI == (⟨[], []⟩ : Ad).URI) && ((p0.Name.Local == (⟨[], []⟩ : Ad).Local) && true))) Fj EZ (by simp only [An, Fb, FD, JD, EZ, Fj, AP, Ak, Bs, AP, Ak, Bs, Gx, Gr, FG, Gv, FF, FE, Fd, List.drop_zero, List.drop_succ_cons, bi, bj, List.take_succ_cons, List.take_zero, Option.isSome_some, if_true, ba, Option.map_some, Nat.reduceAdd, Nat.reduceLeDiff])) ?_;refine Fs ?_;refine AF hF (fun (_ : Unit) s' => Zs h [] 108 [(1, .iptr (Ac p0)), (3, .bool ((p0.Name.URI == (⟨[], []⟩ : Ad).URI) && ((p0.Name.Local == (⟨[], []⟩ : Ad).Local) && true)))] s') (fun J16 hF => ?_) ?_
 ·refine BL ?_;refine Ax rfl AZ Au (by rw [Aa]; rfl) ?_;refine Ap rfl (Az BF Au (congrArg (List.drop 4) (Aa p0))) ?_;refine MK ?_;refine Bk (σ := Int) hF (fun (a17 : Int) s' => Zs h [] 108 [(1, .iptr (Ac p0)), (3, .bool ((p0.Name.URI == (⟨[], []⟩ : Ad).URI) && ((p0.Name.Local == (⟨[], []⟩ : Ad).Local) && true))), (12, .sl 6 (List.map Ac p0.Kids) 0), (13, .int .i64 (p0.Kids.length : Int)), (14, .int .i64 a17)] s') ?_ ?_
  ·exact ⟨oy ok, wy ok⟩
  ·rintro G18 hG19 rec20 a17 s' ih21 hF ⟨ok, hws⟩;refine Aw hws ?_;rw [CO] at hF;refine GG ?_;refine Bb rfl hF (fun hb22 hF => ?_) fun hb22 hF => ?_
   ·refine Lj ?_;refine Ce (mdl [(5, 1)]) ?_;refine Fi rfl rfl Ck Aj hF (fun x23 _ hF => ?_);refine Ap rfl (A3 (vs := Ac x23) At Aj (by rw [Aa]; rfl) (by rw [Aa]; rfl)) ?_;refine Ds ok rfl BP ?_;intro i24 hi24 ok;refine HS (j := 0) (cs' := [.int .i64 x23.Kind, .str x23.Name.URI, .str x23.Name.Local, .sl 3 (List.map Af x23.Attrs) 0, .sl 6 (List.map Ac x23.Kids) 0, .str x23.Text]) ok rfl (congrArg D.agg (Aa x23)) rfl hi24 rfl Aj rfl rfl (fun ok => ?_);refine Ji ?_;refine Wo ?_;refine TI ?_;refine UU ?_;refine Ba (b := (x23.Kind == 2)) 4 25 (.bool ((x23.Kind == 2) || (x23.Kind == 4))) (fun hb25 => ?_) (fun hb25 => ?_) ?_
    ·refine LV ?_;exact th
    ·refine EH ?_;refine Wo ?_;refine BQ ?_;refine TI ?_;refine UG ?_;refine IW ?_;exact th
    refine D3 ?_;refine Ba (b := ((x23.Kind == 2) || (x23.Kind == 4))) 4 30 (.bool (((x23.Kind == 2) || (x23.Kind == 4)) || (x23.Kind == 5))) (fun hb26 => ?_) (fun hb26 => ?_) ?_
    ·refine LV ?_;exact th
    ·refine EH ?_;refine Wo ?_;refine BQ ?_;refine TI ?_;refine UG ?_;refine IW ?_;exact th
    refine O3 ?_;refine Ax rfl Bd AQ (by rw [Aa]; rfl) ?_;refine Ap rfl (Az CL AQ (congrArg (List.drop 0) (Aa p0))) ?_;refine UU ?_;refine Ba (b := (p0.Kind == 1)) 2 36 (.bool ((p0.Kind == 1) && (((x23.Kind == 2) || (x23.Kind == 4)) || (x23.Kind == 5)))) (fun hb27 => ?_) (fun hb27 => ?_) ?_
    ·refine EH ?_;refine D3 ?_;refine Jw ?_;exact th
    ·refine WR ?_;refine K7 ?_;exact th
    refine Xq ?_;refine Ba (b := (!((p0.Kind == 1) && (((x23.Kind == 2) || (x23.Kind == 4)) || (x23.Kind == 5))))) 13 51 (.bool ((!((p0.Kind == 1) && (((x23.Kind == 2) || (x23.Kind == 4)) || (x23.Kind == 5)))) && (!((p0.Kind == 2) && ((((x23.Kind == 2) || (x23.Kind == 4)) || (x23.Kind == 5)) || (x23.Kind == 3)))))) (fun hb28 => ?_) (fun hb28 => ?_) ?_
    ·refine EH ?_;refine Ax rfl Bd AQ (by rw [Aa]; rfl) ?_;refine BQ ?_;refine Ap rfl (Az CL AQ (congrArg (List.drop 0) (Aa p0))) ?_;refine Xw ?_;refine Ba (b := (p0.Kind == 2)) 7 49 (.bool ((p0.Kind == 2) && ((((x23.Kind == 2) || (x23.Kind == 4)) || (x23.Kind == 5)) || (x23.Kind == 3)))) (fun hb32 => ?_) (fun hb32 => ?_) ?_
     ·refine EH ?_;refine D3 ?_;refine Qt ?_;refine Ba (b := (((x23.Kind == 2) || (x23.Kind == 4)) || (x23.Kind == 5))) 4 48 (.bool ((((x23.Kind == 2) || (x23.Kind == 4)) || (x23.Kind == 5)) || (x23.Kind == 3))) (fun hb34 => ?_) (fun hb34 => ?_) ?_
      ·refine LN ?_;refine QC ?_;exact th
      ·refine EH ?_;refine Wo ?_;refine BQ ?_;refine TI ?_;refine UG ?_;refine Xf ?_;exact th
      refine QC ?_;exact th
     ·refine LK ?_;refine Xd ?_;refine Qz ?_;exact th
     refine EH ?_;refine UT ?_;refine Jw ?_;exact th
    ·refine Lp ?_;refine Un ?_;refine Xu ?_;refine JG ?_;exact th
    refine C1 ?_;refine Bb rfl hF (fun hb35 hF => ?_) fun hb35 hF => ?_
    ·refine G5 ?_;replace hF := hG19 _ (Ar hF);exact rt
    ·refine NE ?_;refine ih21 (IntKind.wrap .i64 (a17 + 1)) _ hF ?_;exact ⟨oy ok, wy ok⟩
   ·refine EI ?_;replace hF := hG19 _ (Ar hF);exact ⟨(), hF, oy ok, wy ok⟩
 ·rintro ⟨⟩ s' hF ⟨ok, hws⟩;refine Aw hws ?_;refine OE ?_;refine Ax rfl Bd AQ (by rw [Aa]; rfl) ?_;refine Ap rfl (Az CL AQ (congrArg (List.drop 0) (Aa p0))) ?_;refine VD ?_;refine Bb rfl hF (fun hb36 hF => ?_) fun hb36 hF => ?_
  ·refine BL ?_;refine Xb ?_;refine Ba (b := ((p0.Name.URI == (⟨[], []⟩ : Ad).URI) && ((p0.Name.Local == (⟨[], []⟩ : Ad).Local) && true))) 4 62 (.bool (((p0.Name.URI == (⟨[], []⟩ : Ad).URI) && ((p0.Name.Local == (⟨[], []⟩ : Ad).Local) && true)) && (p0.Text == []))) (fun hb37 => ?_) (fun hb37 => ?_) ?_
   ·refine EH ?_;refine Ax rfl A1 Ak (by rw [Aa]; rfl) ?_;refine BQ ?_;refine Ap rfl (Az AP Ak (congrArg (List.drop 5) (Aa p0))) ?_;refine BQ ?_;refine K5 ?_;refine Jw ?_;exact th
   ·refine Ow ?_;exact th
   refine D3 ?_;refine Ba (b := (((p0.Name.URI == (⟨[], []⟩ : Ad).URI) && ((p0.Name.Local == (⟨[], []⟩ : Ad).Local) && true)) && (p0.Text == []))) 5 68 (.bool ((((p0.Name.URI == (⟨[], []⟩ : Ad).URI) && ((p0.Name.Local == (⟨[], []⟩ : Ad).Local) && true)) && (p0.Text == [])) && ((p0.Attrs.length : Int) == 0))) (fun hb38 => ?_) (fun hb38 => ?_) ?_
   ·refine EH ?_;refine Ax rfl Bc AD (by rw [Aa]; rfl) ?_;refine BQ ?_;refine Ap rfl (Az Cm AD (congrArg (List.drop 3) (Aa p0))) ?_;refine BQ ?_;refine SL ?_;refine SJ ?_;exact th
   ·refine Ss ?_;exact th
   refine E7 ?_;exact rt
  ·refine PC ?_;refine Bb rfl hF (fun hb39 hF => ?_) fun hb39 hF => ?_
   ·refine BL ?_;refine Ax rfl A1 Ak (by rw [Aa]; rfl) ?_;refine Ap rfl (Az AP Ak (congrArg (List.drop 5) (Aa p0))) ?_;refine K5 ?_;refine E7 ?_;exact rt
   ·refine AF hF (fun (a41 : Bool) s' => Zs h [] 108 [(1, .iptr (Ac p0)), (3, .bool ((p0.Name.URI == (⟨[], []⟩ : Ad).URI) && ((p0.Name.Local == (⟨[], []⟩ : Ad).Local) && true))), (54, .int .i64 p0.Kind), (74, .bool a41)] s') (fun J42 hF => ?_) ?_
    ·refine PC ?_;refine Bb rfl hF (fun hb43 hF => ?_) fun hb43 hF => ?_
     ·refine Eh ?_;exact ⟨(p0.Kind == 3), hF, oy ok, wy ok⟩
     ·refine MO ?_;refine Yq ?_;exact ⟨(p0.Kind == 4), hF, oy ok, wy ok⟩
    ·rintro a41 s' hF ⟨ok, hws⟩;refine Aw hws ?_;refine Bb rfl hF (fun hb44 hF => ?_) fun hb44 hF => ?_
     ·refine BL ?_;refine Xb ?_;refine Ba (b := ((p0.Name.URI == (⟨[], []⟩ : Ad).URI) && ((p0.Name.Local == (⟨[], []⟩ : Ad).Local) && true))) 5 83 (.bool (((p0.Name.URI == (⟨[], []⟩ : Ad).URI) && ((p0.Name.Local == (⟨[], []⟩ : Ad).Local) && true)) && ((p0.Attrs.length : Int) == 0))) (fun hb45 => ?_) (fun hb45 => ?_) ?_
      ·refine EH ?_;refine Ax rfl Bc AD (by rw [Aa]; rfl) ?_;refine BQ ?_;refine Ap rfl (Az Cm AD (congrArg (List.drop 3) (Aa p0))) ?_;refine BQ ?_;refine SL ?_;refine SJ ?_;exact th
      ·refine Ss ?_;exact th
      refine D3 ?_;refine Ba (b := (((p0.Name.URI == (⟨[], []⟩ : Ad).URI) && ((p0.Name.Local == (⟨[], []⟩ : Ad).Local) && true)) && ((p0.Attrs.length : Int) == 0))) 5 89 (.bool ((((p0.Name.URI == (⟨[], []⟩ : Ad).URI) && ((p0.Name.Local == (⟨[], []⟩ : Ad).Local) && true)) && ((p0.Attrs.length : Int) == 0)) && ((p0.Kids.length : Int) == 0))) (fun hb46 => ?_) (fun hb46 => ?_) ?_
      ·refine EH ?_;refine Ax rfl AZ Au (by rw [Aa]; rfl) ?_;refine BQ ?_;refine Ap rfl (Az BF Au (congrArg (List.drop 4) (Aa p0))) ?_;refine BQ ?_;refine Ub ?_;refine SJ ?_;exact th
      ·refine Ss ?_;exact th
      refine E7 ?_;exact rt
     ·refine PC ?_;refine Bb rfl hF (fun hb47 hF => ?_) fun hb47 hF => ?_
      ·refine BL ?_;refine Ax rfl BJ AV (by rw [Aa]; rfl) ?_;refine Ax rfl FC Ak (by rw [Aa]; rfl) ?_;refine Ap rfl (Az AP Ak (congrArg (List.drop 0) (congrArg (List.drop 1) (Aa p0)))) ?_;refine K5 ?_;refine D3 ?_;refine Ba (b := (p0.Name.URI == [])) 5 101 (.bool ((p0.Name.URI == []) && ((p0.Attrs.length : Int) == 0))) (fun hb48 => ?_) (fun hb48 => ?_) ?_
       ·refine EH ?_;refine Ax rfl Bc AD (by rw [Aa]; rfl) ?_;refine BQ ?_;refine Ap rfl (Az Cm AD (congrArg (List.drop 3) (Aa p0))) ?_;refine BQ ?_;refine SL ?_;refine SJ ?_;exact th
       ·refine Ss ?_;exact th
       refine D3 ?_;refine Ba (b := ((p0.Name.URI == []) && ((p0.Attrs.length : Int) == 0))) 5 107 (.bool (((p0.Name.URI == []) && ((p0.Attrs.length : Int) == 0)) && ((p0.Kids.length : Int) == 0))) (fun hb49 => ?_) (fun hb49 => ?_) ?_
       ·refine EH ?_;refine Ax rfl AZ Au (by rw [Aa]; rfl) ?_;refine BQ ?_;refine Ap rfl (Az BF Au (congrArg (List.drop 4) (Aa p0))) ?_;refine BQ ?_;refine Ub ?_;refine SJ ?_;exact th
       ·refine Ss ?_;exact th
       refine E7 ?_;exact rt
      ·refine UY ?_;exact rt
theorem Hl {β : Type} {f : Bool -> Option β} {G : β -> Prop} {R : D -> Heap -> Prop} {p0 : Ab} (h : Heap) (hF : OptP ((Cs p0).bind f) G) (hk : ∀ r, Cs p0 = some r -> OptP (f r) G -> R (.bool r) h) : CallsA prog 51 [.agg (Ac p0)] h R := by
 obtain ⟨r0, hr, hF⟩ := AM hF;refine (H3 (G := fun r => r = r0) p0 h ⟨r0, hr, rfl⟩).mono ?_;rintro _ _ ⟨r, rfl, rfl, rfl⟩;exact hk _ hr hF
theorem HH (p0 : Ab) {G : Bool -> Prop} (h : Heap) (hF : OptP (Cx p0) G) : CallsA prog 52 [.agg (Ac p0)] h fun d h' => ∃ r, G r /\ d = .bool r /\ h' = h := by
 refine CallsA.ret ?_;refine AS func52 rfl Abk ntmps52 rfl (fun ok => ?_);rw [Cx] at hF;refine BL ?_;refine B1 (v := .agg (Ac p0)) (cs := Ac p0) rfl rfl rfl rfl ?_;refine Fs ?_;refine AF hF (fun (_ : Unit) s' => Zs h [] 27 [(1, .iptr (Ac p0))] s') (fun J6 hF => ?_) ?_
 ·refine BL ?_;refine Ax rfl Bc AD (by rw [Aa]; rfl) ?_;refine Ap rfl (Az Cm AD (congrArg (List.drop 3) (Aa p0))) ?_;refine SC ?_;refine Bk (σ := Int) hF (fun (a7 : Int) s' => Zs h [] 27 [(1, .iptr (Ac p0)), (6, .sl 3 (List.map Af p0.Attrs) 0), (7, .int .i64 (p0.Attrs.length : Int)), (8, .int .i64 a7)] s') ?_ ?_
  ·exact ⟨oy ok, wy ok⟩
  ·rintro G8 hG9 rec10 a7 s' ih11 hF ⟨ok, hws⟩;refine Aw hws ?_;rw [CP] at hF;refine GG ?_;refine Bb rfl hF (fun hb12 hF => ?_) fun hb12 hF => ?_
   ·refine Lj ?_;refine Ce (mdl [(4, 1)]) ?_;refine Fi rfl rfl DZ BB hF (fun x13 _ hF => ?_);refine Ap rfl (A3 (vs := Af x13) Fg BB rfl rfl) ?_;refine Ds ok rfl Ga ?_;intro i14 hi14 ok;refine HS (j := 0) (cs' := [.str x13.Name.URI, .str x13.Name.Local, .str x13.Value]) ok rfl rfl rfl hi14 rfl BB rfl rfl (fun ok => ?_);refine Ji ?_;refine Zj ?_;refine RF ?_;refine R1 ?_;refine YL ?_;refine Bb rfl hF (fun hb15 hF => ?_) fun hb15 hF => ?_
    ·refine G5 ?_;replace hF := hG9 _ (Ar hF);exact rt
    ·refine NE ?_;refine ih11 (IntKind.wrap .i64 (a7 + 1)) _ hF ?_;exact ⟨oy ok, wy ok⟩
   ·refine EI ?_;replace hF := hG9 _ (Ar hF);exact ⟨(), hF, oy ok, wy ok⟩
 ·rintro ⟨⟩ s' hF ⟨ok, hws⟩;refine Aw hws ?_;refine BL ?_;refine Ax rfl Bc AD (by rw [Aa]; rfl) ?_;refine Ap rfl (Az Cm AD (congrArg (List.drop 3) (Aa p0))) ?_;refine SL ?_;refine TF ?_;refine D3 ?_;refine Ba (b := (decide ((p0.Attrs.length : Int) <= 64))) 5 26 (.bool ((decide ((p0.Attrs.length : Int) <= 64)) && (decide ((p0.Text.length : Int) <= 8192)))) (fun hb16 => ?_) (fun hb16 => ?_) ?_
  ·refine EH ?_;refine Ax rfl A1 Ak (by rw [Aa]; rfl) ?_;refine BQ ?_;refine Ap rfl (Az AP Ak (congrArg (List.drop 5) (Aa p0))) ?_;refine BQ ?_;refine Ve ?_;refine TF ?_;refine Jw ?_;exact th
  ·refine Ss ?_;exact th
  refine E7 ?_;exact rt
theorem Hm {β : Type} {f : Bool -> Option β} {G : β -> Prop} {R : D -> Heap -> Prop} {p0 : Ab} (h : Heap) (hF : OptP ((Cx p0).bind f) G) (hk : ∀ r, Cx p0 = some r -> OptP (f r) G -> R (.bool r) h) : CallsA prog 52 [.agg (Ac p0)] h R := by
 obtain ⟨r0, hr, hF⟩ := AM hF;refine (HH (G := fun r => r = r0) p0 h ⟨r0, hr, rfl⟩).mono ?_;rintro _ _ ⟨r, rfl, rfl, rfl⟩;exact hk _ hr hF
theorem HK (p0 : List By8) (p1 : Int) {G : Int × Int -> Prop} (h : Heap) (hF : OptP (BC p0 p1) G) : CallsA prog 138 [.sl 1 (List.map EO p0) 0, .int .i64 p1] h fun d h' => ∃ r, G r /\ d = .tup [.int .i64 r.1, .int .i64 r.2] /\ h' = h := by
 refine CallsA.ret ?_;refine AS func138 rfl Zg ntmps138 rfl (fun ok => ?_);rw [BC] at hF;refine BL ?_;refine SO ?_;refine Vj ?_;refine Fi rfl rfl Ff IQ hF (fun x1 _ hF => ?_);refine Ap rfl (Az R0 IQ rfl) ?_;refine LI rfl (XG N1 Sm) ?_;refine IA ?_;refine GI ?_;refine Xg ?_;refine AF hF (fun (v : Int × Int × Int) s' => match v with | (a9, a10, a11) => Zs h [] 95 [(0, .sl 1 (List.map EO p0) 0), (1, .int .i64 p1), (7, .int .i64 a9), (8, .int .i64 a10), (9, .int .i64 a11)] s') (fun J12 hF => ?_) ?_
 ·refine JJ ?_;refine GI ?_;refine Aan ?_;refine Fs ?_;refine Bb rfl hF (fun hb13 hF => ?_) fun hb13 hF => ?_
  ·refine GI ?_;refine SF ?_;exact rt
  ·refine QB ?_;refine Ba (b := (decide (192 <= (IntKind.wrap .i64 (x1.toNat : Int))))) 3 28 (.bool ((decide (192 <= (IntKind.wrap .i64 (x1.toNat : Int)))) && (decide ((IntKind.wrap .i64 (x1.toNat : Int)) < 224)))) (fun hb14 => ?_) (fun hb14 => ?_) ?_
   ·refine Li ?_;refine K6 ?_;refine MI ?_;exact th
   ·refine JG ?_;exact th
   refine Fs ?_;refine Bb rfl hF (fun hb15 hF => ?_) fun hb15 hF => ?_
   ·refine MH ?_;refine Pe ?_;refine Xg ?_;exact ⟨(2, (IntKind.wrap .i64 ((IntKind.wrap .i64 (x1.toNat : Int)) - 192)), 128), hF, oy ok, wy ok⟩
   ·refine QB ?_;refine Ba (b := (decide (224 <= (IntKind.wrap .i64 (x1.toNat : Int))))) 3 37 (.bool ((decide (224 <= (IntKind.wrap .i64 (x1.toNat : Int)))) && (decide ((IntKind.wrap .i64 (x1.toNat : Int)) < 240)))) (fun hb16 => ?_) (fun hb16 => ?_) ?_
    ·refine Li ?_;refine K6 ?_;refine MI ?_;exact th
    ·refine JG ?_;exact th
    refine Fs ?_;refine Bb rfl hF (fun hb17 hF => ?_) fun hb17 hF => ?_
    ·refine MH ?_;refine Pe ?_;refine Xg ?_;exact ⟨(3, (IntKind.wrap .i64 ((IntKind.wrap .i64 (x1.toNat : Int)) - 224)), 2048), hF, oy ok, wy ok⟩
    ·refine QB ?_;refine Ba (b := (decide (240 <= (IntKind.wrap .i64 (x1.toNat : Int))))) 3 46 (.bool ((decide (240 <= (IntKind.wrap .i64 (x1.toNat : Int)))) && (decide ((IntKind.wrap .i64 (x1.toNat : Int)) < 248)))) (fun hb18 => ?_) (fun hb18 => ?_) ?_
     ·refine Li ?_;refine K6 ?_;refine MI ?_;exact th
     ·refine JG ?_;exact th
     refine Fs ?_;refine Bb rfl hF (fun hb19 hF => ?_) fun hb19 hF => ?_
     ·refine MH ?_;refine Pe ?_;refine Xg ?_;exact ⟨(4, (IntKind.wrap .i64 ((IntKind.wrap .i64 (x1.toNat : Int)) - 240)), 65536), hF, oy ok, wy ok⟩
     ·refine Xs ?_;exact rt
 ·rintro ⟨a9, a10, a11⟩ s' hF ⟨ok, hws⟩;refine Aw hws ?_;refine SG ?_;refine Qy ?_;refine Md ?_;refine VI ?_;refine YL ?_;refine Bb rfl hF (fun hb20 hF => ?_) fun hb20 hF => ?_
  ·refine Xs ?_;exact rt
  ·refine Eh ?_;refine AF hF (fun (a27 : Int) s' => Zs h [] 95 [(7, .int .i64 a9), (8, .int .i64 a27), (9, .int .i64 a11)] s') (fun J28 hF => ?_) ?_
   ·refine T6 ?_;refine Bk (σ := Int × Int) hF (fun (v : Int × Int) s' => match v with | (a29, a30) => Zs h [] 95 [(0, .sl 1 (List.map EO p0) 0), (1, .int .i64 p1), (7, .int .i64 a9), (8, .int .i64 a29), (9, .int .i64 a11), (10, .int .i64 a30)] s') ?_ ?_
    ·exact ⟨oy ok, wy ok⟩
    ·rintro G31 hG32 rec33 ⟨a29, a30⟩ s' ih34 hF ⟨ok, hws⟩;refine Aw hws ?_;rw [Ao] at hF;refine SG ?_;refine K6 ?_;refine Bb rfl hF (fun hb35 hF => ?_) fun hb35 hF => ?_
     ·refine WB ?_;refine Vj ?_;refine Xj ?_;refine Fi rfl rfl Ff IQ hF (fun x36 _ hF => ?_);refine Ap rfl (Az R0 IQ rfl) ?_;refine LI rfl (XG N1 Sm) ?_;refine IA ?_;refine JF ?_;refine Xn ?_;refine Ba (b := (decide ((IntKind.wrap .i64 (x36.toNat : Int)) < 128))) 3 72 (.bool ((decide ((IntKind.wrap .i64 (x36.toNat : Int)) < 128)) || (decide (191 < (IntKind.wrap .i64 (x36.toNat : Int)))))) (fun hb37 => ?_) (fun hb37 => ?_) ?_
      ·refine K8 ?_;exact th
      ·refine Li ?_;refine Xv ?_;exact th
      refine C1 ?_;refine Bb rfl hF (fun hb38 hF => ?_) fun hb38 hF => ?_
      ·refine Xs ?_;replace hF := hG32 _ (Ar hF);exact rt
      ·refine Eh ?_;refine MH ?_;refine Eg rfl rfl (YE ..) ?_;refine Xj ?_;refine Pe ?_;refine IA ?_;refine PZ ?_;refine ih34 ((IntKind.wrap .i64 ((IntKind.wrap .i64 ((IntKind.wrap .i64 (64 * a29)) + (IntKind.wrap .i64 (x36.toNat : Int)))) - 128)), (IntKind.wrap .i64 (a30 + 1))) _ hF ?_;exact ⟨oy ok, wy ok⟩
     ·refine EI ?_;replace hF := hG32 _ (Ar hF);exact ⟨a29, hF, oy ok, wy ok⟩
   ·rintro a27 s' hF ⟨ok, hws⟩;refine Aw hws ?_;refine SG ?_;refine Xn ?_;refine Ba (b := (decide (a27 < a11))) 3 84 (.bool ((decide (a27 < a11)) || (decide (1114111 < a27)))) (fun hb39 => ?_) (fun hb39 => ?_) ?_
    ·refine K8 ?_;exact th
    ·refine Li ?_;refine Xv ?_;exact th
    refine D3 ?_;refine Ba (b := ((decide (a27 < a11)) || (decide (1114111 < a27)))) 7 92 (.bool (((decide (a27 < a11)) || (decide (1114111 < a27))) || ((decide (55296 <= a27)) && (decide (a27 <= 57343))))) (fun hb40 => ?_) (fun hb40 => ?_) ?_
    ·refine Ur ?_;exact th
    ·refine UX ?_;refine Ba (b := (decide (55296 <= a27))) 3 91 (.bool ((decide (55296 <= a27)) && (decide (a27 <= 57343)))) (fun hb42 => ?_) (fun hb42 => ?_) ?_
     ·refine Uh ?_;exact th
     ·refine SB ?_;exact th
     refine K7 ?_;exact th
    refine C1 ?_;refine Bb rfl hF (fun hb43 hF => ?_) fun hb43 hF => ?_
    ·refine Xs ?_;exact rt
    ·refine Eh ?_;refine SH ?_;refine SF ?_;exact rt
theorem E6 {β : Type} {f : Int × Int -> Option β} {G : β -> Prop} {R : D -> Heap -> Prop} {p0 : List By8} {p1 : Int} (h : Heap) (hF : OptP ((BC p0 p1).bind f) G) (hk : ∀ r, BC p0 p1 = some r -> OptP (f r) G -> R (.tup [.int .i64 r.1, .int .i64 r.2]) h) : CallsA prog 138 [.sl 1 (List.map EO p0) 0, .int .i64 p1] h R := by
 obtain ⟨r0, hr, hF⟩ := AM hF;refine (HK (G := fun r => r = r0) p0 p1 h ⟨r0, hr, rfl⟩).mono ?_;rintro _ _ ⟨r, rfl, rfl, rfl⟩;exact hk _ hr hF
theorem Hz (p0 : Int) {G : Bool -> Prop} (h : Heap) (hF : OptP (BK p0) G) : CallsA prog 140 [.int .i64 p0] h fun d h' => ∃ r, G r /\ d = .bool r /\ h' = h := by
 refine CallsA.ret ?_;refine AS func140 rfl Zh ntmps140 rfl (fun ok => ?_);rw [BK] at hF;refine NB ?_;refine IR ?_;refine JJ ?_;refine AF hF (fun (a5 : Bool) s' => Zs h [] 83 [(0, .int .i64 p0), (3, .bool a5)] s') (fun J6 hF => ?_) ?_
 ·refine QB ?_;refine Ba (b := (decide (65 <= p0))) 3 9 (.bool ((decide (65 <= p0)) && (decide (p0 <= 90)))) (fun hb7 => ?_) (fun hb7 => ?_) ?_
  ·refine Qq ?_;exact th
  ·refine JG ?_;exact th
  refine Fs ?_;refine Bb rfl hF (fun hb8 hF => ?_) fun hb8 hF => ?_
  ·refine Eh ?_;exact ⟨((decide (65 <= p0)) && (decide (p0 <= 90))), hF, oy ok, wy ok⟩
  ·refine GI ?_;refine Yq ?_;refine Bb rfl hF (fun hb9 hF => ?_) fun hb9 hF => ?_
   ·refine Eh ?_;exact ⟨(p0 == 95), hF, oy ok, wy ok⟩
   ·refine MH ?_;refine Zn ?_;refine Ba (b := (decide (97 <= p0))) 3 17 (.bool ((decide (97 <= p0)) && (decide (p0 <= 122)))) (fun hb10 => ?_) (fun hb10 => ?_) ?_
    ·refine Qq ?_;exact th
    ·refine JG ?_;exact th
    refine Fs ?_;exact ⟨((decide (97 <= p0)) && (decide (p0 <= 122))), hF, oy ok, wy ok⟩
 ·rintro a5 s' hF ⟨ok, hws⟩;refine Aw hws ?_;refine Bb rfl hF (fun hb11 hF => ?_) fun hb11 hF => ?_
  ·refine G5 ?_;exact rt
  ·refine QB ?_;refine Ba (b := (decide (192 <= p0))) 3 24 (.bool ((decide (192 <= p0)) && (decide (p0 <= 767)))) (fun hb12 => ?_) (fun hb12 => ?_) ?_
   ·refine Qq ?_;exact th
   ·refine JG ?_;exact th
   refine Fs ?_;refine Bb rfl hF (fun hb13 hF => ?_) fun hb13 hF => ?_
   ·refine GI ?_;refine Vq ?_;refine Ba (b := (p0 != 215)) 3 30 (.bool ((p0 != 215) && (p0 != 247))) (fun hb14 => ?_) (fun hb14 => ?_) ?_
    ·refine Li ?_;refine Xo ?_;refine Jw ?_;exact th
    ·refine JG ?_;exact th
    refine E7 ?_;exact rt
   ·refine QB ?_;refine Ba (b := (decide (880 <= p0))) 3 37 (.bool ((decide (880 <= p0)) && (decide (p0 <= 8191)))) (fun hb15 => ?_) (fun hb15 => ?_) ?_
    ·refine Qq ?_;exact th
    ·refine JG ?_;exact th
    refine Fs ?_;refine Bb rfl hF (fun hb16 hF => ?_) fun hb16 hF => ?_
    ·refine GI ?_;refine Xo ?_;refine E7 ?_;exact rt
    ·refine AF hF (fun (a18 : Bool) s' => Zs h [] 83 [(0, .int .i64 p0), (40, .bool a18)] s') (fun J19 hF => ?_) ?_
     ·refine GI ?_;refine Yq ?_;refine Bb rfl hF (fun hb20 hF => ?_) fun hb20 hF => ?_
      ·refine Eh ?_;exact ⟨(p0 == 8204), hF, oy ok, wy ok⟩
      ·refine MH ?_;refine Yq ?_;exact ⟨(p0 == 8205), hF, oy ok, wy ok⟩
     ·rintro a18 s' hF ⟨ok, hws⟩;refine Aw hws ?_;refine Bb rfl hF (fun hb21 hF => ?_) fun hb21 hF => ?_
      ·refine G5 ?_;exact rt
      ·refine AF hF (fun (a27 : Bool) s' => Zs h [] 83 [(0, .int .i64 p0), (45, .bool a27)] s') (fun J28 hF => ?_) ?_
       ·refine QB ?_;refine Ba (b := (decide (8304 <= p0))) 3 51 (.bool ((decide (8304 <= p0)) && (decide (p0 <= 8591)))) (fun hb29 => ?_) (fun hb29 => ?_) ?_
        ·refine Qq ?_;exact th
        ·refine JG ?_;exact th
        refine Fs ?_;refine Bb rfl hF (fun hb30 hF => ?_) fun hb30 hF => ?_
        ·refine Eh ?_;exact ⟨((decide (8304 <= p0)) && (decide (p0 <= 8591))), hF, oy ok, wy ok⟩
        ·refine QB ?_;refine Ba (b := (decide (11264 <= p0))) 3 57 (.bool ((decide (11264 <= p0)) && (decide (p0 <= 12271)))) (fun hb31 => ?_) (fun hb31 => ?_) ?_
         ·refine Qq ?_;exact th
         ·refine JG ?_;exact th
         refine Fs ?_;refine Bb rfl hF (fun hb32 hF => ?_) fun hb32 hF => ?_
         ·refine Eh ?_;exact ⟨((decide (11264 <= p0)) && (decide (p0 <= 12271))), hF, oy ok, wy ok⟩
         ·refine MH ?_;refine Zn ?_;refine Ba (b := (decide (12289 <= p0))) 3 63 (.bool ((decide (12289 <= p0)) && (decide (p0 <= 55295)))) (fun hb33 => ?_) (fun hb33 => ?_) ?_
          ·refine Qq ?_;exact th
          ·refine JG ?_;exact th
          refine Fs ?_;exact ⟨((decide (12289 <= p0)) && (decide (p0 <= 55295))), hF, oy ok, wy ok⟩
       ·rintro a27 s' hF ⟨ok, hws⟩;refine Aw hws ?_;refine Bb rfl hF (fun hb34 hF => ?_) fun hb34 hF => ?_
        ·refine G5 ?_;exact rt
        ·refine QB ?_;refine Ba (b := (decide (63744 <= p0))) 3 70 (.bool ((decide (63744 <= p0)) && (decide (p0 <= 65533)))) (fun hb35 => ?_) (fun hb35 => ?_) ?_
         ·refine Qq ?_;exact th
         ·refine JG ?_;exact th
         refine Fs ?_;refine Bb rfl hF (fun hb36 hF => ?_) fun hb36 hF => ?_
         ·refine GI ?_;refine Xn ?_;refine Ba (b := (decide (p0 < 64976))) 3 76 (.bool ((decide (p0 < 64976)) || (decide (65008 <= p0)))) (fun hb37 => ?_) (fun hb37 => ?_) ?_
          ·refine K8 ?_;exact th
          ·refine Ac3 ?_;refine IW ?_;exact th
          refine E7 ?_;exact rt
         ·refine Eh ?_;refine QB ?_;refine Ba (b := (decide (65536 <= p0))) 3 82 (.bool ((decide (65536 <= p0)) && (decide (p0 <= 983039)))) (fun hb38 => ?_) (fun hb38 => ?_) ?_
          ·refine Qq ?_;exact th
          ·refine JG ?_;exact th
          refine E7 ?_;exact rt
theorem EY {β : Type} {f : Bool -> Option β} {G : β -> Prop} {R : D -> Heap -> Prop} {p0 : Int} (h : Heap) (hF : OptP ((BK p0).bind f) G) (hk : ∀ r, BK p0 = some r -> OptP (f r) G -> R (.bool r) h) : CallsA prog 140 [.int .i64 p0] h R := by
 obtain ⟨r0, hr, hF⟩ := AM hF;refine (Hz (G := fun r => r = r0) p0 h ⟨r0, hr, rfl⟩).mono ?_;rintro _ _ ⟨r, rfl, rfl, rfl⟩;exact hk _ hr hF
theorem HG (p0 : Int) {G : Bool -> Prop} (h : Heap) (hF : OptP (Cw p0) G) : CallsA prog 139 [.int .i64 p0] h fun d h' => ∃ r, G r /\ d = .bool r /\ h' = h := by
 refine CallsA.ret ?_;refine AS func139 rfl Yi ntmps139 rfl (fun ok => ?_);rw [Cw] at hF;refine NB ?_;refine GI ?_;refine cl (EY _ hF fun x1 _ hF => ?_);refine D3 ?_;refine Ba (b := x1) 3 8 (.bool (x1 || (p0 == 45))) (fun hb2 => ?_) (fun hb2 => ?_) ?_
 ·refine K8 ?_;exact th
 ·refine N5 ?_;exact th
 refine D3 ?_;refine Ba (b := (x1 || (p0 == 45))) 3 12 (.bool ((x1 || (p0 == 45)) || (p0 == 46))) (fun hb3 => ?_) (fun hb3 => ?_) ?_
 ·refine K8 ?_;exact th
 ·refine N5 ?_;exact th
 refine D3 ?_;refine Ba (b := ((x1 || (p0 == 45)) || (p0 == 46))) 7 20 (.bool (((x1 || (p0 == 45)) || (p0 == 46)) || ((decide (48 <= p0)) && (decide (p0 <= 57))))) (fun hb4 => ?_) (fun hb4 => ?_) ?_
 ·refine Ur ?_;exact th
 ·refine UX ?_;refine Ba (b := (decide (48 <= p0))) 3 19 (.bool ((decide (48 <= p0)) && (decide (p0 <= 57)))) (fun hb6 => ?_) (fun hb6 => ?_) ?_
  ·refine Uh ?_;exact th
  ·refine SB ?_;exact th
  refine K7 ?_;exact th
 refine D3 ?_;refine Ba (b := (((x1 || (p0 == 45)) || (p0 == 46)) || ((decide (48 <= p0)) && (decide (p0 <= 57))))) 3 24 (.bool ((((x1 || (p0 == 45)) || (p0 == 46)) || ((decide (48 <= p0)) && (decide (p0 <= 57)))) || (p0 == 183))) (fun hb7 => ?_) (fun hb7 => ?_) ?_
 ·refine K8 ?_;exact th
 ·refine N5 ?_;exact th
 refine D3 ?_;refine Ba (b := ((((x1 || (p0 == 45)) || (p0 == 46)) || ((decide (48 <= p0)) && (decide (p0 <= 57)))) || (p0 == 183))) 7 32 (.bool (((((x1 || (p0 == 45)) || (p0 == 46)) || ((decide (48 <= p0)) && (decide (p0 <= 57)))) || (p0 == 183)) || ((decide (768 <= p0)) && (decide (p0 <= 879))))) (fun hb8 => ?_) (fun hb8 => ?_) ?_
 ·refine Ur ?_;exact th
 ·refine UX ?_;refine Ba (b := (decide (768 <= p0))) 3 31 (.bool ((decide (768 <= p0)) && (decide (p0 <= 879)))) (fun hb10 => ?_) (fun hb10 => ?_) ?_
  ·refine Uh ?_;exact th
  ·refine SB ?_;exact th
  refine K7 ?_;exact th
 refine D3 ?_;refine Ba (b := (((((x1 || (p0 == 45)) || (p0 == 46)) || ((decide (48 <= p0)) && (decide (p0 <= 57)))) || (p0 == 183)) || ((decide (768 <= p0)) && (decide (p0 <= 879))))) 3 36 (.bool ((((((x1 || (p0 == 45)) || (p0 == 46)) || ((decide (48 <= p0)) && (decide (p0 <= 57)))) || (p0 == 183)) || ((decide (768 <= p0)) && (decide (p0 <= 879)))) || (p0 == 8255))) (fun hb11 => ?_) (fun hb11 => ?_) ?_
 ·refine K8 ?_;exact th
 ·refine N5 ?_;exact th
 refine D3 ?_;refine Ba (b := ((((((x1 || (p0 == 45)) || (p0 == 46)) || ((decide (48 <= p0)) && (decide (p0 <= 57)))) || (p0 == 183)) || ((decide (768 <= p0)) && (decide (p0 <= 879)))) || (p0 == 8255))) 3 40 (.bool (((((((x1 || (p0 == 45)) || (p0 == 46)) || ((decide (48 <= p0)) && (decide (p0 <= 57)))) || (p0 == 183)) || ((decide (768 <= p0)) && (decide (p0 <= 879)))) || (p0 == 8255)) || (p0 == 8256))) (fun hb12 => ?_) (fun hb12 => ?_) ?_
 ·refine K8 ?_;exact th
 ·refine N5 ?_;exact th
 refine E7 ?_;exact rt
theorem Hw {β : Type} {f : Bool -> Option β} {G : β -> Prop} {R : D -> Heap -> Prop} {p0 : Int} (h : Heap) (hF : OptP ((Cw p0).bind f) G) (hk : ∀ r, Cw p0 = some r -> OptP (f r) G -> R (.bool r) h) : CallsA prog 139 [.int .i64 p0] h R := by
 obtain ⟨r0, hr, hF⟩ := AM hF;refine (HG (G := fun r => r = r0) p0 h ⟨r0, hr, rfl⟩).mono ?_;rintro _ _ ⟨r, rfl, rfl, rfl⟩;exact hk _ hr hF
theorem HD (p0 : List By8) {G : Bool -> Prop} (h : Heap) (hF : OptP (BY p0) G) : CallsA prog 98 [.str p0] h fun d h' => ∃ r, G r /\ d = .bool r /\ h' = h := by
 refine CallsA.ret ?_;refine AS func98 rfl Acf ntmps98 rfl (fun ok => ?_);rw [BY] at hF;refine ST ?_;refine Zm ?_;refine MN ?_;refine IR ?_;refine Jm ?_;refine VI ?_;refine UU ?_;refine Ba (b := ((p0.length : Int) == 0)) 4 16 (.bool (((p0.length : Int) == 0) || (decide (100 < (p0.length : Int))))) (fun hb1 => ?_) (fun hb1 => ?_) ?_
 ·refine LV ?_;exact th
 ·refine S8 ?_;refine VI ?_;refine BQ ?_;refine Xv ?_;exact th
 refine C1 ?_;refine Bb rfl hF (fun hb2 hF => ?_) fun hb2 hF => ?_
 ·refine G5 ?_;exact rt
 ·refine Eh ?_;refine AF hF (fun (_ : Unit) s' => Zs h [] 46 [] s') (fun J18 hF => ?_) ?_
  ·refine T6 ?_;refine Bk (σ := Int) hF (fun (a19 : Int) s' => Zs h [] 46 [(3, .sl 1 (List.map EO p0) 0), (4, .int .i64 a19)] s') ?_ ?_
   ·exact ⟨oy ok, wy ok⟩
   ·rintro G20 hG21 rec22 a19 s' ih23 hF ⟨ok, hws⟩;refine Aw hws ?_;rw [CT] at hF;refine JF ?_;refine Md ?_;refine VI ?_;refine K6 ?_;refine Bb rfl hF (fun hb24 hF => ?_) fun hb24 hF => ?_
    ·refine SW ?_;refine Vj ?_;refine cl (E6 _ hF fun x25 _ hF => ?_);refine Xk ?_;refine JF ?_;refine UU ?_;refine Bl 4 33 hF (fun J27 hb26 hF => ?_) (fun J27 hb26 hF => ?_) (fun v28 hF => ?_)
     ·refine LV ?_;exact tw
     ·refine Li ?_;refine cl (Hw _ hF fun x29 _ hF => ?_);refine Xa ?_;exact tw
     ·refine D3 ?_;refine Bl 8 42 hF (fun J31 hb30 hF => ?_) (fun J31 hb30 hF => ?_) (fun v32 hF => ?_)
      ·refine LN ?_;refine Xd ?_;refine MI ?_;exact tw
      ·refine Ack ?_;refine Qt ?_;refine Bl 4 41 hF (fun J34 hb33 hF => ?_) (fun J34 hb33 hF => ?_) (fun v35 hF => ?_)
       ·refine Li ?_;refine cl (EY _ hF fun x36 _ hF => ?_);refine Wv ?_;refine UR ?_;exact tw
       ·refine LN ?_;refine Qz ?_;exact tw
       ·refine K7 ?_;exact tw
      ·refine C1 ?_;refine Bb rfl hF (fun hb37 hF => ?_) fun hb37 hF => ?_
       ·refine G5 ?_;replace hF := hG21 _ (Ar hF);exact rt
       ·refine Eh ?_;refine MH ?_;refine H8 ?_;refine Zw ?_;refine ih23 (IntKind.wrap .i64 (a19 + x25.2)) _ hF ?_;exact ⟨oy ok, wy ok⟩
    ·refine EI ?_;replace hF := hG21 _ (Ar hF);exact ⟨(), hF, oy ok, wy ok⟩
  ·rintro ⟨⟩ s' hF ⟨ok, hws⟩;refine Aw hws ?_;refine G5 ?_;exact rt
theorem E8 {β : Type} {f : Bool -> Option β} {G : β -> Prop} {R : D -> Heap -> Prop} {p0 : List By8} (h : Heap) (hF : OptP ((BY p0).bind f) G) (hk : ∀ r, BY p0 = some r -> OptP (f r) G -> R (.bool r) h) : CallsA prog 98 [.str p0] h R := by
 obtain ⟨r0, hr, hF⟩ := AM hF;refine (HD (G := fun r => r = r0) p0 h ⟨r0, hr, rfl⟩).mono ?_;rintro _ _ ⟨r, rfl, rfl, rfl⟩;exact hk _ hr hF
theorem H5 (p0 : Int) {G : Bool -> Prop} (h : Heap) (hF : OptP (Cu p0) G) : CallsA prog 193 [.int .i64 p0] h fun d h' => ∃ r, G r /\ d = .bool r /\ h' = h := by
 refine CallsA.ret ?_;refine AS func193 rfl YF ntmps193 rfl (fun ok => ?_);rw [Cu] at hF;refine NB ?_;refine Xx ?_;refine Ba (b := (p0 == 9)) 3 8 (.bool ((p0 == 9) || (p0 == 10))) (fun hb1 => ?_) (fun hb1 => ?_) ?_
 ·refine K8 ?_;exact th
 ·refine N5 ?_;exact th
 refine D3 ?_;refine Ba (b := ((p0 == 9) || (p0 == 10))) 3 12 (.bool (((p0 == 9) || (p0 == 10)) || (p0 == 13))) (fun hb2 => ?_) (fun hb2 => ?_) ?_
 ·refine K8 ?_;exact th
 ·refine N5 ?_;exact th
 refine D3 ?_;refine Ba (b := (((p0 == 9) || (p0 == 10)) || (p0 == 13))) 7 20 (.bool ((((p0 == 9) || (p0 == 10)) || (p0 == 13)) || ((decide (32 <= p0)) && (decide (p0 <= 55295))))) (fun hb3 => ?_) (fun hb3 => ?_) ?_
 ·refine Ur ?_;exact th
 ·refine UX ?_;refine Ba (b := (decide (32 <= p0))) 3 19 (.bool ((decide (32 <= p0)) && (decide (p0 <= 55295)))) (fun hb5 => ?_) (fun hb5 => ?_) ?_
  ·refine Uh ?_;exact th
  ·refine SB ?_;exact th
  refine K7 ?_;exact th
 refine D3 ?_;refine Ba (b := ((((p0 == 9) || (p0 == 10)) || (p0 == 13)) || ((decide (32 <= p0)) && (decide (p0 <= 55295))))) 7 28 (.bool (((((p0 == 9) || (p0 == 10)) || (p0 == 13)) || ((decide (32 <= p0)) && (decide (p0 <= 55295)))) || ((decide (57344 <= p0)) && (decide (p0 <= 65533))))) (fun hb6 => ?_) (fun hb6 => ?_) ?_
 ·refine Ur ?_;exact th
 ·refine UX ?_;refine Ba (b := (decide (57344 <= p0))) 3 27 (.bool ((decide (57344 <= p0)) && (decide (p0 <= 65533)))) (fun hb8 => ?_) (fun hb8 => ?_) ?_
  ·refine Uh ?_;exact th
  ·refine SB ?_;exact th
  refine K7 ?_;exact th
 refine D3 ?_;refine Ba (b := (((((p0 == 9) || (p0 == 10)) || (p0 == 13)) || ((decide (32 <= p0)) && (decide (p0 <= 55295)))) || ((decide (57344 <= p0)) && (decide (p0 <= 65533))))) 7 36 (.bool ((((((p0 == 9) || (p0 == 10)) || (p0 == 13)) || ((decide (32 <= p0)) && (decide (p0 <= 55295)))) || ((decide (57344 <= p0)) && (decide (p0 <= 65533)))) || ((decide (65536 <= p0)) && (decide (p0 <= 1114111))))) (fun hb9 => ?_) (fun hb9 => ?_) ?_
 ·refine Ur ?_;exact th
 ·refine UX ?_;refine Ba (b := (decide (65536 <= p0))) 3 35 (.bool ((decide (65536 <= p0)) && (decide (p0 <= 1114111)))) (fun hb11 => ?_) (fun hb11 => ?_) ?_
  ·refine Uh ?_;exact th
  ·refine SB ?_;exact th
  refine K7 ?_;exact th
 refine E7 ?_;exact rt
theorem Hh {β : Type} {f : Bool -> Option β} {G : β -> Prop} {R : D -> Heap -> Prop} {p0 : Int} (h : Heap) (hF : OptP ((Cu p0).bind f) G) (hk : ∀ r, Cu p0 = some r -> OptP (f r) G -> R (.bool r) h) : CallsA prog 193 [.int .i64 p0] h R := by
 obtain ⟨r0, hr, hF⟩ := AM hF;refine (H5 (G := fun r => r = r0) p0 h ⟨r0, hr, rfl⟩).mono ?_;rintro _ _ ⟨r, rfl, rfl, rfl⟩;exact hk _ hr hF
theorem Hq (p0 : List By8) {G : Int × Int -> Prop} (h : Heap) (hF : OptP (Ca p0) G) : CallsA prog 141 [.sl 1 (List.map EO p0) 0] h fun d h' => ∃ r, G r /\ d = .tup [.int .i64 r.1, .int .i64 r.2] /\ h' = h := by
 refine CallsA.ret ?_;refine AS func141 rfl YV ntmps141 rfl (fun ok => ?_);rw [Ca] at hF;refine BL ?_;refine SO ?_;refine AF hF (fun (_ : Unit) s' => Zs h [] 27 [] s') (fun J7 hF => ?_) ?_
 ·refine T6 ?_;refine Bk (σ := Int) hF (fun (a8 : Int) s' => Zs h [] 27 [(0, .sl 1 (List.map EO p0) 0), (4, .int .i64 a8)] s') ?_ ?_
  ·exact ⟨oy ok, wy ok⟩
  ·rintro G9 hG10 rec11 a8 s' ih12 hF ⟨ok, hws⟩;refine Aw hws ?_;rw [Dl] at hF;refine JF ?_;refine Md ?_;refine VI ?_;refine K6 ?_;refine Bb rfl hF (fun hb13 hF => ?_) fun hb13 hF => ?_
   ·refine SW ?_;refine Vj ?_;refine cl (E6 _ hF fun x14 _ hF => ?_);refine Xk ?_;refine JF ?_;refine Sa ?_;refine Bb rfl hF (fun hb15 hF => ?_) fun hb15 hF => ?_
    ·refine GI ?_;refine SF ?_;replace hF := hG10 _ (Ar hF);exact rt
    ·refine U6 ?_;refine GI ?_;refine cl (Hh _ hF fun x16 _ hF => ?_);refine VJ ?_;refine Bb rfl hF (fun hb17 hF => ?_) fun hb17 hF => ?_
     ·refine GI ?_;refine SF ?_;replace hF := hG10 _ (Ar hF);exact rt
     ·refine Eh ?_;refine MH ?_;refine H8 ?_;refine Zw ?_;refine ih12 (IntKind.wrap .i64 (a8 + x14.2)) _ hF ?_;exact ⟨oy ok, wy ok⟩
   ·refine EI ?_;replace hF := hG10 _ (Ar hF);exact ⟨(), hF, oy ok, wy ok⟩
 ·rintro ⟨⟩ s' hF ⟨ok, hws⟩;refine Aw hws ?_;refine Xs ?_;exact rt
theorem GW {β : Type} {f : Int × Int -> Option β} {G : β -> Prop} {R : D -> Heap -> Prop} {p0 : List By8} (h : Heap) (hF : OptP ((Ca p0).bind f) G) (hk : ∀ r, Ca p0 = some r -> OptP (f r) G -> R (.tup [.int .i64 r.1, .int .i64 r.2]) h) : CallsA prog 141 [.sl 1 (List.map EO p0) 0] h R := by
 obtain ⟨r0, hr, hF⟩ := AM hF;refine (Hq (G := fun r => r = r0) p0 h ⟨r0, hr, rfl⟩).mono ?_;rintro _ _ ⟨r, rfl, rfl, rfl⟩;exact hk _ hr hF
theorem If (p0 : List By8) {G : Bool -> Prop} (h : Heap) (hF : OptP (Bz p0) G) : CallsA prog 99 [.str p0] h fun d h' => ∃ r, G r /\ d = .bool r /\ h' = h := by
 refine CallsA.ret ?_;refine AS func99 rfl Aax ntmps99 rfl (fun ok => ?_);rw [Bz] at hF;refine ST ?_;refine Zm ?_;refine cl (GW _ hF fun x1 _ hF => ?_);refine Xk ?_;refine GI ?_;refine Uz ?_;refine E7 ?_;exact rt
theorem Ec {β : Type} {f : Bool -> Option β} {G : β -> Prop} {R : D -> Heap -> Prop} {p0 : List By8} (h : Heap) (hF : OptP ((Bz p0).bind f) G) (hk : ∀ r, Bz p0 = some r -> OptP (f r) G -> R (.bool r) h) : CallsA prog 99 [.str p0] h R := by
 obtain ⟨r0, hr, hF⟩ := AM hF;refine (If (G := fun r => r = r0) p0 h ⟨r0, hr, rfl⟩).mono ?_;rintro _ _ ⟨r, rfl, rfl, rfl⟩;exact hk _ hr hF
theorem GK (p0 : Ad) {G : Bool -> Prop} (h : Heap) (hF : OptP (Bw p0) G) : CallsA prog 97 [.agg (An p0)] h fun d h' => ∃ r, G r /\ d = .bool r /\ h' = h := by
 refine CallsA.ret ?_;refine AS func97 rfl Ab0 ntmps97 rfl (fun ok => ?_);rw [Bw] at hF;refine BL ?_;refine B1 rfl rfl rfl rfl ?_;refine O3 ?_;refine SK ?_;refine cl (E8 _ hF fun x1 _ hF => ?_);refine D3 ?_;refine Ba (b := x1) 5 11 (.bool (x1 && (decide ((p0.URI.length : Int) <= 100)))) (fun hb2 => ?_) (fun hb2 => ?_) ?_
 ·refine Wb ?_;refine Ve ?_;refine TF ?_;refine Jw ?_;exact th
 ·refine Ss ?_;exact th
 refine D3 ?_;refine Bl 4 16 hF (fun J4 hb3 hF => ?_) (fun J4 hb3 hF => ?_) (fun v5 hF => ?_)
 ·refine Wb ?_;refine cl (Ec _ hF fun x6 _ hF => ?_);refine Jw ?_;exact tw
 ·refine Ow ?_;exact tw
 ·refine D3 ?_;refine Ba (b := v5) 4 21 (.bool (v5 && (!(p0.URI == [104, 116, 116, 112, 58, 47, 47, 119, 119, 119, 46, 119, 51, 46, 111, 114, 103, 47, 50, 48, 48, 48, 47, 120, 109, 108, 110, 115, 47])))) (fun hb7 => ?_) (fun hb7 => ?_) ?_
  ·refine Wb ?_;refine QS ?_;refine Jw ?_;exact th
  ·refine Ow ?_;exact th
  refine E7 ?_;exact rt
theorem EM {β : Type} {f : Bool -> Option β} {G : β -> Prop} {R : D -> Heap -> Prop} {p0 : Ad} (h : Heap) (hF : OptP ((Bw p0).bind f) G) (hk : ∀ r, Bw p0 = some r -> OptP (f r) G -> R (.bool r) h) : CallsA prog 97 [.agg (An p0)] h R := by
 obtain ⟨r0, hr, hF⟩ := AM hF;refine (GK (G := fun r => r = r0) p0 h ⟨r0, hr, rfl⟩).mono ?_;rintro _ _ ⟨r, rfl, rfl, rfl⟩;exact hk _ hr hF
theorem Ie (p0 : Ab) {G : Bool -> Prop} (h : Heap) (hF : OptP (Cr p0) G) : CallsA prog 53 [.agg (Ac p0)] h fun d h' => ∃ r, G r /\ d = .bool r /\ h' = h := by
 refine CallsA.ret ?_;refine AS func53 rfl Abu ntmps53 rfl (fun ok => ?_);rw [Cr] at hF;refine BL ?_;refine B1 (v := .agg (Ac p0)) (cs := Ac p0) rfl rfl rfl rfl ?_;refine Fs ?_;refine OE ?_;refine Ax rfl Bd AQ (by rw [Aa]; rfl) ?_;refine Ap rfl (Az CL AQ (congrArg (List.drop 0) (Aa p0))) ?_;refine UU ?_;refine Bl 5 14 hF (fun J2 hb1 hF => ?_) (fun J2 hb1 hF => ?_) (fun v3 hF => ?_)
 ·refine EH ?_;refine Ax rfl BJ AV (by rw [Aa]; rfl) ?_;refine BQ ?_;refine Ap rfl (A3 (vs := An p0.Name) De AV (by rw [Aa]; rfl) (by rw [Aa]; rfl)) ?_;refine BQ ?_;refine cl (EM _ hF fun x4 _ hF => ?_);refine Wv ?_;refine Jw ?_;exact tw
 ·refine Ss ?_;exact tw
 ·refine C1 ?_;refine Bb rfl hF (fun hb5 hF => ?_) fun hb5 hF => ?_
  ·refine G5 ?_;exact rt
  ·refine Eh ?_;refine AF hF (fun (_ : Unit) s' => Zs h [] 85 [(1, .iptr (Ac p0))] s') (fun J15 hF => ?_) ?_
   ·refine BL ?_;refine Ax rfl Bc AD (by rw [Aa]; rfl) ?_;refine Ap rfl (Az Cm AD (congrArg (List.drop 3) (Aa p0))) ?_;refine SC ?_;refine Bk (σ := Int) hF (fun (a16 : Int) s' => Zs h [] 85 [(1, .iptr (Ac p0)), (16, .sl 3 (List.map Af p0.Attrs) 0), (17, .int .i64 (p0.Attrs.length : Int)), (18, .int .i64 a16)] s') ?_ ?_
    ·exact ⟨oy ok, wy ok⟩
    ·rintro G17 hG18 rec19 a16 s' ih20 hF ⟨ok, hws⟩;refine Aw hws ?_;rw [CV] at hF;refine GG ?_;refine Bb rfl hF (fun hb21 hF => ?_) fun hb21 hF => ?_
     ·refine Lj ?_;refine Ce (mdl [(4, 1)]) ?_;refine Fi rfl rfl DZ BB hF (fun x22 _ hF => ?_);refine Ap rfl (A3 (vs := Af x22) Fg BB rfl rfl) ?_;refine Ds ok rfl Ga ?_;intro i23 hi23 ok;refine HS (j := 0) (cs' := [.str x22.Name.URI, .str x22.Name.Local, .str x22.Value]) ok rfl rfl rfl hi23 rfl BB rfl rfl (fun ok => ?_);refine Ji ?_;refine UI ?_;refine Ej (j := 0) ok rfl rfl rfl hi23 (A3 (vs := An x22.Name) De AV rfl rfl) ?_;refine cl (EM _ hF fun x24 _ hF => ?_);refine Xq ?_;refine Ba (b := (!x24)) 11 37 (.bool ((!x24) || ((x22.Name.URI == []) && (x22.Name.Local == [120, 109, 108, 110, 115])))) (fun hb25 => ?_) (fun hb25 => ?_) ?_
      ·refine LK ?_;refine LN ?_;refine Un ?_;refine WR ?_;refine MI ?_;exact th
      ·refine EH ?_;refine UI ?_;refine BQ ?_;refine Y1 ?_;refine BQ ?_;refine RF ?_;refine BQ ?_;refine K5 ?_;refine Qt ?_;refine Ba (b := (x22.Name.URI == [])) 5 36 (.bool ((x22.Name.URI == []) && (x22.Name.Local == [120, 109, 108, 110, 115]))) (fun hb27 => ?_) (fun hb27 => ?_) ?_
       ·refine EH ?_;refine UI ?_;refine BQ ?_;refine Iv rfl EL Ak ?_;refine BQ ?_;refine RF ?_;refine BQ ?_;refine K5 ?_;refine UR ?_;exact th
       ·refine Lp ?_;refine Qz ?_;exact th
       refine K7 ?_;exact th
      refine C1 ?_;refine Bb rfl hF (fun hb28 hF => ?_) fun hb28 hF => ?_
      ·refine G5 ?_;replace hF := hG18 _ (Ar hF);exact rt
      ·refine NE ?_;refine ih20 (IntKind.wrap .i64 (a16 + 1)) _ hF ?_;exact ⟨oy ok, wy ok⟩
     ·refine EI ?_;replace hF := hG18 _ (Ar hF);exact ⟨(), hF, oy ok, wy ok⟩
   ·rintro ⟨⟩ s' hF ⟨ok, hws⟩;refine Aw hws ?_;refine BL ?_;refine Ax rfl BJ AV (by rw [Aa]; rfl) ?_;refine Ax rfl EL Ak (by rw [Aa]; rfl) ?_;refine Ap rfl (Az AP Ak (congrArg (List.drop 1) (congrArg (List.drop 1) (Aa p0)))) ?_;refine JN ?_;refine BL ?_;refine Ax rfl Bd AQ (by rw [Aa]; rfl) ?_;refine Ap rfl (Az CL AQ (congrArg (List.drop 0) (Aa p0))) ?_;refine Vq ?_;refine Bl 39 84 hF (fun J30 hb29 hF => ?_) (fun J30 hb29 hF => ?_) (fun v31 hF => ?_)
    ·refine LN ?_;refine Tc ?_;refine Tc ?_;refine Tc ?_;refine Tc ?_;refine Ac2 ?_;exact tw
    ·refine K4 ?_;refine cl (E8 _ hF fun x32 _ hF => ?_);refine Qt ?_;refine Bl 35 83 hF (fun J34 hb33 hF => ?_) (fun J34 hb33 hF => ?_) (fun v35 hF => ?_)
     ·refine K4 ?_;refine R1 ?_;refine Xw ?_;refine Bl 9 61 hF (fun J37 hb36 hF => ?_) (fun J37 hb36 hF => ?_) (fun v38 hF => ?_)
      ·refine K4 ?_;refine Jc rfl rfl Bs hF (fun x39 _ hF => ?_);refine Xw ?_;refine Bl 4 60 hF (fun J41 hb40 hF => ?_) (fun J41 hb40 hF => ?_) (fun v42 hF => ?_)
       ·refine LN ?_;refine QC ?_;exact tw
       ·refine K4 ?_;refine Jc rfl rfl Bs hF (fun x43 _ hF => ?_);refine UG ?_;refine Xf ?_;exact tw
       ·refine QC ?_;exact tw
      ·refine Lp ?_;refine Xd ?_;refine Qz ?_;exact tw
      ·refine EH ?_;refine TP ?_;refine Bl 9 71 hF (fun J45 hb44 hF => ?_) (fun J45 hb44 hF => ?_) (fun v46 hF => ?_)
       ·refine K4 ?_;refine Jc rfl rfl Bs hF (fun x47 _ hF => ?_);refine Xw ?_;refine Bl 4 70 hF (fun J49 hb48 hF => ?_) (fun J49 hb48 hF => ?_) (fun v50 hF => ?_)
        ·refine LN ?_;refine QC ?_;exact tw
        ·refine K4 ?_;refine Jc rfl rfl Bs hF (fun x51 _ hF => ?_);refine UG ?_;refine Xf ?_;exact tw
        ·refine QC ?_;exact tw
       ·refine Lp ?_;refine Xd ?_;refine Qz ?_;exact tw
       ·refine EH ?_;refine TP ?_;refine Bl 9 81 hF (fun J53 hb52 hF => ?_) (fun J53 hb52 hF => ?_) (fun v54 hF => ?_)
        ·refine K4 ?_;refine Jc rfl rfl Bs hF (fun x55 _ hF => ?_);refine Xw ?_;refine Bl 4 80 hF (fun J57 hb56 hF => ?_) (fun J57 hb56 hF => ?_) (fun v58 hF => ?_)
         ·refine LN ?_;refine QC ?_;exact tw
         ·refine K4 ?_;refine Jc rfl rfl Bs hF (fun x59 _ hF => ?_);refine UG ?_;refine Xf ?_;exact tw
         ·refine QC ?_;exact tw
        ·refine Lp ?_;refine Xd ?_;refine Qz ?_;exact tw
        ·refine EH ?_;refine UT ?_;refine UR ?_;exact tw
     ·refine Lp ?_;refine Tc ?_;refine LK ?_;refine Tc ?_;refine LK ?_;refine Tc ?_;refine SB ?_;exact tw
     ·refine K7 ?_;exact tw
    ·refine E7 ?_;exact rt
theorem HA {β : Type} {f : Bool -> Option β} {G : β -> Prop} {R : D -> Heap -> Prop} {p0 : Ab} (h : Heap) (hF : OptP ((Cr p0).bind f) G) (hk : ∀ r, Cr p0 = some r -> OptP (f r) G -> R (.bool r) h) : CallsA prog 53 [.agg (Ac p0)] h R := by
 obtain ⟨r0, hr, hF⟩ := AM hF;refine (Ie (G := fun r => r = r0) p0 h ⟨r0, hr, rfl⟩).mono ?_;rintro _ _ ⟨r, rfl, rfl, rfl⟩;exact hk _ hr hF
theorem Hx (p0 : Ab) {G : Bool -> Prop} (h : Heap) (hF : OptP (B8 p0) G) : CallsA prog 54 [.agg (Ac p0)] h fun d h' => ∃ r, G r /\ d = .bool r /\ h' = h := by
 refine CallsA.ret ?_;refine AS func54 rfl Z1 ntmps54 rfl (fun ok => ?_);rw [B8] at hF;refine BL ?_;refine B1 (v := .agg (Ac p0)) (cs := Ac p0) rfl rfl rfl rfl ?_;refine Fs ?_;refine AF hF (fun (_ : Unit) s' => Zs h [] 20 [(1, .iptr (Ac p0))] s') (fun J7 hF => ?_) ?_
 ·refine BL ?_;refine Ax rfl Bc AD (by rw [Aa]; rfl) ?_;refine Ap rfl (Az Cm AD (congrArg (List.drop 3) (Aa p0))) ?_;refine SC ?_;refine Bk (σ := Int) hF (fun (a8 : Int) s' => Zs h [] 20 [(1, .iptr (Ac p0)), (6, .sl 3 (List.map Af p0.Attrs) 0), (7, .int .i64 (p0.Attrs.length : Int)), (8, .int .i64 a8)] s') ?_ ?_
  ·exact ⟨oy ok, wy ok⟩
  ·rintro G9 hG10 rec11 a8 s' ih12 hF ⟨ok, hws⟩;refine Aw hws ?_;rw [CE] at hF;refine GG ?_;refine Bb rfl hF (fun hb13 hF => ?_) fun hb13 hF => ?_
   ·refine Lj ?_;refine Ce (mdl [(4, 1)]) ?_;refine Fi rfl rfl DZ BB hF (fun x14 _ hF => ?_);refine Ap rfl (A3 (vs := Af x14) Fg BB rfl rfl) ?_;refine Ds ok rfl Ga ?_;intro i15 hi15 ok;refine HS (j := 0) (cs' := [.str x14.Name.URI, .str x14.Name.Local, .str x14.Value]) ok rfl rfl rfl hi15 rfl BB rfl rfl (fun ok => ?_);refine Ji ?_;refine Zj ?_;refine RF ?_;refine cl (Ec _ hF fun x16 _ hF => ?_);refine VJ ?_;refine Bb rfl hF (fun hb17 hF => ?_) fun hb17 hF => ?_
    ·refine G5 ?_;replace hF := hG10 _ (Ar hF);exact rt
    ·refine NE ?_;refine ih12 (IntKind.wrap .i64 (a8 + 1)) _ hF ?_;exact ⟨oy ok, wy ok⟩
   ·refine EI ?_;replace hF := hG10 _ (Ar hF);exact ⟨(), hF, oy ok, wy ok⟩
 ·rintro ⟨⟩ s' hF ⟨ok, hws⟩;refine Aw hws ?_;refine BL ?_;refine Ax rfl A1 Ak (by rw [Aa]; rfl) ?_;refine Ap rfl (Az AP Ak (congrArg (List.drop 5) (Aa p0))) ?_;refine cl (Ec _ hF fun x18 _ hF => ?_);refine E7 ?_;exact rt
theorem GU {β : Type} {f : Bool -> Option β} {G : β -> Prop} {R : D -> Heap -> Prop} {p0 : Ab} (h : Heap) (hF : OptP ((B8 p0).bind f) G) (hk : ∀ r, B8 p0 = some r -> OptP (f r) G -> R (.bool r) h) : CallsA prog 54 [.agg (Ac p0)] h R := by
 obtain ⟨r0, hr, hF⟩ := AM hF;refine (Hx (G := fun r => r = r0) p0 h ⟨r0, hr, rfl⟩).mono ?_;rintro _ _ ⟨r, rfl, rfl, rfl⟩;exact hk _ hr hF
theorem GQ (p0 : Ad) (p1 : Ad) {G : Bool -> Prop} (h : Heap) (hF : OptP (C5 p0 p1) G) : CallsA prog 100 [.agg (An p0), .agg (An p1)] h fun d h' => ∃ r, G r /\ d = .bool r /\ h' = h := by
 refine CallsA.ret ?_;refine AS func100 rfl YI ntmps100 rfl (fun ok => ?_);rw [C5] at hF;refine BL ?_;refine B1 rfl rfl rfl rfl ?_;refine B1 rfl rfl rfl rfl ?_;refine O3 ?_;refine Uq ?_;refine Uq ?_;refine Eg rfl rfl Nx ?_;refine D3 ?_;refine Ba (b := (Op.bytesLess p0.URI p1.URI)) 13 23 (.bool ((Op.bytesLess p0.URI p1.URI) || ((p0.URI == p1.URI) && (Op.bytesLess p0.Local p1.Local)))) (fun hb1 => ?_) (fun hb1 => ?_) ?_
 ·refine Xt ?_;refine Un ?_;refine Zk ?_;refine MI ?_;exact th
 ·refine Wb ?_;refine Acu ?_;refine K5 ?_;refine Qt ?_;refine Ba (b := (p0.URI == p1.URI)) 6 22 (.bool ((p0.URI == p1.URI) && (Op.bytesLess p0.Local p1.Local))) (fun hb3 => ?_) (fun hb3 => ?_) ?_
  ·refine EH ?_;refine Aam ?_;refine Wt ?_;refine Aam ?_;refine Wt ?_;refine Eg rfl rfl Nx ?_;refine UR ?_;exact th
  ·refine LK ?_;refine LN ?_;refine Qz ?_;exact th
  refine K7 ?_;exact th
 refine E7 ?_;exact rt
theorem Gy {β : Type} {f : Bool -> Option β} {G : β -> Prop} {R : D -> Heap -> Prop} {p0 : Ad} {p1 : Ad} (h : Heap) (hF : OptP ((C5 p0 p1).bind f) G) (hk : ∀ r, C5 p0 p1 = some r -> OptP (f r) G -> R (.bool r) h) : CallsA prog 100 [.agg (An p0), .agg (An p1)] h R := by
 obtain ⟨r0, hr, hF⟩ := AM hF;refine (GQ (G := fun r => r = r0) p0 p1 h ⟨r0, hr, rfl⟩).mono ?_;rintro _ _ ⟨r, rfl, rfl, rfl⟩;exact hk _ hr hF
theorem Hv (p0 : Ab) {G : Bool -> Prop} (h : Heap) (hF : OptP (B9 p0) G) : CallsA prog 55 [.agg (Ac p0)] h fun d h' => ∃ r, G r /\ d = .bool r /\ h' = h := by
 refine CallsA.ret ?_;refine AS func55 rfl Z4 ntmps55 rfl (fun ok => ?_);rw [B9] at hF;refine BL ?_;refine B1 (v := .agg (Ac p0)) (cs := Ac p0) rfl rfl rfl rfl ?_;refine Fs ?_;refine AF hF (fun (_ : Unit) s' => Zs h [] 26 [] s') (fun J7 hF => ?_) ?_
 ·refine T6 ?_;refine Bk (σ := Int) hF (fun (a8 : Int) s' => Zs h [] 26 [(1, .iptr (Ac p0)), (3, .int .i64 a8)] s') ?_ ?_
  ·exact ⟨oy ok, wy ok⟩
  ·rintro G9 hG10 rec11 a8 s' ih12 hF ⟨ok, hws⟩;refine Aw hws ?_;rw [CG] at hF;refine JF ?_;refine Ax rfl Bc AD (by rw [Aa]; rfl) ?_;refine Ap rfl (Az Cm AD (congrArg (List.drop 3) (Aa p0))) ?_;refine SL ?_;refine K6 ?_;refine Bb rfl hF (fun hb13 hF => ?_) fun hb13 hF => ?_
   ·refine Lj ?_;refine MT (mdl [(12, 3), (17, 3), (19, 3), (23, 3)]) (by kernel_rfl) (by kernel_rfl) ?_;refine Ax rfl Bc AD (by rw [Aa]; rfl) ?_;refine Ap rfl (Az Cm AD (congrArg (List.drop 3) (Aa p0))) ?_;refine H8 ?_;refine Pe ?_;refine Fi rfl rfl DZ BB hF (fun x14 _ hF => ?_);refine Xm ?_;refine Ap rfl (A3 (vs := An x14.Name) De AV rfl rfl) ?_;refine Ax rfl Bc AD (by rw [Aa]; rfl) ?_;refine Ap rfl (Az Cm AD (congrArg (List.drop 3) (Aa p0))) ?_;refine H8 ?_;refine Fi rfl rfl DZ BB hF (fun x15 _ hF => ?_);refine Xm ?_;refine Ap rfl (A3 (vs := An x15.Name) De AV rfl rfl) ?_;refine cl (Gy _ hF fun x16 _ hF => ?_);refine VJ ?_;refine Bb rfl hF (fun hb17 hF => ?_) fun hb17 hF => ?_
    ·refine G5 ?_;replace hF := hG10 _ (Ar hF);exact rt
    ·refine Eh ?_;refine PZ ?_;refine ih12 (IntKind.wrap .i64 (a8 + 1)) _ hF ?_;exact ⟨oy ok, wy ok⟩
   ·refine EI ?_;replace hF := hG10 _ (Ar hF);exact ⟨(), hF, oy ok, wy ok⟩
 ·rintro ⟨⟩ s' hF ⟨ok, hws⟩;refine Aw hws ?_;refine G5 ?_;exact rt
theorem GT {β : Type} {f : Bool -> Option β} {G : β -> Prop} {R : D -> Heap -> Prop} {p0 : Ab} (h : Heap) (hF : OptP ((B9 p0).bind f) G) (hk : ∀ r, B9 p0 = some r -> OptP (f r) G -> R (.bool r) h) : CallsA prog 55 [.agg (Ac p0)] h R := by
 obtain ⟨r0, hr, hF⟩ := AM hF;refine (Hv (G := fun r => r = r0) p0 h ⟨r0, hr, rfl⟩).mono ?_;rintro _ _ ⟨r, rfl, rfl, rfl⟩;exact hk _ hr hF
theorem It (p0 : List By8) (p1 : List By8) {G : Bool -> Prop} (h : Heap) (hF : OptP (Bt p0 p1) G) : CallsA prog 101 [.str p0, .str p1] h fun d h' => ∃ r, G r /\ d = .bool r /\ h' = h := by
 refine CallsA.ret ?_;refine AS func101 rfl Xz ntmps101 rfl (fun ok => ?_);rw [Bt] at hF;refine NB ?_;refine AF hF (fun (_ : Unit) s' => Zs h [] 24 [] s') (fun J5 hF => ?_) ?_
 ·refine T6 ?_;refine Bk (σ := Int) hF (fun (a6 : Int) s' => Zs h [] 24 [(0, .str p0), (1, .str p1), (5, .int .i64 a6)] s') ?_ ?_
  ·exact ⟨oy ok, wy ok⟩
  ·rintro G7 hG8 rec9 a6 s' ih10 hF ⟨ok, hws⟩;refine Aw hws ?_;rw [C9] at hF;refine JF ?_;refine UB ?_;refine Qy ?_;refine UB ?_;refine TF ?_;refine C1 ?_;refine Bb rfl hF (fun hb11 hF => ?_) fun hb11 hF => ?_
   ·refine WB ?_;refine WJ ?_;refine H8 ?_;refine UB ?_;refine Qy ?_;refine PF rfl Bs (JS rfl) (JS rfl) hF (fun x12 _ hF => ?_);refine IZ ?_;refine K5 ?_;refine C1 ?_;refine Bb rfl hF (fun hb13 hF => ?_) fun hb13 hF => ?_
    ·refine G5 ?_;replace hF := hG8 _ (Ar hF);exact rt
    ·refine Eh ?_;refine PZ ?_;refine ih10 (IntKind.wrap .i64 (a6 + 1)) _ hF ?_;exact ⟨oy ok, wy ok⟩
   ·refine EI ?_;replace hF := hG8 _ (Ar hF);exact ⟨(), hF, oy ok, wy ok⟩
 ·rintro ⟨⟩ s' hF ⟨ok, hws⟩;refine Aw hws ?_;refine G5 ?_;exact rt
theorem DI {β : Type} {f : Bool -> Option β} {G : β -> Prop} {R : D -> Heap -> Prop} {p0 : List By8} {p1 : List By8} (h : Heap) (hF : OptP ((Bt p0 p1).bind f) G) (hk : ∀ r, Bt p0 p1 = some r -> OptP (f r) G -> R (.bool r) h) : CallsA prog 101 [.str p0, .str p1] h R := by
 obtain ⟨r0, hr, hF⟩ := AM hF;refine (It (G := fun r => r = r0) p0 p1 h ⟨r0, hr, rfl⟩).mono ?_;rintro _ _ ⟨r, rfl, rfl, rfl⟩;exact hk _ hr hF
theorem H0 (p0 : Ab) {G : Bool -> Prop} (h : Heap) (hF : OptP (Cp p0) G) : CallsA prog 56 [.agg (Ac p0)] h fun d h' => ∃ r, G r /\ d = .bool r /\ h' = h := by
 refine CallsA.ret ?_;refine AS func56 rfl Z5 ntmps56 rfl (fun ok => ?_);rw [Cp] at hF;refine BL ?_;refine B1 (v := .agg (Ac p0)) (cs := Ac p0) rfl rfl rfl rfl ?_;refine Fs ?_;refine AF hF (fun (_ : Unit) s' => Zs h [] 88 [(1, .iptr (Ac p0))] s') (fun J9 hF => ?_) ?_
 ·refine T6 ?_;refine Bk (σ := Int) hF (fun (a10 : Int) s' => Zs h [] 88 [(1, .iptr (Ac p0)), (3, .int .i64 a10)] s') ?_ ?_
  ·exact ⟨oy ok, wy ok⟩
  ·rintro G11 hG12 rec13 a10 s' ih14 hF ⟨ok, hws⟩;refine Aw hws ?_;rw [CS] at hF;refine JF ?_;refine Ax rfl AZ Au (by rw [Aa]; rfl) ?_;refine Ap rfl (Az BF Au (congrArg (List.drop 4) (Aa p0))) ?_;refine Ub ?_;refine K6 ?_;refine Bb rfl hF (fun hb15 hF => ?_) fun hb15 hF => ?_
   ·refine WB ?_;refine BL ?_;refine Ax rfl AZ Au (by rw [Aa]; rfl) ?_;refine Ap rfl (Az BF Au (congrArg (List.drop 4) (Aa p0))) ?_;refine H8 ?_;refine Fi rfl rfl Ck Aj hF (fun x16 _ hF => ?_);refine Ax rfl Bd AQ (by rw [Aa]; rfl) ?_;refine Ap rfl (Az CL AQ (congrArg (List.drop 0) (Aa x16))) ?_;refine UU ?_;refine Bl 9 28 hF (fun J18 hb17 hF => ?_) (fun J18 hb17 hF => ?_) (fun v19 hF => ?_)
    ·refine EH ?_;refine Ax rfl AZ Au (by rw [Aa]; rfl) ?_;refine BQ ?_;refine Ap rfl (Az BF Au (congrArg (List.drop 4) (Aa p0))) ?_;refine BQ ?_;refine QD ?_;refine Pe ?_;refine BQ ?_;refine Fi rfl rfl Ck Aj hF (fun x20 _ hF => ?_);refine BQ ?_;refine Ax rfl Bd AQ (by rw [Aa]; rfl) ?_;refine BQ ?_;refine Ap rfl (Az CL AQ (congrArg (List.drop 0) (Aa x20))) ?_;refine SJ ?_;exact tw
    ·refine Lp ?_;refine Ss ?_;exact tw
    ·refine C1 ?_;refine Bb rfl hF (fun hb21 hF => ?_) fun hb21 hF => ?_
     ·refine G5 ?_;replace hF := hG12 _ (Ar hF);exact rt
     ·refine Eh ?_;refine PZ ?_;refine ih14 (IntKind.wrap .i64 (a10 + 1)) _ hF ?_;exact ⟨oy ok, wy ok⟩
   ·refine EI ?_;replace hF := hG12 _ (Ar hF);exact ⟨(), hF, oy ok, wy ok⟩
 ·rintro ⟨⟩ s' hF ⟨ok, hws⟩;refine Aw hws ?_;refine BL ?_;refine Ax rfl A1 Ak (by rw [Aa]; rfl) ?_;refine Ap rfl (Az AP Ak (congrArg (List.drop 5) (Aa p0))) ?_;refine JN ?_;refine OE ?_;refine Ax rfl Bd AQ (by rw [Aa]; rfl) ?_;refine Ap rfl (Az CL AQ (congrArg (List.drop 0) (Aa p0))) ?_;refine VD ?_;refine Bb rfl hF (fun hb22 hF => ?_) fun hb22 hF => ?_
  ·refine I0 ?_;refine QS ?_;refine E7 ?_;exact rt
  ·refine PC ?_;refine Bb rfl hF (fun hb23 hF => ?_) fun hb23 hF => ?_
   ·refine I0 ?_;refine cl (DI _ hF fun x24 _ hF => ?_);refine Xq ?_;refine Bl 4 46 hF (fun J26 hb25 hF => ?_) (fun J26 hb25 hF => ?_) (fun v27 hF => ?_)
    ·refine K4 ?_;refine cl (DI _ hF fun x28 _ hF => ?_);refine Wv ?_;refine Jw ?_;exact tw
    ·refine Ow ?_;exact tw
    ·refine D3 ?_;refine Bl 11 58 hF (fun J30 hb29 hF => ?_) (fun J30 hb29 hF => ?_) (fun v31 hF => ?_)
     ·refine K4 ?_;refine K5 ?_;refine Qt ?_;refine Bl 7 57 hF (fun J33 hb32 hF => ?_) (fun J33 hb32 hF => ?_) (fun v34 hF => ?_)
      ·refine Xt ?_;refine QC ?_;exact tw
      ·refine K4 ?_;refine Tn ?_;refine Ve ?_;refine Pe ?_;refine BQ ?_;refine Jc rfl rfl Bs hF (fun x35 _ hF => ?_);refine Xc ?_;refine Xf ?_;exact tw
      ·refine MI ?_;exact tw
     ·refine LN ?_;refine Un ?_;refine Zl ?_;refine K7 ?_;exact tw
     ·refine E7 ?_;exact rt
   ·refine PC ?_;refine Bb rfl hF (fun hb36 hF => ?_) fun hb36 hF => ?_
    ·refine I0 ?_;refine cl (DI _ hF fun x37 _ hF => ?_);refine Xq ?_;refine Bl 4 68 hF (fun J39 hb38 hF => ?_) (fun J39 hb38 hF => ?_) (fun v40 hF => ?_)
     ·refine K4 ?_;refine cl (DI _ hF fun x41 _ hF => ?_);refine Wv ?_;refine Jw ?_;exact tw
     ·refine Ow ?_;exact tw
     ·refine D3 ?_;refine Bl 18 87 hF (fun J43 hb42 hF => ?_) (fun J43 hb42 hF => ?_) (fun v44 hF => ?_)
      ·refine K4 ?_;refine K5 ?_;refine Qt ?_;refine Bl 14 86 hF (fun J46 hb45 hF => ?_) (fun J46 hb45 hF => ?_) (fun v47 hF => ?_)
       ·refine Lp ?_;refine Xu ?_;refine Zu ?_;refine LK ?_;refine Xd ?_;refine QC ?_;exact tw
       ·refine K4 ?_;refine Jc rfl rfl Bs hF (fun x48 _ hF => ?_);refine Xc ?_;refine Qt ?_;refine Bl 4 80 hF (fun J50 hb49 hF => ?_) (fun J50 hb49 hF => ?_) (fun v51 hF => ?_)
        ·refine K4 ?_;refine Jc rfl rfl Bs hF (fun x52 _ hF => ?_);refine Xc ?_;refine UR ?_;exact tw
        ·refine LN ?_;refine Qz ?_;exact tw
        ·refine EH ?_;refine TP ?_;refine Bl 4 85 hF (fun J54 hb53 hF => ?_) (fun J54 hb53 hF => ?_) (fun v55 hF => ?_)
         ·refine K4 ?_;refine Jc rfl rfl Bs hF (fun x56 _ hF => ?_);refine Xc ?_;refine UR ?_;exact tw
         ·refine LN ?_;refine Qz ?_;exact tw
         ·refine Qz ?_;exact tw
       ·refine MI ?_;exact tw
      ·refine LN ?_;refine Tc ?_;refine Un ?_;refine Zk ?_;refine K7 ?_;exact tw
      ·refine E7 ?_;exact rt
    ·refine UY ?_;exact rt
theorem Hc {β : Type} {f : Bool -> Option β} {G : β -> Prop} {R : D -> Heap -> Prop} {p0 : Ab} (h : Heap) (hF : OptP ((Cp p0).bind f) G) (hk : ∀ r, Cp p0 = some r -> OptP (f r) G -> R (.bool r) h) : CallsA prog 56 [.agg (Ac p0)] h R := by
 obtain ⟨r0, hr, hF⟩ := AM hF;refine (H0 (G := fun r => r = r0) p0 h ⟨r0, hr, rfl⟩).mono ?_;rintro _ _ ⟨r, rfl, rfl, rfl⟩;exact hk _ hr hF
theorem Ht (p0 : Ab) {G : Int -> Prop} (h : Heap) (hF : OptP (Bp p0) G) : CallsA prog 23 [.agg (Ac p0)] h fun d h' => ∃ r, G r /\ d = .int .i64 r /\ h' = h := by
 refine CallsA.ret ?_;refine AS func23 rfl Ab2 ntmps23 rfl (fun ok => ?_);rw [Bp] at hF;refine BL ?_;refine B1 (v := .agg (Ac p0)) (cs := Ac p0) rfl rfl rfl rfl ?_;refine IA ?_;refine OE ?_;refine Ax rfl Bd AQ (by rw [Aa]; rfl) ?_;refine Ap rfl (Az CL AQ (congrArg (List.drop 0) (Aa p0))) ?_;refine VV ?_;refine Bb rfl hF (fun hb1 hF => ?_) fun hb1 hF => ?_
 ·refine Ld ?_;exact rt
 ·refine Eh ?_;refine BL ?_;refine Ap rfl (A3 (vs := Ac p0) At Aj (by rw [Aa]; rfl) (by rw [Aa]; rfl)) ?_;refine cl (E4 _ hF fun x2 _ hF => ?_);refine MN ?_;refine IR ?_;refine Ce (mdl [(4, 1)]) ?_;refine Ap rfl (A3 (vs := Ac p0) At Aj (by rw [Aa]; rfl) (by rw [Aa]; rfl)) ?_;refine cl (Hu _ hF fun x3 _ hF => ?_);refine UT ?_;refine Md ?_;refine Ub ?_;refine TF ?_;refine Ef (v := .agg [.bool true, .bool (!x3), .bool (decide ((x2.length : Int) <= 2001)), .bool true, .bool true, .bool true, .bool true]) (Tl Pa TK Ee DB rfl) ?_;refine Ds ok rfl Pa ?_;intro i4 hi4 ok;refine HS (j := 0) (cs' := [.bool true, .bool (!x3), .bool (decide ((x2.length : Int) <= 2001)), .bool true, .bool true, .bool true, .bool true]) ok rfl rfl rfl hi4 rfl SP rfl rfl (fun ok => ?_);refine Ji ?_;refine IA ?_;refine AF hF (fun (v : Bool × Bool × Bool × Bool × Bool × Bool × Bool) s' => match v with | (a40, a41, a42, a43, a44, a45, a46) => Zs h [(i4, .cells [.bool a40, .bool a41, .bool a42, .bool a43, .bool a44, .bool a45, .bool a46])] 98 [(1, .iptr (Ac p0)), (4, .ptr i4 0), (5, .int .i64 0)] s') (fun J47 hF => ?_) ?_
  ·refine Jm ?_;refine MK ?_;refine Bk (σ := Bool × Bool × Bool × Bool × Bool × Bool × Bool × Int) hF (fun (v : Bool × Bool × Bool × Bool × Bool × Bool × Bool × Int) s' => match v with | (a48, a49, a50, a51, a52, a53, a54, a55) => Zs h [(i4, .cells [.bool a48, .bool a49, .bool a50, .bool a51, .bool a52, .bool a53, .bool a54])] 98 [(1, .iptr (Ac p0)), (4, .ptr i4 0), (5, .int .i64 0), (23, .sl 6 (List.map Ac x2) 0), (24, .int .i64 (x2.length : Int)), (25, .int .i64 a55)] s') ?_ ?_
   ·exact ⟨oy ok, wy ok⟩
   ·rintro G56 hG57 rec58 ⟨a48, a49, a50, a51, a52, a53, a54, a55⟩ s' ih59 hF ⟨ok, hws⟩;refine Aw hws ?_;rw [B2] at hF;refine GG ?_;refine Bb rfl hF (fun hb60 hF => ?_) fun hb60 hF => ?_
    ·refine Lj ?_;refine Ce (mdl [(7, 1)]) ?_;refine Fi rfl rfl Ck Aj hF (fun x61 _ hF => ?_);refine Ap rfl (A3 (vs := Ac x61) At Aj (by rw [Aa]; rfl) (by rw [Aa]; rfl)) ?_;refine Ds ok rfl BP ?_;intro i62 hi62 ok;refine HS (j := 0) (cs' := [.int .i64 x61.Kind, .str x61.Name.URI, .str x61.Name.Local, .sl 3 (List.map Af x61.Attrs) 0, .sl 6 (List.map Ac x61.Kids) 0, .str x61.Text]) ok rfl (congrArg D.agg (Aa x61)) rfl hi62 rfl Aj rfl rfl (fun ok => ?_);refine Ji ?_;refine JR (i := 0) rfl rfl Ee DB rfl ?_;refine Xr ?_;refine Bl 3 34 hF (fun J64 hb63 hF => ?_) (fun J64 hb63 hF => ?_) (fun v65 hF => ?_)
     ·refine EH ?_;refine Ej (j := 0) ok rfl rfl rfl hi62 (A3 (vs := Ac x61) At Aj rfl (Aa x61).symm) ?_;refine BQ ?_;refine cl (Hl _ hF fun x66 _ hF => ?_);refine Jw ?_;exact tw
     ·refine JG ?_;exact tw
     ·refine JR (i := 0) rfl rfl Ee DB rfl ?_;refine st_ 1 ok hi4 DB (fun ok => ?_);refine Ji ?_;refine JR (i := 2) rfl rfl Ee DB rfl ?_;refine Xr ?_;refine Bl 3 41 hF (fun J68 hb67 hF => ?_) (fun J68 hb67 hF => ?_) (fun v69 hF => ?_)
      ·refine EH ?_;refine Ej (j := 0) ok rfl rfl rfl hi62 (A3 (vs := Ac x61) At Aj rfl (Aa x61).symm) ?_;refine BQ ?_;refine cl (Hm _ hF fun x70 _ hF => ?_);refine Jw ?_;exact tw
      ·refine JG ?_;exact tw
      ·refine JR (i := 2) rfl rfl Ee DB rfl ?_;refine st_ 1 ok hi4 DB (fun ok => ?_);refine Ji ?_;refine JR (i := 3) rfl rfl Ee DB rfl ?_;refine Xr ?_;refine Bl 3 48 hF (fun J72 hb71 hF => ?_) (fun J72 hb71 hF => ?_) (fun v73 hF => ?_)
       ·refine EH ?_;refine Ej (j := 0) ok rfl rfl rfl hi62 (A3 (vs := Ac x61) At Aj rfl (Aa x61).symm) ?_;refine BQ ?_;refine cl (HA _ hF fun x74 _ hF => ?_);refine Jw ?_;exact tw
       ·refine JG ?_;exact tw
       ·refine JR (i := 3) rfl rfl Ee DB rfl ?_;refine st_ 1 ok hi4 DB (fun ok => ?_);refine Ji ?_;refine JR (i := 4) rfl rfl Ee DB rfl ?_;refine Xr ?_;refine Bl 3 55 hF (fun J76 hb75 hF => ?_) (fun J76 hb75 hF => ?_) (fun v77 hF => ?_)
        ·refine EH ?_;refine Ej (j := 0) ok rfl rfl rfl hi62 (A3 (vs := Ac x61) At Aj rfl (Aa x61).symm) ?_;refine BQ ?_;refine cl (GU _ hF fun x78 _ hF => ?_);refine Jw ?_;exact tw
        ·refine JG ?_;exact tw
        ·refine JR (i := 4) rfl rfl Ee DB rfl ?_;refine st_ 1 ok hi4 DB (fun ok => ?_);refine Ji ?_;refine JR (i := 5) rfl rfl Ee DB rfl ?_;refine Xr ?_;refine Bl 3 62 hF (fun J80 hb79 hF => ?_) (fun J80 hb79 hF => ?_) (fun v81 hF => ?_)
         ·refine EH ?_;refine Ej (j := 0) ok rfl rfl rfl hi62 (A3 (vs := Ac x61) At Aj rfl (Aa x61).symm) ?_;refine BQ ?_;refine cl (GT _ hF fun x82 _ hF => ?_);refine Jw ?_;exact tw
         ·refine JG ?_;exact tw
         ·refine JR (i := 5) rfl rfl Ee DB rfl ?_;refine st_ 1 ok hi4 DB (fun ok => ?_);refine C1 ?_;refine MO ?_;refine JR (i := 6) rfl rfl Ee DB rfl ?_;refine Xr ?_;refine Bl 3 69 hF (fun J84 hb83 hF => ?_) (fun J84 hb83 hF => ?_) (fun v85 hF => ?_)
          ·refine EH ?_;refine Ej (j := 0) ok rfl rfl rfl hi62 (A3 (vs := Ac x61) At Aj rfl (Aa x61).symm) ?_;refine BQ ?_;refine cl (Hc _ hF fun x86 _ hF => ?_);refine Jw ?_;exact tw
          ·refine JG ?_;exact tw
          ·refine JR (i := 6) rfl rfl Ee DB rfl ?_;refine st_ 1 ok hi4 DB (fun ok => ?_);refine PM ?_;refine ih59 (v65, a49, v69, v73, v77, v81, v85, (IntKind.wrap .i64 (a55 + 1))) _ hF ?_;exact ⟨oy ok, wy ok⟩
    ·refine EI ?_;replace hF := hG57 _ (Ar hF);exact ⟨(a48, a49, a50, a51, a52, a53, a54), hF, oy ok, wy ok⟩
  ·rintro ⟨a40, a41, a42, a43, a44, a45, a46⟩ s' hF ⟨ok, hws⟩;refine Aw hws ?_;refine AF hF (fun (a97 : Int) s' => Zs h [(i4, .cells [.bool a40, .bool a41, .bool a42, .bool a43, .bool a44, .bool a45, .bool a46])] 98 [(4, .ptr i4 0), (5, .int .i64 a97)] s') (fun J98 hF => ?_) ?_
   ·refine BL ?_;refine Ax rfl AZ Au (by rw [Aa]; rfl) ?_;refine Ap rfl (Az BF Au (congrArg (List.drop 4) (Aa p0))) ?_;refine MK ?_;refine Bk (σ := Int × Int) hF (fun (v : Int × Int) s' => match v with | (a99, a100) => Zs h [(i4, .cells [.bool a40, .bool a41, .bool a42, .bool a43, .bool a44, .bool a45, .bool a46])] 98 [(4, .ptr i4 0), (5, .int .i64 a99), (73, .sl 6 (List.map Ac p0.Kids) 0), (74, .int .i64 (p0.Kids.length : Int)), (75, .int .i64 a100)] s') ?_ ?_
    ·exact ⟨oy ok, wy ok⟩
    ·rintro G101 hG102 rec103 ⟨a99, a100⟩ s' ih104 hF ⟨ok, hws⟩;refine Aw hws ?_;rw [CD] at hF;refine GG ?_;refine Bb rfl hF (fun hb105 hF => ?_) fun hb105 hF => ?_
     ·refine Eh ?_;refine AF hF (fun (a109 : Int) s' => Zs h [(i4, .cells [.bool a40, .bool a41, .bool a42, .bool a43, .bool a44, .bool a45, .bool a46])] 98 [(4, .ptr i4 0), (5, .int .i64 a109), (73, .sl 6 (List.map Ac p0.Kids) 0), (74, .int .i64 (p0.Kids.length : Int)), (75, .int .i64 a100)] s') (fun J110 hF => ?_) ?_
      ·refine JJ ?_;refine IR ?_;refine Ce (mdl [(9, 1)]) ?_;refine Fi rfl rfl Ck Aj hF (fun x111 _ hF => ?_);refine Ap rfl (A3 (vs := Ac x111) At Aj (by rw [Aa]; rfl) (by rw [Aa]; rfl)) ?_;refine Ds ok rfl BP ?_;intro i112 hi112 ok;refine HS (j := 0) (cs' := [.int .i64 x111.Kind, .str x111.Name.URI, .str x111.Name.Local, .sl 3 (List.map Af x111.Attrs) 0, .sl 6 (List.map Ac x111.Kids) 0, .str x111.Text]) ok rfl (congrArg D.agg (Aa x111)) rfl hi112 rfl Aj rfl rfl (fun ok => ?_);refine Ji ?_;refine Wo ?_;refine TI ?_;refine Sa ?_;refine Bb rfl hF (fun hb113 hF => ?_) fun hb113 hF => ?_
       ·refine PZ ?_;exact ⟨(IntKind.wrap .i64 (a99 + 1)), hF, oy ok, wy ok⟩
       ·refine Eh ?_;exact ⟨a99, hF, oy ok, wy ok⟩
      ·rintro a109 s' hF ⟨ok, hws⟩;refine Aw hws ?_;refine Np ?_;refine ih104 (a109, (IntKind.wrap .i64 (a100 + 1))) _ hF ?_;exact ⟨oy ok, wy ok⟩
     ·refine EI ?_;replace hF := hG102 _ (Ar hF);exact ⟨a99, hF, oy ok, wy ok⟩
   ·rintro a97 s' hF ⟨ok, hws⟩;refine Aw hws ?_;refine AF hF (fun (_ : Unit) s' => Zs h [] 98 [(5, .int .i64 a97)] s') (fun J119 hF => ?_) ?_
    ·refine GI ?_;refine XP ?_;refine Bk (σ := Int) hF (fun (a120 : Int) s' => Zs h [(i4, .cells [.bool a40, .bool a41, .bool a42, .bool a43, .bool a44, .bool a45, .bool a46])] 98 [(4, .ptr i4 0), (5, .int .i64 a97), (85, .int .i64 a120)] s') ?_ ?_
     ·exact ⟨oy ok, wy ok⟩
     ·rintro G121 hG122 rec123 a120 s' ih124 hF ⟨ok, hws⟩;refine Aw hws ?_;rw [DW] at hF;refine GG ?_;refine Bb rfl hF (fun hb125 hF => ?_) fun hb125 hF => ?_
      ·refine Tm ?_;refine GI ?_;refine Abz (a := ([a40, a41, a42, a43, a44, a45, a46] : List Bool)) rfl rfl Ee DB hF (fun x126 hxx126 hF => ?_);refine Ej (j := 0) ok rfl rfl rfl hi4 (ZB (g := D.bool) (a := ([a40, a41, a42, a43, a44, a45, a46] : List Bool)) hxx126 R9 DB) ?_;refine VJ ?_;refine Bb rfl hF (fun hb127 hF => ?_) fun hb127 hF => ?_
       ·refine BL ?_;refine Ef (v := .agg (List.map (D.int .i64) [33, 31, 5, 24, 21, 34, 32])) (Tl T5 TQ Pu AQ rfl) ?_;refine H8 ?_;refine Aav (g := (D.int .i64)) rfl rfl Pu AQ CL hF (fun x128 _ hF => ?_);refine Qu ?_;replace hF := hG122 _ (Ar hF);exact rt
       ·refine NE ?_;refine ih124 (IntKind.wrap .i64 (a120 + 1)) _ hF ?_;exact ⟨oy ok, wy ok⟩
      ·refine EI ?_;replace hF := hG122 _ (Ar hF);exact ⟨(), hF, oy ok, wy ok⟩
    ·rintro ⟨⟩ s' hF ⟨ok, hws⟩;refine Aw hws ?_;refine JF ?_;refine VV ?_;refine Bb rfl hF (fun hb129 hF => ?_) fun hb129 hF => ?_
     ·refine Ld ?_;exact rt
     ·refine Eh ?_;refine Ld ?_;exact rt
theorem GM {β : Type} {f : Int -> Option β} {G : β -> Prop} {R : D -> Heap -> Prop} {p0 : Ab} (h : Heap) (hF : OptP ((Bp p0).bind f) G) (hk : ∀ r, Bp p0 = some r -> OptP (f r) G -> R (.int .i64 r) h) : CallsA prog 23 [.agg (Ac p0)] h R := by
 obtain ⟨r0, hr, hF⟩ := AM hF;refine (Ht (G := fun r => r = r0) p0 h ⟨r0, hr, rfl⟩).mono ?_;rintro _ _ ⟨r, rfl, rfl, rfl⟩;exact hk _ hr hF
theorem GX (p0 : Ab) {G : (List (List By8)) -> Prop} (h : Heap) (hF : OptP (BU p0) G) : CallsA prog 28 [.agg (Ac p0)] h fun d h' => ∃ r, G r /\ d = .sl 1 (List.map Am r) 0 /\ h' = h := by
 refine CallsA.ret ?_;refine AS func28 rfl Aaf ntmps28 rfl (fun ok => ?_);rw [BU] at hF;refine BL ?_;refine B1 (v := .agg (Ac p0)) (cs := Ac p0) rfl rfl rfl rfl ?_;refine S_a (v := .snil) rfl ?_;refine Gi 2 (v := .sl 1 (List.map Am []) 0) (.nil _) ?_;refine Ji ?_;refine Dr (cs := []) (es := (List.map Am [])) rfl B3 rfl (by kernel_rfl) (by kernel_rfl) ?_;refine MN ?_;refine AF hF (fun (a164 : (List (List By8))) s' => Zs h [] 89 [(3, .sl 1 (List.map Am a164) 0)] s') (fun J165 hF => ?_) ?_
 ·refine BL ?_;refine Ap rfl (A3 (vs := Ac p0) At Aj (by rw [Aa]; rfl) (by rw [Aa]; rfl)) ?_;refine cl (E4 _ hF fun x166 _ hF => ?_);refine MK ?_;refine Bk (σ := (List (List By8)) × Int) hF (fun (v : (List (List By8)) × Int) s' => match v with | (a167, a168) => Zs h [] 89 [(3, .sl 1 (List.map Am a167) 0), (14, .sl 6 (List.map Ac x166) 0), (15, .int .i64 (x166.length : Int)), (16, .int .i64 a168)] s') ?_ ?_
  ·exact ⟨oy ok, wy ok⟩
  ·rintro G169 hG170 rec171 ⟨a167, a168⟩ s' ih172 hF ⟨ok, hws⟩;refine Aw hws ?_;rw [Cz] at hF;refine GG ?_;refine Bb rfl hF (fun hb173 hF => ?_) fun hb173 hF => ?_
   ·refine Eh ?_;refine AF hF (fun (a253 : (List (List By8))) s' => Zs h [] 89 [(3, .sl 1 (List.map Am a253) 0), (14, .sl 6 (List.map Ac x166) 0), (15, .int .i64 (x166.length : Int)), (16, .int .i64 a168)] s') (fun J254 hF => ?_) ?_
    ·refine JJ ?_;refine IR ?_;refine Ce (mdl [(5, 1)]) ?_;refine Fi rfl rfl Ck Aj hF (fun x255 _ hF => ?_);refine Ap rfl (A3 (vs := Ac x255) At Aj (by rw [Aa]; rfl) (by rw [Aa]; rfl)) ?_;refine Ds ok rfl BP ?_;intro i256 hi256 ok;refine HS (j := 0) (cs' := [.int .i64 x255.Kind, .str x255.Name.URI, .str x255.Name.Local, .sl 3 (List.map Af x255.Attrs) 0, .sl 6 (List.map Ac x255.Kids) 0, .str x255.Text]) ok rfl (congrArg D.agg (Aa x255)) rfl hi256 rfl Aj rfl rfl (fun ok => ?_);refine SI ?_;refine Ce (mdl [(23, 2)]) ?_;refine Iv rfl BJ AV ?_;refine Y1 ?_;refine RF ?_;refine Lt (cs := [.str x255.Name.URI]) (es := (List.map Am [x255.Name.URI])) ok rfl B3 rfl (by kernel_rfl) (by kernel_rfl) ?_;intro r257 hr257 ok;refine MN ?_;refine AF hF (fun (a265 : (List (List By8))) s' => ∃ g266 : Nat, g266 ≠ 0 /\ Zs h [(g266, .room)] 89 [(3, .sl 1 (List.map Am a167) 0), (6, .sl 1 (List.map Am a265) g266), (14, .sl 6 (List.map Ac x166) 0), (15, .int .i64 (x166.length : Int)), (16, .int .i64 a168)] s') (fun J267 hF => ?_) ?_
     ·refine BL ?_;refine Iv rfl Bc AD ?_;refine Ej (j := 1) ok rfl rfl rfl (by assumption) (Az (v := .sl _ _ _) Cm AD rfl) ?_;refine SC ?_;refine Bk (σ := (List (List By8)) × Int) hF (fun (v : (List (List By8)) × Int) s' => match v with | (a268, a270) => ∃ g269 : Nat, g269 ≠ 0 /\ Zs h [(g269, .room)] 89 [(3, .sl 1 (List.map Am a167) 0), (6, .sl 1 (List.map Am a268) g269), (14, .sl 6 (List.map Ac x166) 0), (15, .int .i64 (x166.length : Int)), (16, .int .i64 a168), (25, .sl 3 (List.map Af x255.Attrs) 0), (26, .int .i64 (x255.Attrs.length : Int)), (27, .int .i64 a270)] s') ?_ ?_
      ·exact ⟨r257, hr257, oy ok, wy ok⟩
      ·rintro G271 hG272 rec273 ⟨a268, a270⟩ s' ih274 hF ⟨g269, hg269, ok, hws⟩;refine Aw hws ?_;rw [BT] at hF;refine GG ?_;refine Bb rfl hF (fun hb275 hF => ?_) fun hb275 hF => ?_
       ·refine Lj ?_;refine Ce (mdl [(8, 1)]) ?_;refine Fi rfl rfl DZ BB hF (fun x276 _ hF => ?_);refine Ap rfl (A3 (vs := Af x276) Fg BB rfl rfl) ?_;refine Ds ok rfl Ga ?_;intro i277 hi277 ok;refine HS (j := 0) (cs' := [.str x276.Name.URI, .str x276.Name.Local, .str x276.Value]) ok rfl rfl rfl hi277 rfl BB rfl rfl (fun ok => ?_);refine C1 ?_;refine Ce (mdl [(36, 2)]) ?_;refine Md ?_;refine UI ?_;refine Y1 ?_;refine RF ?_;refine Dr (cs := [.str x276.Name.URI]) (es := (List.map Am [x276.Name.URI])) rfl B3 rfl (by kernel_rfl) (by kernel_rfl) ?_;refine Iu (j := 1) ok rfl rfl rfl rfl hg269 B3 GY hF ?_;intro r278 hr278 ok hF;refine MN ?_;refine Np ?_;refine ih274 ((a268 ++ [x276.Name.URI]), (IntKind.wrap .i64 (a270 + 1))) _ hF ?_;exact ⟨r278, hr278, oy ok, wy ok⟩
       ·refine EI ?_;replace hF := hG272 _ (Ar hF);exact ⟨a268, hF, g269, hg269, oy ok, wy ok⟩
     ·rintro a265 s' hF ⟨g266, hg266, ok, hws⟩;refine Aw hws ?_;refine Jm ?_;refine Gi 38 (v := .sl 1 (List.map Am a265) 0) (.zero _ _ _) ?_;refine VH ?_;refine Bk (σ := (List (List By8)) × Int) hF (fun (v : (List (List By8)) × Int) s' => match v with | (a279, a280) => Zs h [] 89 [(3, .sl 1 (List.map Am a279) 0), (14, .sl 6 (List.map Ac x166) 0), (15, .int .i64 (x166.length : Int)), (16, .int .i64 a168), (38, .sl 1 (List.map Am a265) 0), (39, .int .i64 (a265.length : Int)), (40, .int .i64 a280)] s') ?_ ?_
      ·exact ⟨oy ok, wy ok⟩
      ·rintro G281 hG282 rec283 ⟨a279, a280⟩ s' ih284 hF ⟨ok, hws⟩;refine Aw hws ?_;rw [BS] at hF;refine GG ?_;refine Bb rfl hF (fun hb285 hF => ?_) fun hb285 hF => ?_
       ·refine Eh ?_;refine AF hF (fun (a314 : (List (List By8))) s' => Zs h [] 89 [(3, .sl 1 (List.map Am a314) 0), (14, .sl 6 (List.map Ac x166) 0), (15, .int .i64 (x166.length : Int)), (16, .int .i64 a168), (38, .sl 1 (List.map Am a265) 0), (39, .int .i64 (a265.length : Int)), (40, .int .i64 a280)] s') (fun J315 hF => ?_) ?_
        ·refine JJ ?_;refine BL ?_;refine Fi rfl rfl CB Ak hF (fun x316 _ hF => ?_);refine OI ?_;refine JN ?_;refine SD ?_;refine AF hF (fun (a323 : Int) s' => Zs h [] 89 [(3, .sl 1 (List.map Am a279) 0), (10, .str x316), (11, .int .i64 a323), (14, .sl 6 (List.map Ac x166) 0), (15, .int .i64 (x166.length : Int)), (16, .int .i64 a168), (38, .sl 1 (List.map Am a265) 0), (39, .int .i64 (a265.length : Int)), (40, .int .i64 a280)] s') (fun J324 hF => ?_) ?_
         ·refine JJ ?_;refine Bk (σ := Int) hF (fun (a325 : Int) s' => Zs h [] 89 [(3, .sl 1 (List.map Am a279) 0), (10, .str x316), (11, .int .i64 a325), (14, .sl 6 (List.map Ac x166) 0), (15, .int .i64 (x166.length : Int)), (16, .int .i64 a168), (38, .sl 1 (List.map Am a265) 0), (39, .int .i64 (a265.length : Int)), (40, .int .i64 a280)] s') ?_ ?_
          ·exact ⟨oy ok, wy ok⟩
          ·rintro G326 hG327 rec328 a325 s' ih329 hF ⟨ok, hws⟩;refine Aw hws ?_;rw [BR] at hF;refine JF ?_;refine Md ?_;refine Xp ?_;refine Xn ?_;refine Bl 7 55 hF (fun J331 hb330 hF => ?_) (fun J331 hb330 hF => ?_) (fun v332 hF => ?_)
           ·refine S8 ?_;refine QD ?_;refine Fi rfl rfl CB Ak hF (fun x333 _ hF => ?_);refine Wt ?_;refine Tn ?_;refine Eg rfl rfl Nx ?_;refine Jw ?_;exact tw
           ·refine Lp ?_;refine JG ?_;exact tw
           ·refine C1 ?_;refine Bb rfl hF (fun hb334 hF => ?_) fun hb334 hF => ?_
            ·refine SW ?_;refine PZ ?_;refine ih329 (IntKind.wrap .i64 (a325 + 1)) _ hF ?_;exact ⟨oy ok, wy ok⟩
            ·refine EI ?_;replace hF := hG327 _ (Ar hF);exact ⟨a325, hF, oy ok, wy ok⟩
         ·rintro a323 s' hF ⟨ok, hws⟩;refine Aw hws ?_;refine I0 ?_;refine QS ?_;refine D3 ?_;refine Bl 13 73 hF (fun J336 hb335 hF => ?_) (fun J336 hb335 hF => ?_) (fun v337 hF => ?_)
          ·refine Li ?_;refine Xe ?_;refine Xp ?_;refine Xw ?_;refine Bl 7 72 hF (fun J339 hb338 hF => ?_) (fun J339 hb338 hF => ?_) (fun v340 hF => ?_)
           ·refine Xt ?_;refine QC ?_;exact tw
           ·refine S8 ?_;refine QD ?_;refine Fi rfl rfl CB Ak hF (fun x341 _ hF => ?_);refine Wt ?_;refine Tn ?_;refine QS ?_;refine Xf ?_;exact tw
           ·refine MI ?_;exact tw
          ·refine LK ?_;refine LN ?_;refine Un ?_;refine Zl ?_;refine K7 ?_;exact tw
          ·refine C1 ?_;refine Bb rfl hF (fun hb342 hF => ?_) fun hb342 hF => ?_
           ·refine MW (mdl [(74, 2), (78, 2), (81, 2), (85, 2)]) [1, 2, 3, 5, 6, 8, 9, 10, 0, 4, 7, 11, 12] [_, _, _, _, _, _, _, _, _, _, _, _, _] (by kernel_rfl) rfl rfl (by kernel_rfl) ?_;refine Ue ?_;refine Wq rfl CB Ak Qh (JS rfl) hF (fun x343 _ hF => ?_);refine IZ ?_;refine Dr (cs := [.str x316]) (es := (List.map Am [x316])) rfl B3 rfl (by kernel_rfl) (by kernel_rfl) ?_;refine Ue ?_;refine Wq rfl CB Ak (JS rfl) Uw hF (fun x344 _ hF => ?_);refine Lt (cs := []) (es := (List.map Am [])) ok rfl B3 rfl (by kernel_rfl) (by kernel_rfl) ?_;intro r345 hr345 ok;refine Iu (j := 0) ok rfl rfl rfl rfl hr345 B3 GY hF ?_;intro r346 hr346 ok hF;refine Iu (j := 0) ok rfl rfl rfl rfl hr346 B3 GY hF ?_;intro r347 hr347 ok hF;refine Iu (j := 0) ok rfl rfl rfl rfl hr347 B3 GY hF ?_;intro r348 hr348 ok hF;refine MN ?_;exact ⟨((([] ++ x343) ++ [x316]) ++ x344), hF, oy ok, wy ok⟩
           ·refine Eh ?_;exact ⟨a279, hF, oy ok, wy ok⟩
        ·rintro a314 s' hF ⟨ok, hws⟩;refine Aw hws ?_;refine Np ?_;refine ih284 (a314, (IntKind.wrap .i64 (a280 + 1))) _ hF ?_;exact ⟨oy ok, wy ok⟩
       ·refine EI ?_;replace hF := hG282 _ (Ar hF);exact ⟨a279, hF, oy ok, wy ok⟩
    ·rintro a253 s' hF ⟨ok, hws⟩;refine Aw hws ?_;refine Np ?_;refine ih172 (a253, (IntKind.wrap .i64 (a168 + 1))) _ hF ?_;exact ⟨oy ok, wy ok⟩
   ·refine EI ?_;replace hF := hG170 _ (Ar hF);exact ⟨a167, hF, oy ok, wy ok⟩
 ·rintro a164 s' hF ⟨ok, hws⟩;refine Aw hws ?_;refine Jm ?_;refine MN ?_;refine SZ ?_;exact rt
theorem GF {β : Type} {f : (List (List By8)) -> Option β} {G : β -> Prop} {R : D -> Heap -> Prop} {p0 : Ab} (h : Heap) (hF : OptP ((BU p0).bind f) G) (hk : ∀ r, BU p0 = some r -> OptP (f r) G -> R (.sl 1 (List.map Am r) 0) h) : CallsA prog 28 [.agg (Ac p0)] h R := by
 obtain ⟨r0, hr, hF⟩ := AM hF;refine (GX (G := fun r => r = r0) p0 h ⟨r0, hr, rfl⟩).mono ?_;rintro _ _ ⟨r, rfl, rfl, rfl⟩;exact hk _ hr hF
theorem Gl (p0 : Ab) {G : (List (List By8)) -> Prop} (h : Heap) (hF : OptP (Bg p0) G) : CallsA prog 13 [.agg (Ac p0)] h fun d h' => ∃ r, G r /\ d = .sl 1 (List.map Am r) 0 /\ h' = h := by
 refine CallsA.ret ?_;refine AS func13 rfl Abi ntmps13 rfl (fun ok => ?_);rw [Bg] at hF;refine BL ?_;refine B1 (v := .agg (Ac p0)) (cs := Ac p0) rfl rfl rfl rfl ?_;refine S_a (v := .snil) rfl ?_;refine Gi 2 (v := .sl 1 (List.map Am []) 0) (.nil _) ?_;refine SI ?_;refine Ce (mdl [(6, 2)]) ?_;refine Lt (cs := []) (es := (List.map Am [])) ok rfl B3 rfl (by kernel_rfl) (by kernel_rfl) ?_;intro r1 hr1 ok;refine MN ?_;refine AF hF (fun (a15 : (List (List By8))) s' => ∃ g16 : Nat, g16 ≠ 0 /\ Zs h [(g16, .room)] 22 [(3, .sl 1 (List.map Am a15) g16)] s') (fun J17 hF => ?_) ?_
 ·refine BL ?_;refine Ap rfl (A3 (vs := Ac p0) At Aj (by rw [Aa]; rfl) (by rw [Aa]; rfl)) ?_;refine cl (GF _ hF fun x18 _ hF => ?_);refine VH ?_;refine Bk (σ := (List (List By8)) × Int) hF (fun (v : (List (List By8)) × Int) s' => match v with | (a19, a21) => ∃ g20 : Nat, g20 ≠ 0 /\ Zs h [(g20, .room)] 22 [(3, .sl 1 (List.map Am a19) g20), (8, .sl 1 (List.map Am x18) 0), (9, .int .i64 (x18.length : Int)), (10, .int .i64 a21)] s') ?_ ?_
  ·exact ⟨r1, hr1, oy ok, wy ok⟩
  ·rintro G22 hG23 rec24 ⟨a19, a21⟩ s' ih25 hF ⟨g20, hg20, ok, hws⟩;refine Aw hws ?_;rw [B5] at hF;refine GG ?_;refine Bb rfl hF (fun hb26 hF => ?_) fun hb26 hF => ?_
   ·refine Eh ?_;refine AF hF (fun (a30 : (List (List By8))) s' => ∃ g31 : Nat, g31 ≠ 0 /\ Zs h [(g31, .room)] 22 [(3, .sl 1 (List.map Am a30) g31), (8, .sl 1 (List.map Am x18) 0), (9, .int .i64 (x18.length : Int)), (10, .int .i64 a21)] s') (fun J32 hF => ?_) ?_
    ·refine JJ ?_;refine BL ?_;refine Fi rfl rfl CB Ak hF (fun x33 _ hF => ?_);refine OI ?_;refine JN ?_;refine I0 ?_;refine YB ?_;refine Bb rfl hF (fun hb34 hF => ?_) fun hb34 hF => ?_
     ·refine Ce (mdl [(19, 2)]) ?_;refine Md ?_;refine IZ ?_;refine Dr (cs := [.str x33]) (es := (List.map Am [x33])) rfl B3 rfl (by kernel_rfl) (by kernel_rfl) ?_;refine Iu (j := 0) ok rfl rfl rfl rfl hg20 B3 GY hF ?_;intro r35 hr35 ok hF;refine MN ?_;exact ⟨(a19 ++ [x33]), hF, r35, hr35, oy ok, wy ok⟩
     ·refine Eh ?_;exact ⟨a19, hF, g20, hg20, oy ok, wy ok⟩
    ·rintro a30 s' hF ⟨g31, hg31, ok, hws⟩;refine Aw hws ?_;refine Np ?_;refine ih25 (a30, (IntKind.wrap .i64 (a21 + 1))) _ hF ?_;exact ⟨g31, hg31, oy ok, wy ok⟩
   ·refine EI ?_;replace hF := hG23 _ (Ar hF);exact ⟨a19, hF, g20, hg20, oy ok, wy ok⟩
 ·rintro a15 s' hF ⟨g16, hg16, ok, hws⟩;refine Aw hws ?_;refine Jm ?_;refine Gi 21 (v := .sl 1 (List.map Am a15) 0) (.zero _ _ _) ?_;refine MN ?_;refine SZ ?_;exact rt
theorem Ew {β : Type} {f : (List (List By8)) -> Option β} {G : β -> Prop} {R : D -> Heap -> Prop} {p0 : Ab} (h : Heap) (hF : OptP ((Bg p0).bind f) G) (hk : ∀ r, Bg p0 = some r -> OptP (f r) G -> R (.sl 1 (List.map Am r) 0) h) : CallsA prog 13 [.agg (Ac p0)] h R := by
 obtain ⟨r0, hr, hF⟩ := AM hF;refine (Gl (G := fun r => r = r0) p0 h ⟨r0, hr, rfl⟩).mono ?_;rintro _ _ ⟨r, rfl, rfl, rfl⟩;exact hk _ hr hF
theorem GD (p0 : List By8) (p1 : List By8) (p2 : List (List By8)) {G : (List By8) -> Prop} (h : Heap) (hF : OptP (Bm p0 p1 p2) G) : CallsA prog 102 [.str p0, .str p1, .agg (List.map D.str p2)] h fun d h' => ∃ r, G r /\ d = .str r /\ h' = h := by
 refine CallsA.ret ?_;refine AS func102 rfl YQ ntmps102 rfl (fun ok => ?_);rw [Bm] at hF;refine BL ?_;refine B1 rfl rfl rfl rfl ?_;refine S_a (v := .str []) rfl ?_;refine Ji ?_;refine S_a (v := .str []) rfl ?_;refine C1 ?_;refine AF hF (fun (a57 : (List By8)) s' => Zs h [] 42 [(7, .str a57)] s') (fun J58 hF => ?_) ?_
 ·refine T6 ?_;refine Bk (σ := (List By8) × Int) hF (fun (v : (List By8) × Int) s' => match v with | (a59, a60) => Zs h [] 42 [(0, .str p0), (1, .str p1), (5, .iptr (List.map D.str p2)), (7, .str a59), (8, .int .i64 a60)] s') ?_ ?_
  ·exact ⟨oy ok, wy ok⟩
  ·rintro G61 hG62 rec63 ⟨a59, a60⟩ s' ih64 hF ⟨ok, hws⟩;refine Aw hws ?_;rw [Cj] at hF;refine JF ?_;refine UB ?_;refine K6 ?_;refine Bb rfl hF (fun hb65 hF => ?_) fun hb65 hF => ?_
   ·refine Eh ?_;refine AF hF (fun (a92 : (List By8)) s' => Zs h [] 42 [(0, .str p0), (1, .str p1), (5, .iptr (List.map D.str p2)), (7, .str a92), (8, .int .i64 a60)] s') (fun J93 hF => ?_) ?_
    ·refine JJ ?_;refine WJ ?_;refine Xj ?_;refine PF rfl Bs (JS rfl) (JS rfl) hF (fun x94 _ hF => ?_);refine JN ?_;refine AF hF (fun (a107 : (List By8)) s' => Zs h [] 42 [(0, .str p0), (1, .str p1), (5, .iptr (List.map D.str p2)), (7, .str a59), (8, .int .i64 a60), (9, .str a107)] s') (fun J108 hF => ?_) ?_
     ·refine T6 ?_;refine Bk (σ := (List By8) × Int) hF (fun (v : (List By8) × Int) s' => match v with | (a109, a110) => Zs h [] 42 [(0, .str p0), (1, .str p1), (5, .iptr (List.map D.str p2)), (7, .str a59), (8, .int .i64 a60), (9, .str a109), (10, .int .i64 a110)] s') ?_ ?_
      ·exact ⟨oy ok, wy ok⟩
      ·rintro G111 hG112 rec113 ⟨a109, a110⟩ s' ih114 hF ⟨ok, hws⟩;refine Aw hws ?_;rw [AH] at hF;refine JF ?_;refine UB ?_;refine K6 ?_;refine Bb rfl hF (fun hb115 hF => ?_) fun hb115 hF => ?_
       ·refine Eh ?_;refine AF hF (fun (a120 : (List By8)) s' => Zs h [] 42 [(0, .str p0), (1, .str p1), (5, .iptr (List.map D.str p2)), (7, .str a59), (8, .int .i64 a60), (9, .str a120), (10, .int .i64 a110)] s') (fun J121 hF => ?_) ?_
        ·refine JJ ?_;refine IR ?_;refine MT (mdl []) (by kernel_rfl) (by kernel_rfl) ?_;refine IZ ?_;refine H8 ?_;refine Jc rfl rfl Bs hF (fun x122 _ hF => ?_);refine IZ ?_;refine H8 ?_;refine Jc rfl rfl Bs hF (fun x123 _ hF => ?_);refine Sa ?_;refine Bb rfl hF (fun hb124 hF => ?_) fun hb124 hF => ?_
         ·refine MH ?_;refine YK (g := D.str) rfl rfl Kp Ak hF (fun x125 _ hF => ?_);refine OI ?_;refine JN ?_;exact ⟨x125, hF, oy ok, wy ok⟩
         ·refine Eh ?_;exact ⟨a109, hF, oy ok, wy ok⟩
        ·rintro a120 s' hF ⟨ok, hws⟩;refine Aw hws ?_;refine PZ ?_;refine ih114 (a120, (IntKind.wrap .i64 (a110 + 1))) _ hF ?_;exact ⟨oy ok, wy ok⟩
       ·refine EI ?_;replace hF := hG112 _ (Ar hF);exact ⟨a109, hF, oy ok, wy ok⟩
     ·rintro a107 s' hF ⟨ok, hws⟩;refine Aw hws ?_;refine MO ?_;refine IZ ?_;refine IZ ?_;refine DT rfl rfl hF (fun hF => ?_);refine JN ?_;exact ⟨(a59 ++ a107), hF, oy ok, wy ok⟩
    ·rintro a92 s' hF ⟨ok, hws⟩;refine Aw hws ?_;refine PZ ?_;refine ih64 (a92, (IntKind.wrap .i64 (a60 + 1))) _ hF ?_;exact ⟨oy ok, wy ok⟩
   ·refine EI ?_;replace hF := hG62 _ (Ar hF);exact ⟨a59, hF, oy ok, wy ok⟩
 ·rintro a57 s' hF ⟨ok, hws⟩;refine Aw hws ?_;refine I0 ?_;refine NT ?_;exact rt
theorem Ez {β : Type} {f : (List By8) -> Option β} {G : β -> Prop} {R : D -> Heap -> Prop} {p0 : List By8} {p1 : List By8} {p2 : List (List By8)} (h : Heap) (hF : OptP ((Bm p0 p1 p2).bind f) G) (hk : ∀ r, Bm p0 p1 p2 = some r -> OptP (f r) G -> R (.str r) h) : CallsA prog 102 [.str p0, .str p1, .agg (List.map D.str p2)] h R := by
 obtain ⟨r0, hr, hF⟩ := AM hF;refine (GD (G := fun r => r = r0) p0 p1 p2 h ⟨r0, hr, rfl⟩).mono ?_;rintro _ _ ⟨r, rfl, rfl, rfl⟩;exact hk _ hr hF
theorem HN (p0 : List By8) {G : (List By8) -> Prop} (h : Heap) (hF : OptP (Cq p0) G) : CallsA prog 57 [.str p0] h fun d h' => ∃ r, G r /\ d = .str r /\ h' = h := by
 refine CallsA.ret ?_;refine AS func57 rfl Aas ntmps57 rfl (fun ok => ?_);rw [Cq] at hF;refine BL ?_;refine S_a (v := .str []) rfl ?_;refine C1 ?_;refine I0 ?_;refine Ef (v := .agg (List.map D.str ([[38, 97, 109, 112, 59], [38, 108, 116, 59], [38, 103, 116, 59], [38, 35, 49, 51, 59], [], []] : List (List By8)))) (Tl M9 NQ Kp Ak rfl) ?_;refine cl (Ez _ hF fun x1 _ hF => ?_);refine NT ?_;exact rt
theorem Hi {β : Type} {f : (List By8) -> Option β} {G : β -> Prop} {R : D -> Heap -> Prop} {p0 : List By8} (h : Heap) (hF : OptP ((Cq p0).bind f) G) (hk : ∀ r, Cq p0 = some r -> OptP (f r) G -> R (.str r) h) : CallsA prog 57 [.str p0] h R := by
 obtain ⟨r0, hr, hF⟩ := AM hF;refine (HN (G := fun r => r = r0) p0 h ⟨r0, hr, rfl⟩).mono ?_;rintro _ _ ⟨r, rfl, rfl, rfl⟩;exact hk _ hr hF
theorem G0 (p0 : Int) {G : (List By8) -> Prop} (h : Heap) (hF : OptP (Bv p0) G) : CallsA prog 59 [.int .i64 p0] h fun d h' => ∃ r, G r /\ d = .str r /\ h' = h := by
 refine CallsA.ret ?_;refine AS func59 rfl Z6 ntmps59 rfl (fun ok => ?_);rw [Bv] at hF;refine BL ?_;refine S_a (v := .str []) rfl ?_;refine Ji ?_;refine S_a (v := .str []) rfl ?_;refine C1 ?_;refine AF hF (fun (a5 : (List By8)) s' => Zs h [] 17 [(3, .str a5)] s') (fun J6 hF => ?_) ?_
 ·refine JJ ?_;refine Bk (σ := Int × (List By8)) hF (fun (v : Int × (List By8)) s' => match v with | (a7, a8) => Zs h [] 17 [(0, .int .i64 a7), (3, .str a8)] s') ?_ ?_
  ·exact ⟨oy ok, wy ok⟩
  ·rintro G9 hG10 rec11 ⟨a7, a8⟩ s' ih12 hF ⟨ok, hws⟩;refine Aw hws ?_;rw [Cy] at hF;refine JF ?_;refine YL ?_;refine Bb rfl hF (fun hb13 hF => ?_) fun hb13 hF => ?_
   ·refine SW ?_;refine GI ?_;refine Eg rfl rfl (ZC rfl) ?_;refine Qy ?_;refine LI rfl (XG KX RU) ?_;obtain ⟨b14, hb14, hF⟩ := AM hF;replace hb14 := QZ hb14;refine Dr (es := List.map EO [b14]) rfl TU rfl rfl (by simp only [List.map_cons, List.map_nil, EO, hb14]; rfl) ?_;refine Z8 ?_;refine IZ ?_;refine DT rfl rfl hF (fun hF => ?_);refine JN ?_;refine MH ?_;refine Eg rfl rfl (Ace rfl) ?_;refine IA ?_;refine ih12 ((IntKind.wrap .i64 (Int.tdiv a7 10)), ([b14] ++ a8)) _ hF ?_;exact ⟨oy ok, wy ok⟩
   ·refine EI ?_;replace hF := hG10 _ (Ar hF);exact ⟨a8, hF, oy ok, wy ok⟩
 ·rintro a5 s' hF ⟨ok, hws⟩;refine Aw hws ?_;refine I0 ?_;refine NT ?_;exact rt
theorem EN {β : Type} {f : (List By8) -> Option β} {G : β -> Prop} {R : D -> Heap -> Prop} {p0 : Int} (h : Heap) (hF : OptP ((Bv p0).bind f) G) (hk : ∀ r, Bv p0 = some r -> OptP (f r) G -> R (.str r) h) : CallsA prog 59 [.int .i64 p0] h R := by
 obtain ⟨r0, hr, hF⟩ := AM hF;refine (G0 (G := fun r => r = r0) p0 h ⟨r0, hr, rfl⟩).mono ?_;rintro _ _ ⟨r, rfl, rfl, rfl⟩;exact hk _ hr hF
theorem Gu (p0 : List (List By8)) (p1 : Ad) {G : (List By8) -> Prop} (h : Heap) (hF : OptP (Bn p0 p1) G) : CallsA prog 58 [.sl 1 (List.map Am p0) 0, .agg (An p1)] h fun d h' => ∃ r, G r /\ d = .str r /\ h' = h := by
 refine CallsA.ret ?_;refine AS func58 rfl Abl ntmps58 rfl (fun ok => ?_);rw [Bn] at hF;refine BL ?_;refine B1 rfl rfl rfl rfl ?_;refine S_a (v := .str []) rfl ?_;refine C1 ?_;refine OE ?_;refine Uq ?_;refine K5 ?_;refine C1 ?_;refine Bb rfl hF (fun hb1 hF => ?_) fun hb1 hF => ?_
 ·refine BL ?_;refine SK ?_;refine DT rfl rfl hF (fun hF => ?_);refine NT ?_;exact rt
 ·refine Eh ?_;refine AF hF (fun (_ : Unit) s' => Zs h [] 35 [(3, .iptr (An p1))] s') (fun J7 hF => ?_) ?_
  ·refine Jm ?_;refine VH ?_;refine Bk (σ := Int) hF (fun (a8 : Int) s' => Zs h [] 35 [(3, .iptr (An p1)), (13, .sl 1 (List.map Am p0) 0), (14, .int .i64 (p0.length : Int)), (15, .int .i64 a8)] s') ?_ ?_
   ·exact ⟨oy ok, wy ok⟩
   ·rintro G9 hG10 rec11 a8 s' ih12 hF ⟨ok, hws⟩;refine Aw hws ?_;rw [A6] at hF;refine GG ?_;refine Bb rfl hF (fun hb13 hF => ?_) fun hb13 hF => ?_
    ·refine ZO ?_;refine Fi rfl rfl CB Ak hF (fun x14 _ hF => ?_);refine OI ?_;refine N2 ?_;refine JN ?_;refine I0 ?_;refine Uq ?_;refine K5 ?_;refine C1 ?_;refine Bb rfl hF (fun hb15 hF => ?_) fun hb15 hF => ?_
     ·refine IR ?_;refine MW (mdl [(30, 3)]) [0, 1, 5, 6, 2, 3, 4, 7, 8] [_, _, _, _, _, _, _, _, _] (by kernel_rfl) rfl rfl (by kernel_rfl) ?_;refine Xj ?_;refine SK ?_;refine cl (EN _ hF fun x16 _ hF => ?_);refine DT rfl rfl hF (fun hF => ?_);refine DT rfl rfl hF (fun hF => ?_);refine DT rfl rfl hF (fun hF => ?_);refine NT ?_;replace hF := hG10 _ (Ar hF);exact rt
     ·refine NE ?_;refine ih12 (IntKind.wrap .i64 (a8 + 1)) _ hF ?_;exact ⟨oy ok, wy ok⟩
    ·refine EI ?_;replace hF := hG10 _ (Ar hF);exact ⟨(), hF, oy ok, wy ok⟩
  ·rintro ⟨⟩ s' hF ⟨ok, hws⟩;refine Aw hws ?_;refine BL ?_;refine SK ?_;refine NT ?_;exact rt
theorem DK {β : Type} {f : (List By8) -> Option β} {G : β -> Prop} {R : D -> Heap -> Prop} {p0 : List (List By8)} {p1 : Ad} (h : Heap) (hF : OptP ((Bn p0 p1).bind f) G) (hk : ∀ r, Bn p0 p1 = some r -> OptP (f r) G -> R (.str r) h) : CallsA prog 58 [.sl 1 (List.map Am p0) 0, .agg (An p1)] h R := by
 obtain ⟨r0, hr, hF⟩ := AM hF;refine (Gu (G := fun r => r = r0) p0 p1 h ⟨r0, hr, rfl⟩).mono ?_;rintro _ _ ⟨r, rfl, rfl, rfl⟩;exact hk _ hr hF
theorem Hg (p0 : List By8) {G : (List By8) -> Prop} (h : Heap) (hF : OptP (BM p0) G) : CallsA prog 60 [.str p0] h fun d h' => ∃ r, G r /\ d = .str r /\ h' = h := by
 refine CallsA.ret ?_;refine AS func60 rfl Abg ntmps60 rfl (fun ok => ?_);rw [BM] at hF;refine BL ?_;refine S_a (v := .str []) rfl ?_;refine C1 ?_;refine I0 ?_;refine Ef (v := .agg (List.map D.str ([[38, 97, 109, 112, 59], [38, 108, 116, 59], [38, 113, 117, 111, 116, 59], [38, 35, 57, 59], [38, 35, 49, 48, 59], [38, 35, 49, 51, 59]] : List (List By8)))) (Tl M9 NQ Kp Ak rfl) ?_;refine cl (Ez _ hF fun x1 _ hF => ?_);refine NT ?_;exact rt
theorem D1 {β : Type} {f : (List By8) -> Option β} {G : β -> Prop} {R : D -> Heap -> Prop} {p0 : List By8} (h : Heap) (hF : OptP ((BM p0).bind f) G) (hk : ∀ r, BM p0 = some r -> OptP (f r) G -> R (.str r) h) : CallsA prog 60 [.str p0] h R := by
 obtain ⟨r0, hr, hF⟩ := AM hF;refine (Hg (G := fun r => r = r0) p0 h ⟨r0, hr, rfl⟩).mono ?_;rintro _ _ ⟨r, rfl, rfl, rfl⟩;exact hk _ hr hF
theorem H7 : ∀ (N : Nat) (v : (List (List By8)) × Ab × Bool) (G : (List By8) -> Prop) (h : Heap), OptP (iter Bi N v) G -> CallsA prog 24 [.sl 1 (List.map Am v.1) 0, .agg (Ac v.2.1), .bool v.2.2] h fun d h' => ∃ r, G r /\ d = .str r /\ h' = h := by
 intro N
 induction N with
 | zero => intro v G h hF; exact IH hF
 | succ N ih0 =>
 rintro ⟨p0, p1, p2⟩ G h hF;show CallsA prog 24 [.sl 1 (List.map Am p0) 0, .agg (Ac p1), .bool p2] h fun d h' => ∃ r, G r /\ d = .str r /\ h' = h;replace hF : OptP (Bi (iter Bi N) (p0, p1, p2)) G := hF;refine CallsA.ret ?_;refine AS func24 rfl ZH ntmps24 rfl (fun ok => ?_);rw [Bi] at hF;refine BL ?_;refine B1 (v := .agg (Ac p1)) (cs := Ac p1) rfl rfl rfl rfl ?_;refine S_a (v := .str []) rfl ?_;refine C1 ?_;refine OE ?_;refine Ax rfl Bd AQ (by rw [Aa]; rfl) ?_;refine Ap rfl (Az CL AQ (congrArg (List.drop 0) (Aa p1))) ?_;refine VD ?_;refine Bb rfl hF (fun hb1 hF => ?_) fun hb1 hF => ?_
 ·refine BL ?_;refine Ax rfl A1 Ak (by rw [Aa]; rfl) ?_;refine Ap rfl (Az AP Ak (congrArg (List.drop 5) (Aa p1))) ?_;refine cl (Hi _ hF fun x2 _ hF => ?_);refine NT ?_;exact rt
 ·refine PC ?_;refine Bb rfl hF (fun hb3 hF => ?_) fun hb3 hF => ?_
  ·refine BL ?_;refine Ax rfl A1 Ak (by rw [Aa]; rfl) ?_;refine Ap rfl (Az AP Ak (congrArg (List.drop 5) (Aa p1))) ?_;refine DT rfl rfl hF (fun hF => ?_);refine DT rfl rfl hF (fun hF => ?_);refine NT ?_;exact rt
  ·refine PC ?_;refine Bb rfl hF (fun hb4 hF => ?_) fun hb4 hF => ?_
   ·refine OE ?_;refine Ax rfl A1 Ak (by rw [Aa]; rfl) ?_;refine Ap rfl (Az AP Ak (congrArg (List.drop 5) (Aa p1))) ?_;refine K5 ?_;refine C1 ?_;refine Bb rfl hF (fun hb5 hF => ?_) fun hb5 hF => ?_
    ·refine BL ?_;refine Ax rfl BJ AV (by rw [Aa]; rfl) ?_;refine Ax rfl EL Ak (by rw [Aa]; rfl) ?_;refine Ap rfl (Az AP Ak (congrArg (List.drop 1) (congrArg (List.drop 1) (Aa p1)))) ?_;refine DT rfl rfl hF (fun hF => ?_);refine DT rfl rfl hF (fun hF => ?_);refine NT ?_;exact rt
    ·refine Eh ?_;refine BL ?_;refine Ax rfl BJ AV (by rw [Aa]; rfl) ?_;refine Ax rfl EL Ak (by rw [Aa]; rfl) ?_;refine Ap rfl (Az AP Ak (congrArg (List.drop 1) (congrArg (List.drop 1) (Aa p1)))) ?_;refine DT rfl rfl hF (fun hF => ?_);refine DT rfl rfl hF (fun hF => ?_);refine Ax rfl A1 Ak (by rw [Aa]; rfl) ?_;refine Ap rfl (Az AP Ak (congrArg (List.drop 5) (Aa p1))) ?_;refine DT rfl rfl hF (fun hF => ?_);refine DT rfl rfl hF (fun hF => ?_);refine NT ?_;exact rt
   ·refine Eh ?_;refine Jm ?_;refine Ax rfl BJ AV (by rw [Aa]; rfl) ?_;refine Ap rfl (A3 (vs := An p1.Name) De AV (by rw [Aa]; rfl) (by rw [Aa]; rfl)) ?_;refine cl (DK _ hF fun x6 _ hF => ?_);refine JN ?_;refine I0 ?_;refine DT rfl rfl hF (fun hF => ?_);refine JN ?_;refine AF hF (fun (a14 : (List By8)) s' => Zs h [] 114 [(0, .sl 1 (List.map Am p0) 0), (4, .iptr (Ac p1)), (7, .str x6), (8, .str a14)] s') (fun J15 hF => ?_) ?_
    ·refine BL ?_;refine TP ?_;refine Bb rfl hF (fun hb16 hF => ?_) fun hb16 hF => ?_
     ·refine Jm ?_;refine VH ?_;refine Bk (σ := (List By8) × Int) hF (fun (v : (List By8) × Int) s' => match v with | (a17, a18) => Zs h [] 114 [(0, .sl 1 (List.map Am p0) 0), (4, .iptr (Ac p1)), (7, .str x6), (8, .str a17), (54, .sl 1 (List.map Am p0) 0), (55, .int .i64 (p0.length : Int)), (56, .int .i64 a18)] s') ?_ ?_
      ·exact ⟨oy ok, wy ok⟩
      ·rintro G19 hG20 rec21 ⟨a17, a18⟩ s' ih22 hF ⟨ok, hws⟩;refine Aw hws ?_;rw [BN] at hF;refine GG ?_;refine Bb rfl hF (fun hb23 hF => ?_) fun hb23 hF => ?_
       ·refine ZO ?_;refine Fi rfl rfl CB Ak hF (fun x24 _ hF => ?_);refine OI ?_;refine N2 ?_;refine JN ?_;refine MO ?_;refine IZ ?_;refine DT rfl rfl hF (fun hF => ?_);refine Xj ?_;refine cl (EN _ hF fun x25 _ hF => ?_);refine DT rfl rfl hF (fun hF => ?_);refine DT rfl rfl hF (fun hF => ?_);refine IZ ?_;refine cl (D1 _ hF fun x26 _ hF => ?_);refine DT rfl rfl hF (fun hF => ?_);refine DT rfl rfl hF (fun hF => ?_);refine JN ?_;refine Np ?_;refine ih22 ((((((a17 ++ [32, 120, 109, 108, 110, 115, 58, 110]) ++ x25) ++ [61, 34]) ++ x26) ++ [34]), (IntKind.wrap .i64 (a18 + 1))) _ hF ?_;exact ⟨oy ok, wy ok⟩
       ·refine EI ?_;replace hF := hG20 _ (Ar hF);exact ⟨a17, hF, oy ok, wy ok⟩
     ·refine Eh ?_;exact ⟨([60] ++ x6), hF, oy ok, wy ok⟩
    ·rintro a14 s' hF ⟨ok, hws⟩;refine Aw hws ?_;refine AF hF (fun (a36 : (List By8)) s' => Zs h [] 114 [(0, .sl 1 (List.map Am p0) 0), (4, .iptr (Ac p1)), (7, .str x6), (8, .str a36)] s') (fun J37 hF => ?_) ?_
     ·refine BL ?_;refine Ax rfl Bc AD (by rw [Aa]; rfl) ?_;refine Ap rfl (Az Cm AD (congrArg (List.drop 3) (Aa p1))) ?_;refine SC ?_;refine Bk (σ := (List By8) × Int) hF (fun (v : (List By8) × Int) s' => match v with | (a38, a39) => Zs h [] 114 [(0, .sl 1 (List.map Am p0) 0), (4, .iptr (Ac p1)), (7, .str x6), (8, .str a38), (74, .sl 3 (List.map Af p1.Attrs) 0), (75, .int .i64 (p1.Attrs.length : Int)), (76, .int .i64 a39)] s') ?_ ?_
      ·exact ⟨oy ok, wy ok⟩
      ·rintro G40 hG41 rec42 ⟨a38, a39⟩ s' ih43 hF ⟨ok, hws⟩;refine Aw hws ?_;rw [Cg] at hF;refine GG ?_;refine Bb rfl hF (fun hb44 hF => ?_) fun hb44 hF => ?_
       ·refine Lj ?_;refine Ce (mdl [(12, 1)]) ?_;refine Fi rfl rfl DZ BB hF (fun x45 _ hF => ?_);refine Ap rfl (A3 (vs := Af x45) Fg BB rfl rfl) ?_;refine Ds ok rfl Ga ?_;intro i46 hi46 ok;refine HS (j := 0) (cs' := [.str x45.Name.URI, .str x45.Name.Local, .str x45.Value]) ok rfl rfl rfl hi46 rfl BB rfl rfl (fun ok => ?_);refine C1 ?_;refine Ny (mdl []) [0, 1, 2, 3, 4, 8] [5, 6, 7, 9, 10, 11, 12, 13] [9, 5, 6, 7, 10, 11, 12, 13] [_, _, _, _, _, _] [_, _, _, _, _, _, _, _] [_, _, _, _, _, _, _, _] (by kernel_rfl) rfl rfl rfl rfl (by kernel_rfl) ?_;refine IZ ?_;refine DT rfl rfl hF (fun hF => ?_);refine Md ?_;refine UI ?_;refine Ej (j := 0) ok rfl rfl rfl hi46 (A3 (vs := An x45.Name) De AV rfl rfl) ?_;refine Zj ?_;refine C1 ?_;refine ⟨?_, ?_⟩
        ·refine cl (DK _ hF fun x47 _ hF => ?_);refine DT rfl rfl hF (fun hF => ?_);refine DT rfl rfl hF (fun hF => ?_);refine RF ?_;refine cl (D1 _ hF fun x48 _ hF => ?_);refine DT rfl rfl hF (fun hF => ?_);refine DT rfl rfl hF (fun hF => ?_);refine JN ?_;refine Np ?_;refine ih43 ((((((a38 ++ [32]) ++ x47) ++ [61, 34]) ++ x48) ++ [34]), (IntKind.wrap .i64 (a39 + 1))) _ hF ?_;exact ⟨oy ok, wy ok⟩
        ·refine RF ?_;refine cl (DK _ hF fun x49 _ hF => ?_);refine DT rfl rfl hF (fun hF => ?_);refine DT rfl rfl hF (fun hF => ?_);refine cl (D1 _ hF fun x50 _ hF => ?_);refine DT rfl rfl hF (fun hF => ?_);refine DT rfl rfl hF (fun hF => ?_);refine JN ?_;refine Np ?_;refine ih43 ((((((a38 ++ [32]) ++ x49) ++ [61, 34]) ++ x50) ++ [34]), (IntKind.wrap .i64 (a39 + 1))) _ hF ?_;exact ⟨oy ok, wy ok⟩
       ·refine EI ?_;replace hF := hG41 _ (Ar hF);exact ⟨a38, hF, oy ok, wy ok⟩
     ·rintro a36 s' hF ⟨ok, hws⟩;refine Aw hws ?_;refine I0 ?_;refine DT rfl rfl hF (fun hF => ?_);refine JN ?_;refine AF hF (fun (a57 : (List By8)) s' => Zs h [] 114 [(7, .str x6), (8, .str a57)] s') (fun J58 hF => ?_) ?_
      ·refine BL ?_;refine Ax rfl AZ Au (by rw [Aa]; rfl) ?_;refine Ap rfl (Az BF Au (congrArg (List.drop 4) (Aa p1))) ?_;refine MK ?_;refine Bk (σ := (List By8) × Int) hF (fun (v : (List By8) × Int) s' => match v with | (a59, a60) => Zs h [] 114 [(0, .sl 1 (List.map Am p0) 0), (7, .str x6), (8, .str a59), (97, .sl 6 (List.map Ac p1.Kids) 0), (98, .int .i64 (p1.Kids.length : Int)), (99, .int .i64 a60)] s') ?_ ?_
       ·exact ⟨oy ok, wy ok⟩
       ·rintro G61 hG62 rec63 ⟨a59, a60⟩ s' ih64 hF ⟨ok, hws⟩;refine Aw hws ?_;rw [Ch] at hF;refine GG ?_;refine Bb rfl hF (fun hb65 hF => ?_) fun hb65 hF => ?_
        ·refine Lj ?_;refine Ce (mdl [(14, 1)]) ?_;refine Fi rfl rfl Ck Aj hF (fun x66 _ hF => ?_);refine Ap rfl (A3 (vs := Ac x66) At Aj (by rw [Aa]; rfl) (by rw [Aa]; rfl)) ?_;refine Ds ok rfl BP ?_;intro i67 hi67 ok;refine HS (j := 0) (cs' := [.int .i64 x66.Kind, .str x66.Name.URI, .str x66.Name.Local, .sl 3 (List.map Af x66.Attrs) 0, .sl 6 (List.map Ac x66.Kids) 0, .str x66.Text]) ok rfl (congrArg D.agg (Aa x66)) rfl hi67 rfl Aj rfl rfl (fun ok => ?_);refine C1 ?_;refine MO ?_;refine IZ ?_;refine Md ?_;refine Ej (j := 0) ok rfl rfl rfl hi67 (A3 (vs := Ac x66) At Aj rfl (Aa x66).symm) ?_;refine cl (CM (enc := fun r => .str r) (fun G h hF => ih0 (p0, x66, false) G h hF) _ hF fun x68 _ hF => ?_);refine DT rfl rfl hF (fun hF => ?_);refine JN ?_;refine Np ?_;refine ih64 ((a59 ++ x68), (IntKind.wrap .i64 (a60 + 1))) _ hF ?_;exact ⟨oy ok, wy ok⟩
        ·refine EI ?_;replace hF := hG62 _ (Ar hF);exact ⟨a59, hF, oy ok, wy ok⟩
      ·rintro a57 s' hF ⟨ok, hws⟩;refine Aw hws ?_;refine I0 ?_;refine DT rfl rfl hF (fun hF => ?_);refine IZ ?_;refine DT rfl rfl hF (fun hF => ?_);refine DT rfl rfl hF (fun hF => ?_);refine NT ?_;exact rt
theorem HX (p0 : List (List By8)) (p1 : Ab) (p2 : Bool) {G : (List By8) -> Prop} (h : Heap) (hF : OptP (Dx p0 p1 p2) G) : CallsA prog 24 [.sl 1 (List.map Am p0) 0, .agg (Ac p1), .bool p2] h fun d h' => ∃ r, G r /\ d = .str r /\ h' = h := H7 FUEL (p0, p1, p2) G h hF
theorem Hk {β : Type} {f : (List By8) -> Option β} {G : β -> Prop} {R : D -> Heap -> Prop} {p0 : List (List By8)} {p1 : Ab} {p2 : Bool} (h : Heap) (hF : OptP ((Dx p0 p1 p2).bind f) G) (hk : ∀ r, Dx p0 p1 p2 = some r -> OptP (f r) G -> R (.str r) h) : CallsA prog 24 [.sl 1 (List.map Am p0) 0, .agg (Ac p1), .bool p2] h R := by
 obtain ⟨r0, hr, hF⟩ := AM hF;refine (HX (G := fun r => r = r0) p0 p1 p2 h ⟨r0, hr, rfl⟩).mono ?_;rintro _ _ ⟨r, rfl, rfl, rfl⟩;exact hk _ hr hF
theorem Hn (p0 : Ab) {G : (List By8) × Int -> Prop} (h : Heap) (hF : OptP (B7 p0) G) : CallsA prog 11 [.agg (Ac p0)] h fun d h' => ∃ r, G r /\ d = .tup [.sl 1 (List.map EO r.1) 0, .int .i64 r.2] /\ h' = h := by
 refine CallsA.ret ?_;refine AS func11 rfl Acb ntmps11 rfl (fun ok => ?_);rw [B7] at hF;refine BL ?_;refine B1 (v := .agg (Ac p0)) (cs := Ac p0) rfl rfl rfl rfl ?_;refine S_a (v := .snil) rfl ?_;refine Gi 2 (v := .sl 1 (List.map EO []) 0) (.nil _) ?_;refine IA ?_;refine BL ?_;refine Ap rfl (A3 (vs := Ac p0) At Aj (by rw [Aa]; rfl) (by rw [Aa]; rfl)) ?_;refine cl (GM _ hF fun x1 _ hF => ?_);refine IA ?_;refine JF ?_;refine VV ?_;refine Bb rfl hF (fun hb2 hF => ?_) fun hb2 hF => ?_
 ·refine GI ?_;refine S_a (v := .snil) rfl ?_;refine Gi 2 (v := .sl 1 (List.map EO []) 0) (.nil _) ?_;refine Qu ?_;exact rt
 ·refine Eh ?_;refine BL ?_;refine S_a (v := .str []) rfl ?_;refine Ji ?_;refine Ap rfl (A3 (vs := Ac p0) At Aj (by rw [Aa]; rfl) (by rw [Aa]; rfl)) ?_;refine cl (Ew _ hF fun x3 _ hF => ?_);refine MN ?_;refine AF hF (fun (a10 : (List By8)) s' => Zs h [] 35 [(5, .str a10)] s') (fun J11 hF => ?_) ?_
  ·refine BL ?_;refine Ax rfl AZ Au (by rw [Aa]; rfl) ?_;refine Ap rfl (Az BF Au (congrArg (List.drop 4) (Aa p0))) ?_;refine MK ?_;refine Bk (σ := (List By8) × Int) hF (fun (v : (List By8) × Int) s' => match v with | (a12, a13) => Zs h [] 35 [(5, .str a12), (6, .sl 1 (List.map Am x3) 0), (17, .sl 6 (List.map Ac p0.Kids) 0), (18, .int .i64 (p0.Kids.length : Int)), (19, .int .i64 a13)] s') ?_ ?_
   ·exact ⟨oy ok, wy ok⟩
   ·rintro G14 hG15 rec16 ⟨a12, a13⟩ s' ih17 hF ⟨ok, hws⟩;refine Aw hws ?_;rw [B4] at hF;refine GG ?_;refine Bb rfl hF (fun hb18 hF => ?_) fun hb18 hF => ?_
    ·refine Lj ?_;refine Ce (mdl [(8, 1)]) ?_;refine Fi rfl rfl Ck Aj hF (fun x19 _ hF => ?_);refine Ap rfl (A3 (vs := Ac x19) At Aj (by rw [Aa]; rfl) (by rw [Aa]; rfl)) ?_;refine Ds ok rfl BP ?_;intro i20 hi20 ok;refine HS (j := 0) (cs' := [.int .i64 x19.Kind, .str x19.Name.URI, .str x19.Name.Local, .sl 3 (List.map Af x19.Attrs) 0, .sl 6 (List.map Ac x19.Kids) 0, .str x19.Text]) ok rfl (congrArg D.agg (Aa x19)) rfl hi20 rfl Aj rfl rfl (fun ok => ?_);refine C1 ?_;refine MO ?_;refine IZ ?_;refine Md ?_;refine Ej (j := 0) ok rfl rfl rfl hi20 (A3 (vs := Ac x19) At Aj rfl (Aa x19).symm) ?_;refine cl (Hk _ hF fun x21 _ hF => ?_);refine DT rfl rfl hF (fun hF => ?_);refine DT rfl rfl hF (fun hF => ?_);refine JN ?_;refine Np ?_;refine ih17 (((a12 ++ x21) ++ [10]), (IntKind.wrap .i64 (a13 + 1))) _ hF ?_;exact ⟨oy ok, wy ok⟩
    ·refine EI ?_;replace hF := hG15 _ (Ar hF);exact ⟨a12, hF, oy ok, wy ok⟩
  ·rintro a10 s' hF ⟨ok, hws⟩;refine Aw hws ?_;refine IR ?_;refine I0 ?_;refine R1 ?_;refine YL ?_;refine Bb rfl hF (fun hb22 hF => ?_) fun hb22 hF => ?_
   ·refine BL ?_;refine S_a (v := .snil) rfl ?_;refine Gi 2 (v := .sl 1 (List.map EO []) 0) (.nil _) ?_;refine Qu ?_;exact rt
   ·refine Eh ?_;refine I0 ?_;refine Zm ?_;refine YP ?_;refine Qu ?_;exact rt
theorem GP {β : Type} {f : (List By8) × Int -> Option β} {G : β -> Prop} {R : D -> Heap -> Prop} {p0 : Ab} (h : Heap) (hF : OptP ((B7 p0).bind f) G) (hk : ∀ r, B7 p0 = some r -> OptP (f r) G -> R (.tup [.sl 1 (List.map EO r.1) 0, .int .i64 r.2]) h) : CallsA prog 11 [.agg (Ac p0)] h R := by
 obtain ⟨r0, hr, hF⟩ := AM hF;refine (Hn (G := fun r => r = r0) p0 h ⟨r0, hr, rfl⟩).mono ?_;rintro _ _ ⟨r, rfl, rfl, rfl⟩;exact hk _ hr hF
theorem Fl (p0 : List By8) (p1 : List By8) (b0 : Nat) {G : Bool -> Prop} (h : Heap) (O : List (Nat × AObj)) (zb0 : b0 = 0 -> p0 = []) (ok : OK h (moY b0 EO p0 :: O)) (hF : OptP (CZ p0 p1) G) : CallsA prog 14 [EC 1 b0 p0, .sl 1 (List.map EO p1) 0] (Hp h (moY b0 EO p0 :: O)) fun d h' => ∃ r, G r /\ d = .bool r /\ OK h (moY b0 EO p0 :: O) /\ h' = Hp h (moY b0 EO p0 :: O) := by
 refine CallsA.ret ?_;refine FL func14 rfl Aa6 ntmps14 rfl ?_;rw [CZ] at hF;refine NB ?_;refine UZ ?_;refine Abp (j := 0) ok zb0 rfl rfl Ff KX Bs (RQ Bs) ?_;refine Md ?_;refine Z8 ?_;refine K5 ?_;refine E7 ?_;refine rr ?_;exact ⟨_, _, (.refl _), hy ok, _, Ar hF, rfl, oy ok, rfl⟩
theorem FZ (p0 : List Ae) (p1 : List Ae) {G : Bool -> Prop} (h : Heap) (hF : OptP (Br p0 p1) G) : CallsA prog 29 [.sl 3 (List.map Af p0) 0, .sl 3 (List.map Af p1) 0] h fun d h' => ∃ r, G r /\ d = .bool r /\ h' = h := by
 refine CallsA.ret ?_;refine AS func29 rfl Aay ntmps29 rfl (fun ok => ?_);rw [Br] at hF;refine NB ?_;refine IR ?_;refine Jm ?_;refine SL ?_;refine Md ?_;refine SL ?_;refine VV ?_;refine Bb rfl hF (fun hb1 hF => ?_) fun hb1 hF => ?_
 ·refine G5 ?_;exact rt
 ·refine Eh ?_;refine AF hF (fun (_ : Unit) s' => Zs h [] 26 [] s') (fun J7 hF => ?_) ?_
  ·refine Jm ?_;refine SC ?_;refine Bk (σ := Int) hF (fun (a8 : Int) s' => Zs h [] 26 [(0, .sl 3 (List.map Af p0) 0), (1, .sl 3 (List.map Af p1) 0), (12, .int .i64 (p0.length : Int)), (13, .int .i64 a8)] s') ?_ ?_
   ·exact ⟨oy ok, wy ok⟩
   ·rintro G9 hG10 rec11 a8 s' ih12 hF ⟨ok, hws⟩;refine Aw hws ?_;rw [B0] at hF;refine GG ?_;refine Bb rfl hF (fun hb13 hF => ?_) fun hb13 hF => ?_
    ·refine Tm ?_;refine IR ?_;refine MT (mdl [(19, 3), (23, 3)]) (by kernel_rfl) (by kernel_rfl) ?_;refine Ue ?_;refine Fi rfl rfl DZ BB hF (fun x14 _ hF => ?_);refine Ap rfl (A3 (vs := Af x14) Fg BB rfl rfl) ?_;refine Ue ?_;refine Fi rfl rfl DZ BB hF (fun x15 _ hF => ?_);refine Ap rfl (A3 (vs := Af x15) Fg BB rfl rfl) ?_;refine Eg rfl rfl (Pc (b := (((x14.Name.URI == x15.Name.URI) && ((x14.Name.Local == x15.Name.Local) && true)) && ((x14.Value == x15.Value) && true))) O2 OX (by simp only [Af, Fb, FD, JD, OX, O2, De, AV, EZ, AP, Ak, Bs, AP, Ak, Bs, AP, Ak, Bs, Gx, Gr, FG, Gv, FF, FE, Fd, List.drop_zero, List.drop_succ_cons, bi, bj, List.take_succ_cons, List.take_zero, Option.isSome_some, if_true, ba, Option.map_some, Nat.reduceAdd, Nat.reduceLeDiff])) ?_;refine C1 ?_;refine Bb rfl hF (fun hb16 hF => ?_) fun hb16 hF => ?_
     ·refine G5 ?_;replace hF := hG10 _ (Ar hF);exact rt
     ·refine NE ?_;refine ih12 (IntKind.wrap .i64 (a8 + 1)) _ hF ?_;exact ⟨oy ok, wy ok⟩
    ·refine EI ?_;replace hF := hG10 _ (Ar hF);exact ⟨(), hF, oy ok, wy ok⟩
  ·rintro ⟨⟩ s' hF ⟨ok, hws⟩;refine Aw hws ?_;refine G5 ?_;exact rt
theorem FS {β : Type} {f : Bool -> Option β} {G : β -> Prop} {R : D -> Heap -> Prop} {p0 : List Ae} {p1 : List Ae} (h : Heap) (hF : OptP ((Br p0 p1).bind f) G) (hk : ∀ r, Br p0 p1 = some r -> OptP (f r) G -> R (.bool r) h) : CallsA prog 29 [.sl 3 (List.map Af p0) 0, .sl 3 (List.map Af p1) 0] h R := by
 obtain ⟨r0, hr, hF⟩ := AM hF;refine (FZ (G := fun r => r = r0) p0 p1 h ⟨r0, hr, rfl⟩).mono ?_;rintro _ _ ⟨r, rfl, rfl, rfl⟩;exact hk _ hr hF
theorem HY : ∀ (N : Nat) (v : Ab × Ab) (G : Bool -> Prop) (h : Heap), OptP (iter A5 N v) G -> CallsA prog 15 [.agg (Ac v.1), .agg (Ac v.2)] h fun d h' => ∃ r, G r /\ d = .bool r /\ h' = h := by
 intro N
 induction N with
 | zero => intro v G h hF; exact IH hF
 | succ N ih0 =>
 rintro ⟨p0, p1⟩ G h hF;show CallsA prog 15 [.agg (Ac p0), .agg (Ac p1)] h fun d h' => ∃ r, G r /\ d = .bool r /\ h' = h;replace hF : OptP (A5 (iter A5 N) (p0, p1)) G := hF;refine CallsA.ret ?_;refine AS func15 rfl Aca ntmps15 rfl (fun ok => ?_);rw [A5] at hF;refine BL ?_;refine B1 (v := .agg (Ac p0)) (cs := Ac p0) rfl rfl rfl rfl ?_;refine B1 (v := .agg (Ac p1)) (cs := Ac p1) rfl rfl rfl rfl ?_;refine Fs ?_;refine OE ?_;refine Ax rfl Bd AQ (by rw [Aa]; rfl) ?_;refine Ap rfl (Az CL AQ (congrArg (List.drop 0) (Aa p0))) ?_;refine Ax rfl Bd AQ (by rw [Aa]; rfl) ?_;refine Ap rfl (Az CL AQ (congrArg (List.drop 0) (Aa p1))) ?_;refine Vq ?_;refine Ba (b := (p0.Kind != p1.Kind)) 6 17 (.bool ((p0.Kind != p1.Kind) || (!((p0.Name.URI == p1.Name.URI) && ((p0.Name.Local == p1.Name.Local) && true))))) (fun hb1 => ?_) (fun hb1 => ?_) ?_
 ·refine LK ?_;refine LV ?_;exact th
 ·refine EH ?_;refine Ax rfl BJ AV (by rw [Aa]; rfl) ?_;refine BQ ?_;refine Ap rfl (A3 (vs := An p0.Name) De AV (by rw [Aa]; rfl) (by rw [Aa]; rfl)) ?_;refine BQ ?_;refine Ax rfl BJ AV (by rw [Aa]; rfl) ?_;refine BQ ?_;refine Ap rfl (A3 (vs := An p1.Name) De AV (by rw [Aa]; rfl) (by rw [Aa]; rfl)) ?_;refine BQ ?_;refine Eg rfl rfl (Pc (b := ((p0.Name.URI == p1.Name.URI) && ((p0.Name.Local == p1.Name.Local) && true))) Fj EZ (by simp only [An, Fb, FD, JD, EZ, Fj, AP, Ak, Bs, AP, Ak, Bs, Gx, Gr, FG, Gv, FF, FE, Fd, List.drop_zero, List.drop_succ_cons, bi, bj, List.take_succ_cons, List.take_zero, Option.isSome_some, if_true, ba, Option.map_some, Nat.reduceAdd, Nat.reduceLeDiff])) ?_;refine IW ?_;exact th
 refine D3 ?_;refine Ba (b := ((p0.Kind != p1.Kind) || (!((p0.Name.URI == p1.Name.URI) && ((p0.Name.Local == p1.Name.Local) && true))))) 6 24 (.bool (((p0.Kind != p1.Kind) || (!((p0.Name.URI == p1.Name.URI) && ((p0.Name.Local == p1.Name.Local) && true)))) || (!(p0.Text == p1.Text)))) (fun hb2 => ?_) (fun hb2 => ?_) ?_
 ·refine LK ?_;refine LV ?_;exact th
 ·refine EH ?_;refine Ax rfl A1 Ak (by rw [Aa]; rfl) ?_;refine BQ ?_;refine Ap rfl (Az AP Ak (congrArg (List.drop 5) (Aa p0))) ?_;refine BQ ?_;refine Ax rfl A1 Ak (by rw [Aa]; rfl) ?_;refine BQ ?_;refine Ap rfl (Az AP Ak (congrArg (List.drop 5) (Aa p1))) ?_;refine BQ ?_;refine QS ?_;refine IW ?_;exact th
 refine D3 ?_;refine Bl 7 32 hF (fun J4 hb3 hF => ?_) (fun J4 hb3 hF => ?_) (fun v5 hF => ?_)
 ·refine Lp ?_;refine K8 ?_;exact tw
 ·refine EH ?_;refine Ax rfl Bc AD (by rw [Aa]; rfl) ?_;refine BQ ?_;refine Ap rfl (Az Cm AD (congrArg (List.drop 3) (Aa p0))) ?_;refine BQ ?_;refine Ax rfl Bc AD (by rw [Aa]; rfl) ?_;refine BQ ?_;refine Ap rfl (Az Cm AD (congrArg (List.drop 3) (Aa p1))) ?_;refine BQ ?_;refine cl (FS _ hF fun x6 _ hF => ?_);refine Xa ?_;exact tw
 ·refine D3 ?_;refine Ba (b := v5) 8 41 (.bool (v5 || ((p0.Kids.length : Int) != (p1.Kids.length : Int)))) (fun hb7 => ?_) (fun hb7 => ?_) ?_
  ·refine Lp ?_;refine LV ?_;exact th
  ·refine EH ?_;refine Ax rfl AZ Au (by rw [Aa]; rfl) ?_;refine BQ ?_;refine Ap rfl (Az BF Au (congrArg (List.drop 4) (Aa p0))) ?_;refine BQ ?_;refine Ub ?_;refine BQ ?_;refine Ax rfl AZ Au (by rw [Aa]; rfl) ?_;refine BQ ?_;refine Ap rfl (Az BF Au (congrArg (List.drop 4) (Aa p1))) ?_;refine BQ ?_;refine Ub ?_;refine Xc ?_;refine IW ?_;exact th
  refine C1 ?_;refine Bb rfl hF (fun hb8 hF => ?_) fun hb8 hF => ?_
  ·refine G5 ?_;exact rt
  ·refine Eh ?_;refine AF hF (fun (_ : Unit) s' => Zs h [] 61 [] s') (fun J15 hF => ?_) ?_
   ·refine BL ?_;refine Ax rfl AZ Au (by rw [Aa]; rfl) ?_;refine Ap rfl (Az BF Au (congrArg (List.drop 4) (Aa p0))) ?_;refine MK ?_;refine Bk (σ := Int) hF (fun (a16 : Int) s' => Zs h [] 61 [(2, .iptr (Ac p0)), (3, .iptr (Ac p1)), (44, .int .i64 (p0.Kids.length : Int)), (45, .int .i64 a16)] s') ?_ ?_
    ·exact ⟨oy ok, wy ok⟩
    ·rintro G17 hG18 rec19 a16 s' ih20 hF ⟨ok, hws⟩;refine Aw hws ?_;rw [CW] at hF;refine GG ?_;refine Bb rfl hF (fun hb21 hF => ?_) fun hb21 hF => ?_
     ·refine Tm ?_;refine IR ?_;refine MT (mdl [(49, 3), (52, 3), (54, 3), (57, 3)]) (by kernel_rfl) (by kernel_rfl) ?_;refine Ax rfl AZ Au (by rw [Aa]; rfl) ?_;refine Ap rfl (Az BF Au (congrArg (List.drop 4) (Aa p0))) ?_;refine H8 ?_;refine Fi rfl rfl Ck Aj hF (fun x22 _ hF => ?_);refine Ap rfl (A3 (vs := Ac x22) At Aj (by rw [Aa]; rfl) (by rw [Aa]; rfl)) ?_;refine Ax rfl AZ Au (by rw [Aa]; rfl) ?_;refine Ap rfl (Az BF Au (congrArg (List.drop 4) (Aa p1))) ?_;refine H8 ?_;refine Fi rfl rfl Ck Aj hF (fun x23 _ hF => ?_);refine Ap rfl (A3 (vs := Ac x23) At Aj (by rw [Aa]; rfl) (by rw [Aa]; rfl)) ?_;refine cl (CM (enc := fun r => .bool r) (fun G h hF => ih0 (x22, x23) G h hF) _ hF fun x24 _ hF => ?_);refine VJ ?_;refine Bb rfl hF (fun hb25 hF => ?_) fun hb25 hF => ?_
      ·refine G5 ?_;replace hF := hG18 _ (Ar hF);exact rt
      ·refine NE ?_;refine ih20 (IntKind.wrap .i64 (a16 + 1)) _ hF ?_;exact ⟨oy ok, wy ok⟩
     ·refine EI ?_;replace hF := hG18 _ (Ar hF);exact ⟨(), hF, oy ok, wy ok⟩
   ·rintro ⟨⟩ s' hF ⟨ok, hws⟩;refine Aw hws ?_;refine G5 ?_;exact rt
theorem Ic (p0 : Ab) (p1 : Ab) {G : Bool -> Prop} (h : Heap) (hF : OptP (Du p0 p1) G) : CallsA prog 15 [.agg (Ac p0), .agg (Ac p1)] h fun d h' => ∃ r, G r /\ d = .bool r /\ h' = h := HY FUEL (p0, p1) G h hF
theorem Hs {β : Type} {f : Bool -> Option β} {G : β -> Prop} {R : D -> Heap -> Prop} {p0 : Ab} {p1 : Ab} (h : Heap) (hF : OptP ((Du p0 p1).bind f) G) (hk : ∀ r, Du p0 p1 = some r -> OptP (f r) G -> R (.bool r) h) : CallsA prog 15 [.agg (Ac p0), .agg (Ac p1)] h R := by
 obtain ⟨r0, hr, hF⟩ := AM hF;refine (Ic (G := fun r => r = r0) p0 p1 h ⟨r0, hr, rfl⟩).mono ?_;rintro _ _ ⟨r, rfl, rfl, rfl⟩;exact hk _ hr hF
theorem Fz (p0 : Ab) {G : Bool -> Prop} (h : Heap) (hF : OptP (CN p0) G) : CallsA prog 3 [.agg (Ac p0)] h fun d h' => ∃ r, G r /\ d = .bool r := by
 refine CallsA.ret ?_;refine AS func3 rfl Aer ntmps3 rfl (fun ok => ?_);rw [CN] at hF;refine BL ?_;refine B1 (v := .agg (Ac p0)) (cs := Ac p0) rfl rfl rfl rfl ?_;refine Fs ?_;refine OE ?_;refine cl (CM (fun _ h hF => Hj h hF) _ hF fun x1 _ hF => ?_);refine VJ ?_;refine Bb rfl hF (fun hb2 hF => ?_) fun hb2 hF => ?_
 ·refine G5 ?_;exact rt
 ·refine U6 ?_;refine Ce (mdl [(3, 1)]) ?_;refine Ap rfl (A3 (vs := Ac p0) At Aj (by rw [Aa]; rfl) (by rw [Aa]; rfl)) ?_;refine cl (Hd _ hF fun x3 _ hF => ?_);refine Ds ok rfl BP ?_;intro i4 hi4 ok;refine HS (j := 0) (cs' := [.int .i64 x3.Kind, .str x3.Name.URI, .str x3.Name.Local, .sl 3 (List.map Af x3.Attrs) 0, .sl 6 (List.map Ac x3.Kids) 0, .str x3.Text]) ok rfl (congrArg D.agg (Aa x3)) rfl hi4 rfl Aj rfl rfl (fun ok => ?_);refine Ji ?_;refine Ap rfl (A3 (vs := Ac p0) At Aj (by rw [Aa]; rfl) (by rw [Aa]; rfl)) ?_;refine cl (Ft (p0 := p0) h [(i4, .cells [.int .i64 x3.Kind, .str x3.Name.URI, .str x3.Name.Local, .sl 3 (List.map Af x3.Attrs) 0, .sl 6 (List.map Ac x3.Kids) 0, .str x3.Text])] ok hF fun x5 u6 _ zu6 ok hF => ?_);refine Vi ?_;refine Qw ?_;refine IA ?_;refine BL ?_;refine Ap rfl (A3 (vs := Ac p0) At Aj (by rw [Aa]; rfl) (by rw [Aa]; rfl)) ?_;refine cl (GP _ hF fun x7 _ hF => ?_);refine Vi ?_;refine YP ?_;refine IA ?_;refine IR ?_;refine MW (mdl [(26, 3), (28, 3)]) [0, 2, 1, 3, 4, 5] [_, _, _, _, _, _] (by kernel_rfl) rfl rfl (by kernel_rfl) ?_;refine Ap rfl (A3 (vs := Ac p0) At Aj (by rw [Aa]; rfl) (by rw [Aa]; rfl)) ?_;refine Ap rfl (A3 (vs := Ac p0) At Aj (by rw [Aa]; rfl) (by rw [Aa]; rfl)) ?_;refine cl (CM (fun _ h hF => F7 _ h hF) _ hF fun x8 _ hF => ?_);refine cl (Ew _ hF fun x9 _ hF => ?_);refine YP ?_;refine MN ?_;refine SG ?_;refine Vq ?_;refine Bl 5 38 hF (fun J11 hb10 hF => ?_) (fun J11 hb10 hF => ?_) (fun v12 hF => ?_)
  ·refine PV ?_;exact tw
  ·refine EH ?_;refine PH ?_;refine BQ ?_;refine Xe ?_;refine cl (okT (fun _ hF => Fl _ (p0 := x5.1) (b0 := u6) h [(i4, .cells [.int .i64 x3.Kind, .str x3.Name.URI, .str x3.Name.Local, .sl 3 (List.map Af x3.Attrs) 0, .sl 6 (List.map Ac x3.Kids) 0, .str x3.Text])] zu6 ok hF) hF fun x13 _ _ _ hq hF => ?_);obtain ⟨rfl, ok, rfl⟩ := hq;refine Xa ?_;exact tw
  ·refine D3 ?_;refine Ba (b := v12) 6 45 (.bool (v12 || ((x8.length : Int) != (x9.length : Int)))) (fun hb14 => ?_) (fun hb14 => ?_) ?_
   ·refine LK ?_;refine LV ?_;exact th
   ·refine S8 ?_;refine Xp ?_;refine BQ ?_;refine Xe ?_;refine Xp ?_;refine Xc ?_;refine IW ?_;exact th
   refine D3 ?_;refine Bl 5 51 hF (fun J16 hb15 hF => ?_) (fun J16 hb15 hF => ?_) (fun v17 hF => ?_)
   ·refine PV ?_;exact tw
   ·refine EH ?_;refine Ap rfl (A3 (vs := Ac p0) At Aj (by rw [Aa]; rfl) (by rw [Aa]; rfl)) ?_;refine BQ ?_;refine Ej (j := 1) ok rfl rfl rfl hi4 (A3 (vs := Ac x3) At Aj rfl (Aa x3).symm) ?_;refine BQ ?_;refine cl (Hs _ hF fun x18 _ hF => ?_);refine Xa ?_;exact tw
   ·refine C1 ?_;refine Bb rfl hF (fun hb19 hF => ?_) fun hb19 hF => ?_
    ·refine G5 ?_;exact rt
    ·refine Eh ?_;refine AF hF (fun (_ : Unit) s' => Zs h [moY u6 EO x5.1] 89 [(1, .iptr (Ac p0)), (4, EC 1 u6 x5.1), (6, .sl 1 (List.map EO x7.1) 0), (7, .int .i64 x7.2)] s') (fun J25 hF => ?_) ?_
     ·refine Jm ?_;refine VH ?_;refine Bk (σ := Int) hF (fun (a26 : Int) s' => Zs h [moY u6 EO x5.1] 89 [(1, .iptr (Ac p0)), (4, EC 1 u6 x5.1), (6, .sl 1 (List.map EO x7.1) 0), (7, .int .i64 x7.2), (8, .sl 1 (List.map Am x8) 0), (9, .sl 1 (List.map Am x9) 0), (53, .int .i64 (x8.length : Int)), (54, .int .i64 a26)] s') ?_ ?_
      ·exact ⟨oy ok, wy ok⟩
      ·rintro G27 hG28 rec29 a26 s' ih30 hF ⟨ok, hws⟩;refine Aw hws ?_;rw [Be] at hF;refine GG ?_;refine Bb rfl hF (fun hb31 hF => ?_) fun hb31 hF => ?_
       ·refine Tm ?_;refine IR ?_;refine MT (mdl [(60, 3), (64, 3)]) (by kernel_rfl) (by kernel_rfl) ?_;refine Ue ?_;refine Fi rfl rfl CB Ak hF (fun x32 _ hF => ?_);refine OI ?_;refine Ue ?_;refine Fi rfl rfl CB Ak hF (fun x33 _ hF => ?_);refine OI ?_;refine YB ?_;refine Bb rfl hF (fun hb34 hF => ?_) fun hb34 hF => ?_
        ·refine G5 ?_;replace hF := hG28 _ (Ar hF);exact rt
        ·refine NE ?_;refine ih30 (IntKind.wrap .i64 (a26 + 1)) _ hF ?_;exact ⟨oy ok, wy ok⟩
       ·refine EI ?_;replace hF := hG28 _ (Ar hF);exact ⟨(), hF, oy ok, wy ok⟩
     ·rintro ⟨⟩ s' hF ⟨ok, hws⟩;refine Aw hws ?_;refine AF hF (fun (_ : Unit) s' => Zs h [] 89 [(1, .iptr (Ac p0)), (6, .sl 1 (List.map EO x7.1) 0), (7, .int .i64 x7.2)] s') (fun J42 hF => ?_) ?_
      ·refine UZ ?_;refine RJ zu6 rfl Ff ?_;refine Wr ?_;refine Bk (σ := (List By8) × Int) hF (fun (v : (List By8) × Int) s' => match v with | (a44, a45) => ∃ g43 : Nat, (g43 = 0 -> a44 = []) /\ Zs h [moY g43 EO a44] 89 [(1, .iptr (Ac p0)), (4, EC 1 g43 a44), (6, .sl 1 (List.map EO x7.1) 0), (7, .int .i64 x7.2), (68, .int .i64 (x5.1.length : Int)), (69, .int .i64 a45)] s') ?_ ?_
       ·exact ⟨u6, zu6, oy ok, wy ok⟩
       ·rintro G46 hG47 rec48 ⟨a44, a45⟩ s' ih49 hF ⟨g43, zg43, ok, hws⟩;refine Aw hws ?_;rw [Bf] at hF;refine GG ?_;refine Bb rfl hF (fun hb50 hF => ?_) fun hb50 hF => ?_
        ·refine Tm ?_;refine MO ?_;refine PH ?_;refine H8 ?_;refine TC zg43 rfl rfl Ff IQ hF (fun x51 hx51 hF => ?_);obtain ⟨b52, hb52, hF⟩ := AM hF;replace hb52 := QZ hb52;refine XC (q := 1) (j := 0) (f0 := 0) (b := b52) ok zg43 rfl rfl rfl (fun _ => rfl) hx51 rfl rfl IQ rfl (by simp only [EO, hb52]; rfl) (fun za53 ok => ?_);obtain ⟨a53, ha53, hF⟩ := M3 hF;rw [<- ha53] at ok za53;rw [<- ha53];have hms : EC 1 g43 a44 = EC 1 g43 a53 := MB (by rw [ha53, List.length_set])
         try rw [hms] at ok
         try rw [hms]
         clear hms;refine PM ?_;refine ih49 (a53, (IntKind.wrap .i64 (a45 + 1))) _ hF ?_;exact ⟨g43, za53, oy ok, wy ok⟩
        ·refine EI ?_;replace hF := hG47 _ (Ar hF);exact ⟨(), hF, oy ok, wy ok⟩
      ·rintro ⟨⟩ s' hF ⟨ok, hws⟩;refine Aw hws ?_;refine BL ?_;refine Ap rfl (A3 (vs := Ac p0) At Aj (by rw [Aa]; rfl) (by rw [Aa]; rfl)) ?_;refine cl (Ft (p0 := p0) h [] ok hF fun x54 u55 _ zu55 ok hF => ?_);refine Vi ?_;refine Qw ?_;refine IA ?_;refine SH ?_;refine UU ?_;refine Bl 4 88 hF (fun J57 hb56 hF => ?_) (fun J57 hb56 hF => ?_) (fun v58 hF => ?_)
       ·refine EH ?_;refine PH ?_;refine BQ ?_;refine Xe ?_;refine cl (okT (fun _ hF => Fl _ (p0 := x54.1) (b0 := u55) h [] zu55 ok hF) hF fun x59 _ _ _ hq hF => ?_);obtain ⟨rfl, ok, rfl⟩ := hq;refine Jw ?_;exact tw
       ·refine Ow ?_;exact tw
       ·refine E7 ?_;exact rt
end Go.Proofs.YtjofelloaofooaaGreatDoor
