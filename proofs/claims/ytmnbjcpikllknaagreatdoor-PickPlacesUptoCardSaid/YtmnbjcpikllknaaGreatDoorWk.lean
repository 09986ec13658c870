/- The walks. No condition. -/
import Derived.Test.YtmnbjcpikllknaaGreatDoorXR
import Derived.Test.YtmnbjcpikllknaaGreatDoorWkA
set_option linter.unusedVariables false
set_option linter.unusedSimpArgs false
set_option maxRecDepth 20000
set_option maxHeartbeats 8000000
namespace Go.Proofs.YtmnbjcpikllknaaGreatDoor
open Go.Proofs.Tryz
theorem Fw {G : Ac -> Prop} (h : Heap) (hF : OptP (DM) G) : CallsA prog 30 [] h fun d h' => ∃ r, G r /\ d = .agg (Ad r) /\ h' = h := by
 refine CallsA.ret ?_;refine AO func30 rfl Ae4 ntmps30 rfl (fun ok => ?_);rw [DM] at hF;refine Ho ?_;refine CB (mdl [(0, 1)]) ?_;refine Ca ok rfl DK ?_;intro i1 hi1 ok;refine IM ?_;refine CB (mdl [(1, 1)]) ?_;refine DD (v := .agg (Ar (⟨[], [98]⟩ : Aa))) (GO C4 ED rfl) ?_;refine DD (v := .agg [.int .i64 2, .str (⟨[], [98]⟩ : Aa).URI, .str (⟨[], [98]⟩ : Aa).Local, .snil, .snil, .str []]) (GO DK OL rfl) ?_;refine Ca ok rfl DK ?_;intro i2 hi2 ok;refine O7 Ad ok (fun ok => ?_);refine Gd (j := 1) (cs' := [.int .i64 2, .str (⟨[], [98]⟩ : Aa).URI, .str (⟨[], [98]⟩ : Aa).Local, .snil, .snil, .str []]) ok rfl rfl rfl hi2 rfl Aw rfl rfl (fun ok => ?_);refine O7 Ad ok (fun ok => ?_);refine IM ?_;refine CB (mdl [(8, 1), (2, 1)]) ?_;refine DD (v := .agg (Ar (⟨[], [97]⟩ : Aa))) (GO C4 ED rfl) ?_;refine Cx (j := 2) ok rfl rfl rfl hi2 (A6 (vs := [.int .i64 2, .str (⟨[], [98]⟩ : Aa).URI, .str (⟨[], [98]⟩ : Aa).Local, .snil, DX 6 0 ([] : List Ac), .str []]) A7 Aw rfl rfl) ?_;refine Eg 6 (v := .agg (Ad (⟨2, (⟨[], [98]⟩ : Aa), [], [], []⟩ : Ac))) (Wd.toE (.aggC (.cons (.refl _) (.cons (.refl _) (.cons (.refl _) (.cons (.nil _) (.cons (.nil _) (.cons (.refl _) (.nil)))))))) (Ab _)) ?_;refine Cx (j := 2) ok rfl rfl rfl hi2 (A6 (vs := [.int .i64 2, .str (⟨[], [98]⟩ : Aa).URI, .str (⟨[], [98]⟩ : Aa).Local, .snil, DX 6 0 ([] : List Ac), .str []]) A7 Aw rfl rfl) ?_;refine Eg 7 (v := .agg (Ad (⟨2, (⟨[], [98]⟩ : Aa), [], [], []⟩ : Ac))) (Wd.toE (.aggC (.cons (.refl _) (.cons (.refl _) (.cons (.refl _) (.cons (.nil _) (.cons (.nil _) (.cons (.refl _) (.nil)))))))) (Ab _)) ?_;refine O5 (d := 6) (v := .agg [.int .i64 (⟨2, (⟨[], [98]⟩ : Aa), [], [], []⟩ : Ac).Kind, .str (⟨2, (⟨[], [98]⟩ : Aa), [], [], []⟩ : Ac).Name.URI, .str (⟨2, (⟨[], [98]⟩ : Aa), [], [], []⟩ : Ac).Name.Local, .sl 3 (List.map Ao (⟨2, (⟨[], [98]⟩ : Aa), [], [], []⟩ : Ac).Attrs) 0, .sl 6 (List.map Ad (⟨2, (⟨[], [98]⟩ : Aa), [], [], []⟩ : Ac).Kids) 0, .str (⟨2, (⟨[], [98]⟩ : Aa), [], [], []⟩ : Ac).Text]) (congrArg D.agg (Ab (⟨2, (⟨[], [98]⟩ : Aa), [], [], []⟩ : Ac))) ?_;refine O5 (d := 7) (v := .agg [.int .i64 (⟨2, (⟨[], [98]⟩ : Aa), [], [], []⟩ : Ac).Kind, .str (⟨2, (⟨[], [98]⟩ : Aa), [], [], []⟩ : Ac).Name.URI, .str (⟨2, (⟨[], [98]⟩ : Aa), [], [], []⟩ : Ac).Name.Local, .sl 3 (List.map Ao (⟨2, (⟨[], [98]⟩ : Aa), [], [], []⟩ : Ac).Attrs) 0, .sl 6 (List.map Ad (⟨2, (⟨[], [98]⟩ : Aa), [], [], []⟩ : Ac).Kids) 0, .str (⟨2, (⟨[], [98]⟩ : Aa), [], [], []⟩ : Ac).Text]) (congrArg D.agg (Ab (⟨2, (⟨[], [98]⟩ : Aa), [], [], []⟩ : Ac))) ?_
 refine YF (cs := [.int .i64 (⟨2, (⟨[], [98]⟩ : Aa), [], [], []⟩ : Ac).Kind, .str (⟨2, (⟨[], [98]⟩ : Aa), [], [], []⟩ : Ac).Name.URI, .str (⟨2, (⟨[], [98]⟩ : Aa), [], [], []⟩ : Ac).Name.Local, .sl 3 (List.map Ao (⟨2, (⟨[], [98]⟩ : Aa), [], [], []⟩ : Ac).Attrs) 0, .sl 6 (List.map Ad (⟨2, (⟨[], [98]⟩ : Aa), [], [], []⟩ : Ac).Kids) 0, .str (⟨2, (⟨[], [98]⟩ : Aa), [], [], []⟩ : Ac).Text, .int .i64 (⟨2, (⟨[], [98]⟩ : Aa), [], [], []⟩ : Ac).Kind, .str (⟨2, (⟨[], [98]⟩ : Aa), [], [], []⟩ : Ac).Name.URI, .str (⟨2, (⟨[], [98]⟩ : Aa), [], [], []⟩ : Ac).Name.Local, .sl 3 (List.map Ao (⟨2, (⟨[], [98]⟩ : Aa), [], [], []⟩ : Ac).Attrs) 0, .sl 6 (List.map Ad (⟨2, (⟨[], [98]⟩ : Aa), [], [], []⟩ : Ac).Kids) 0, .str (⟨2, (⟨[], [98]⟩ : Aa), [], [], []⟩ : Ac).Text]) (c := Ad) (e := [(⟨2, (⟨[], [98]⟩ : Aa), [], [], []⟩ : Ac), (⟨2, (⟨[], [98]⟩ : Aa), [], [], []⟩ : Ac)]) ok rfl Jk rfl (by kernel_rfl) (by kernel_rfl) ?_;intro u5 zu5 ok;refine DD (v := .agg [.int .i64 2, .str (⟨[], [97]⟩ : Aa).URI, .str (⟨[], [97]⟩ : Aa).Local, .snil, DX 6 u5 ([(⟨2, (⟨[], [98]⟩ : Aa), [], [], []⟩ : Ac), (⟨2, (⟨[], [98]⟩ : Aa), [], [], []⟩ : Ac)]), .str []]) (GO DK OL (by cases u5 <;> rfl)) ?_;refine Eg 9 (v := .agg [.int .i64 2, .str (⟨[], [97]⟩ : Aa).URI, .str (⟨[], [97]⟩ : Aa).Local, .sl 3 (List.map Ao []) 0, DX 6 u5 ([(⟨2, (⟨[], [98]⟩ : Aa), [], [], []⟩ : Ac), (⟨2, (⟨[], [98]⟩ : Aa), [], [], []⟩ : Ac)]), .str []]) (.aggC (.cons (.refl _) (.cons (.refl _) (.cons (.refl _) (.cons (.nil _) (.cons (.refl _) (.cons (.refl _) (.nil)))))))) ?_;refine Ca ok rfl DK ?_;intro i6 hi6 ok;refine O7 Ad ok (fun ok => ?_);refine Gd (j := 1) (cs' := [.int .i64 2, .str (⟨[], [97]⟩ : Aa).URI, .str (⟨[], [97]⟩ : Aa).Local, .sl 3 (List.map Ao []) 0, DX 6 u5 ([(⟨2, (⟨[], [98]⟩ : Aa), [], [], []⟩ : Ac), (⟨2, (⟨[], [98]⟩ : Aa), [], [], []⟩ : Ac)]), .str []]) ok rfl rfl rfl hi6 rfl Aw rfl rfl (fun ok => ?_);refine FL ?_;refine DF rfl BS Bg ?_;refine Ah9 ?_;refine DD (v := .agg (Ar (⟨[], [120]⟩ : Aa))) (GO C4 ED rfl) ?_
 refine DD (v := .agg (Ao (⟨(⟨[], [120]⟩ : Aa), [49]⟩ : Ak))) (GO Jo Ro rfl) ?_;refine De (cs := [.str (⟨(⟨[], [120]⟩ : Aa), [49]⟩ : Ak).Name.URI, .str (⟨(⟨[], [120]⟩ : Aa), [49]⟩ : Ak).Name.Local, .str (⟨(⟨[], [120]⟩ : Aa), [49]⟩ : Ak).Value]) (es := (List.map Ao [(⟨(⟨[], [120]⟩ : Aa), [49]⟩ : Ak)])) rfl RK rfl (by kernel_rfl) (by kernel_rfl) ?_;refine Zk zu5 rfl rfl DE Aw hF (fun x8 hx8 hF => ?_);refine DF rfl Bu A0 ?_;refine ZG (q := 6) (j := 2) (f0 := 3) (b := (⟨x8.Kind, x8.Name, [(⟨(⟨[], [120]⟩ : Aa), [49]⟩ : Ak)], x8.Kids, x8.Text⟩ : Ac)) ok zu5 rfl rfl rfl Gk hx8 rfl rfl A0 rfl (by rw [Ab x8, Ab (⟨x8.Kind, x8.Name, [(⟨(⟨[], [120]⟩ : Aa), [49]⟩ : Ak)], x8.Kids, x8.Text⟩ : Ac)]; rfl) (fun za9 ok => ?_);obtain ⟨a9, ha9, hF⟩ := Ox hF;rw [<- ha9] at ok za9;rw [<- ha9];have hms : DX 6 u5 ([(⟨2, (⟨[], [98]⟩ : Aa), [], [], []⟩ : Ac), (⟨2, (⟨[], [98]⟩ : Aa), [], [], []⟩ : Ac)]) = DX 6 u5 a9 := Kz (by rw [ha9, List.length_set])
 try rw [hms] at ok
 try rw [hms]
 clear hms;refine FL ?_;refine DF rfl BS Bg ?_;refine Ah9 ?_;refine DD (v := .agg (Ar (⟨[], [100]⟩ : Aa))) (GO C4 ED rfl) ?_;refine DD (v := .agg (Ao (⟨(⟨[], [100]⟩ : Aa), [77, 48, 32, 48, 32, 52, 32, 48, 32, 52, 32, 52, 90]⟩ : Ak))) (GO Jo Ro rfl) ?_;refine De (cs := [.str (⟨(⟨[], [100]⟩ : Aa), [77, 48, 32, 48, 32, 52, 32, 48, 32, 52, 32, 52, 90]⟩ : Ak).Name.URI, .str (⟨(⟨[], [100]⟩ : Aa), [77, 48, 32, 48, 32, 52, 32, 48, 32, 52, 32, 52, 90]⟩ : Ak).Name.Local, .str (⟨(⟨[], [100]⟩ : Aa), [77, 48, 32, 48, 32, 52, 32, 48, 32, 52, 32, 52, 90]⟩ : Ak).Value]) (es := (List.map Ao [(⟨(⟨[], [100]⟩ : Aa), [77, 48, 32, 48, 32, 52, 32, 48, 32, 52, 32, 52, 90]⟩ : Ak)])) rfl RK rfl (by kernel_rfl) (by kernel_rfl) ?_;refine Zk za9 rfl rfl DE Aw hF (fun x10 hx10 hF => ?_);refine DF rfl Bu A0 ?_;refine ZG (q := 6) (j := 2) (f0 := 3) (b := (⟨x10.Kind, x10.Name, [(⟨(⟨[], [100]⟩ : Aa), [77, 48, 32, 48, 32, 52, 32, 48, 32, 52, 32, 52, 90]⟩ : Ak)], x10.Kids, x10.Text⟩ : Ac)) ok za9 rfl rfl rfl Gk hx10 rfl rfl A0 rfl (by rw [Ab x10, Ab (⟨x10.Kind, x10.Name, [(⟨(⟨[], [100]⟩ : Aa), [77, 48, 32, 48, 32, 52, 32, 48, 32, 52, 32, 52, 90]⟩ : Ak)], x10.Kids, x10.Text⟩ : Ac)]; rfl) (fun za11 ok => ?_);obtain ⟨a11, ha11, hF⟩ := Ox hF;rw [<- ha11] at ok za11;rw [<- ha11];have hms : DX 6 u5 a9 = DX 6 u5 a11 := Kz (by rw [ha11, List.length_set])
 try rw [hms] at ok
 try rw [hms]
 clear hms;refine FL ?_;refine Aci (c := Ad) (e := a11) (cs' := [.int .i64 2, .str (⟨[], [97]⟩ : Aa).URI, .str (⟨[], [97]⟩ : Aa).Local, .sl 3 (List.map Ao []) 0, .sl 6 (List.map Ad a11) 0, .str []]) 1 2 4 ok za11 rfl hi6 rfl (by decide) Gk rfl rfl (fun ok => ?_);refine Lb 1 2 ok rfl rfl hi6 (fun ok => ?_);refine AE rfl (A6 (vs := Ad (⟨2, (⟨[], [97]⟩ : Aa), [], a11, []⟩ : Ac)) A7 Aw rfl (by rw [Ab]; rfl)) ?_;refine O5 (d := 24) (v := .agg [.int .i64 (⟨2, (⟨[], [97]⟩ : Aa), [], a11, []⟩ : Ac).Kind, .str (⟨2, (⟨[], [97]⟩ : Aa), [], a11, []⟩ : Ac).Name.URI, .str (⟨2, (⟨[], [97]⟩ : Aa), [], a11, []⟩ : Ac).Name.Local, .sl 3 (List.map Ao (⟨2, (⟨[], [97]⟩ : Aa), [], a11, []⟩ : Ac).Attrs) 0, .sl 6 (List.map Ad (⟨2, (⟨[], [97]⟩ : Aa), [], a11, []⟩ : Ac).Kids) 0, .str (⟨2, (⟨[], [97]⟩ : Aa), [], a11, []⟩ : Ac).Text]) (congrArg D.agg (Ab (⟨2, (⟨[], [97]⟩ : Aa), [], a11, []⟩ : Ac))) ?_;refine De (cs := [.int .i64 (⟨2, (⟨[], [97]⟩ : Aa), [], a11, []⟩ : Ac).Kind, .str (⟨2, (⟨[], [97]⟩ : Aa), [], a11, []⟩ : Ac).Name.URI, .str (⟨2, (⟨[], [97]⟩ : Aa), [], a11, []⟩ : Ac).Name.Local, .sl 3 (List.map Ao (⟨2, (⟨[], [97]⟩ : Aa), [], a11, []⟩ : Ac).Attrs) 0, .sl 6 (List.map Ad (⟨2, (⟨[], [97]⟩ : Aa), [], a11, []⟩ : Ac).Kids) 0, .str (⟨2, (⟨[], [97]⟩ : Aa), [], a11, []⟩ : Ac).Text]) (es := (List.map Ad [(⟨2, (⟨[], [97]⟩ : Aa), [], a11, []⟩ : Ac)])) rfl Jk rfl (by kernel_rfl) (by simp only [List.map_cons, List.map_nil, Ab]; rfl) ?_;refine DD (v := .agg [.int .i64 1, .str [], .str [], .snil, .sl 6 (List.map Ad [(⟨2, (⟨[], [97]⟩ : Aa), [], a11, []⟩ : Ac)]) 0, .str []]) (GO DK OL rfl) ?_;refine Eg 26 (v := .agg [.int .i64 1, .str [], .str [], .sl 3 (List.map Ao []) 0, .sl 6 (List.map Ad [(⟨2, (⟨[], [97]⟩ : Aa), [], a11, []⟩ : Ac)]) 0, .str []]) (.aggC (.cons (.refl _) (.cons (.refl _) (.cons (.refl _) (.cons (.nil _) (.cons (.refl _) (.cons (.refl _) (.nil)))))))) ?_;refine Gd (j := 6) (cs' := [.int .i64 1, .str [], .str [], .sl 3 (List.map Ao []) 0, .sl 6 (List.map Ad [(⟨2, (⟨[], [97]⟩ : Aa), [], a11, []⟩ : Ac)]) 0, .str []]) ok rfl rfl rfl hi1 rfl Aw rfl rfl (fun ok => ?_);refine Lq ?_;refine xr ?_;refine Kr (fn := Tryz.f30) rfl (.cell rfl (DS (j := 6) ok rfl hi1 (A6 (vs := [.int .i64 1, .str [], .str [], .sl 3 (List.map Ao []) 0, .sl 6 (List.map Ad [(⟨2, (⟨[], [97]⟩ : Aa), [], a11, []⟩ : Ac)]) 0, .str []]) A7 Aw rfl rfl)) .nil) ?_
 exact ⟨_, _, (Wd.toE (.aggC (.cons (.refl _) (.cons (.refl _) (.cons (.refl _) (.cons (.refl _) (.cons (.refl _) (.cons (.refl _) (.nil)))))))) (Ab _)), ok.wh, _, Aq hF, rfl, rfl⟩
theorem N7 : ∀ (N : Nat) {p0 : Ac} {p1 : List Ac} {rp1 : Nat} {G : (List Ac) -> Prop} (h : Heap) (O : List (Nat × AObj)) (hrp1 : rp1 ≠ 0) (ok : OK h ((rp1, .room) :: O)) (hF : OptP (iter C2 N (p0, p1)) G), CallsA prog 67 [.agg (Ad p0), .sl 6 (List.map Ad p1) rp1] (Hp h ((rp1, .room) :: O)) fun d h' => ∃ r, G r /\ ∃ rp1' : Nat, d = .sl 6 (List.map Ad r) rp1' /\ rp1' ≠ 0 /\ OK h ((rp1', .room) :: O) /\ h' = Hp h ((rp1', .room) :: O) := by
 intro N
 induction N with
 | zero => intro p0 p1 rp1 G h O hrp1 ok hF; exact Lg hF
 | succ N ih0 =>
 have self_ok : ∀ {β : Type} {f0 : (List Ac) -> Option β} {G : β -> Prop} {R : D -> Heap -> Prop} {p0 : Ac} {p1 : List Ac} {rp1 : Nat} (h : Heap) (O : List (Nat × AObj)) (hrp1 : rp1 ≠ 0) (ok : OK h ((rp1, .room) :: O)) (hF : OptP ((iter C2 N (p0, p1)).bind f0) G) (hk : ∀ r rp1', iter C2 N (p0, p1) = some r -> rp1' ≠ 0 -> OK h ((rp1', .room) :: O) -> OptP (f0 r) G -> R (.sl 6 (List.map Ad r) rp1') (Hp h ((rp1', .room) :: O))), CallsA prog 67 [.agg (Ad p0), .sl 6 (List.map Ad p1) rp1] (Hp h ((rp1, .room) :: O)) R := by
  intro β f0 G R p0 p1 rp1 h O hrp1 ok hF hk;obtain ⟨r0, hr, hF⟩ := AZ hF;refine (ih0 (G := fun r => r = r0) h O hrp1 ok ⟨r0, hr, rfl⟩).mono ?_;rintro _ _ ⟨r, rfl, rp, rfl, y0, ok', rfl⟩;exact hk _ _ hr y0 ok' hF
 clear ih0;intro p0 p1 rp1 G h O hrp1 ok hF;replace hF : OptP (C2 (iter C2 N) (p0, p1)) G := hF;refine CallsA.ret ?_;refine G5 func67 rfl Acu ntmps67 rfl ?_;rw [C2] at hF;refine Bm ?_;refine Cc (v := .agg (Ad p0)) (cs := Ad p0) rfl rfl rfl rfl ?_;refine S_a (v := .snil) rfl ?_;refine JZ 4 6 ok rfl rfl ?_;intro r1 hr1 ok;refine IM ?_;refine CB (mdl [(10, 2)]) ?_;refine M8 ?_;refine AE rfl (A6 (vs := Ad p0) A7 Aw (by rw [Ab]; rfl) (by rw [Ab]; rfl)) ?_;refine O5 (d := 8) (v := .agg [.int .i64 p0.Kind, .str p0.Name.URI, .str p0.Name.Local, .sl 3 (List.map Ao p0.Attrs) 0, .sl 6 (List.map Ad p0.Kids) 0, .str p0.Text]) (congrArg D.agg (Ab p0)) ?_;refine De (cs := [.int .i64 p0.Kind, .str p0.Name.URI, .str p0.Name.Local, .sl 3 (List.map Ao p0.Attrs) 0, .sl 6 (List.map Ad p0.Kids) 0, .str p0.Text]) (es := (List.map Ad [p0])) rfl Jk rfl (by kernel_rfl) (by simp only [List.map_cons, List.map_nil, Ab]; rfl) ?_;refine Gm (j := 1) ok rfl rfl rfl rfl hrp1 Jk Rn hF ?_;intro r2 hr2 ok hF;refine Ri ?_;refine AF hF (fun (a11 : (List Ac)) s' => ∃ g12 : Nat, g12 ≠ 0 /\ Zs h ((g12, .room) :: O) 23 [(1, .sl 6 (List.map Ad a11) g12)] s') (fun J13 hF => ?_) ?_
 ·refine Bm ?_;refine AS rfl BS Bg (by rw [Ab]; rfl) ?_;refine AE rfl (AJ Do Bg (congrArg (List.drop 4) (Ab p0))) ?_;refine Tl ?_;refine Bq (σ := (List Ac) × Int) hF (fun (v : (List Ac) × Int) s' => match v with | (a14, a16) => ∃ g15 : Nat, g15 ≠ 0 /\ Zs h ((g15, .room) :: O) 23 [(1, .sl 6 (List.map Ad a14) g15), (12, .sl 6 (List.map Ad p0.Kids) 0), (13, .int .i64 (p0.Kids.length : Int)), (14, .int .i64 a16)] s') ?_ ?_
  ·exact ⟨r2, hr2, oy ok, wy ok⟩
  ·rintro G17 hG18 rec19 ⟨a14, a16⟩ s' ih20 hF ⟨g15, hg15, ok, hws⟩;refine AC hws ?_;rw [Fd] at hF;refine Iq ?_;refine A3 rfl hF (fun hb21 hF => ?_) fun hb21 hF => ?_
   ·refine Ry ?_;refine CB (mdl [(6, 1)]) ?_;refine FJ rfl rfl DE Aw hF (fun x22 _ hF => ?_);refine AE rfl (A6 (vs := Ad x22) A7 Aw (by rw [Ab]; rfl) (by rw [Ab]; rfl)) ?_;refine Ca ok rfl DK ?_;intro i23 hi23 ok;refine Gd (j := 0) (cs' := [.int .i64 x22.Kind, .str x22.Name.URI, .str x22.Name.Local, .sl 3 (List.map Ao x22.Attrs) 0, .sl 6 (List.map Ad x22.Kids) 0, .str x22.Text]) ok rfl (congrArg D.agg (Ab x22)) rfl hi23 rfl Aw rfl rfl (fun ok => ?_);refine A8 ?_;refine LZ ?_;refine Cx (j := 0) ok rfl rfl rfl hi23 (A6 (vs := Ad x22) A7 Aw rfl (Ab x22).symm) ?_;refine M8 ?_;obtain ⟨hpe, ok⟩ := Hp_pull 1 ok rfl;rw [hpe]; clear hpe;refine cl (self_ok (p0 := x22) (p1 := a14) (rp1 := g15) h ((i23, .cells [.int .i64 x22.Kind, .str x22.Name.URI, .str x22.Name.Local, .sl 3 (List.map Ao x22.Attrs) 0, .sl 6 (List.map Ad x22.Kids) 0, .str x22.Text]) :: O) hg15 ok hF fun x24 r25 _ hr25 ok hF => ?_);refine Ri ?_;refine MX ?_;refine ih20 (x24, (IntKind.wrap .i64 (a16 + 1))) _ hF ?_;exact ⟨r25, hr25, oy ok, wy ok⟩
   ·refine E9 ?_;replace hF := hG18 _ (Aq hF);exact ⟨a14, hF, g15, hg15, oy ok, wy ok⟩
 ·rintro a11 s' hF ⟨g12, hg12, ok, hws⟩;refine AC hws ?_;refine Kd ?_;refine ZT ?_;refine rr ?_;exact ⟨_, _, (.refl _), hy ok, _, Aq hF, g12, rfl, hg12, oy ok, rfl⟩
theorem N6 (p0 : Ac) (p1 : List Ac) (rp1 : Nat) {G : (List Ac) -> Prop} (h : Heap) (O : List (Nat × AObj)) (hrp1 : rp1 ≠ 0) (ok : OK h ((rp1, .room) :: O)) (hF : OptP (FX p0 p1) G) : CallsA prog 67 [.agg (Ad p0), .sl 6 (List.map Ad p1) rp1] (Hp h ((rp1, .room) :: O)) fun d h' => ∃ r, G r /\ ∃ rp1' : Nat, d = .sl 6 (List.map Ad r) rp1' /\ rp1' ≠ 0 /\ OK h ((rp1', .room) :: O) /\ h' = Hp h ((rp1', .room) :: O) := N7 FUEL h O hrp1 ok hF
theorem Nc {β : Type} {f0 : (List Ac) -> Option β} {G : β -> Prop} {R : D -> Heap -> Prop} {p0 : Ac} {p1 : List Ac} {rp1 : Nat} (h : Heap) (O : List (Nat × AObj)) (hrp1 : rp1 ≠ 0) (ok : OK h ((rp1, .room) :: O)) (hF : OptP ((FX p0 p1).bind f0) G) (hk : ∀ r rp1', FX p0 p1 = some r -> rp1' ≠ 0 -> OK h ((rp1', .room) :: O) -> OptP (f0 r) G -> R (.sl 6 (List.map Ad r) rp1') (Hp h ((rp1', .room) :: O))) : CallsA prog 67 [.agg (Ad p0), .sl 6 (List.map Ad p1) rp1] (Hp h ((rp1, .room) :: O)) R := by
 obtain ⟨r0, hr, hF⟩ := AZ hF;refine (N6 (G := fun r => r = r0) p0 p1 rp1 h O hrp1 ok ⟨r0, hr, rfl⟩).mono ?_;rintro _ _ ⟨r, rfl, rp, rfl, y0, ok', rfl⟩;exact hk _ _ hr y0 ok' hF
theorem EX (p0 : List Ac) (p1 : Ac -> Option Bool) (f1 : FuncId) (fi1 ca1 : List D) (hf1 : ∀ (x0 : Ac) (G : Bool -> Prop) (h : Heap), OptP (p1 x0) G -> CallsA prog f1 (fi1 ++ [.agg (Ad x0)] ++ ca1) h fun d h' => ∃ r, G r /\ d = .bool r /\ h' = h) {G : Int -> Prop} (h : Heap) (hF : OptP (A4 p0 p1) G) : CallsA prog 104 [.sl 6 (List.map Ad p0) 0, .fn (.func f1) fi1 ca1] h fun d h' => ∃ r, G r /\ d = .int .i64 r /\ h' = h := by
 refine CallsA.ret ?_;refine AO func104 rfl Ach ntmps104 rfl (fun ok => ?_);rw [A4] at hF;refine Tk ?_;refine AF hF (fun (_ : Unit) s' => Zs h [] 19 [] s') (fun J6 hF => ?_) ?_
 ·refine Kd ?_;refine Tl ?_;refine Bq (σ := Int) hF (fun (a7 : Int) s' => Zs h [] 19 [(0, .sl 6 (List.map Ad p0) 0), (1, .fn (.func f1) fi1 ca1), (7, .int .i64 (p0.length : Int)), (8, .int .i64 a7)] s') ?_ ?_
  ·exact ⟨oy ok, wy ok⟩
  ·rintro G8 hG9 rec10 a7 s' ih11 hF ⟨ok, hws⟩;refine AC hws ?_;rw [Bb] at hF;refine Iq ?_;refine A3 rfl hF (fun hb12 hF => ?_) fun hb12 hF => ?_
   ·refine Xd ?_;refine Bm ?_;refine VB ?_;refine XJ ?_;refine FJ rfl rfl DE Aw hF (fun x13 _ hF => ?_);refine AE rfl (A6 (vs := Ad x13) A7 Aw (by rw [Ab]; rfl) (by rw [Ab]; rfl)) ?_;refine Mr rfl (B1 (enc := fun r => .bool r) (fun G h hF => hf1 x13 G h hF) _ hF fun x14 _ hF => ?_) (.app (.app (.refl _) (.cons (.refl _) (.nil))) (.refl _));refine A8 ?_;refine A3 rfl hF (fun hb15 hF => ?_) fun hb15 hF => ?_
    ·refine YI ?_;replace hF := hG9 _ (Aq hF);exact rt
    ·refine Qi ?_;refine ih11 (IntKind.wrap .i64 (a7 + 1)) _ hF ?_;exact ⟨oy ok, wy ok⟩
   ·refine E9 ?_;replace hF := hG9 _ (Aq hF);exact ⟨(), hF, oy ok, wy ok⟩
 ·rintro ⟨⟩ s' hF ⟨ok, hws⟩;refine AC hws ?_;refine OC ?_;exact rt
theorem EL {β : Type} {f : Int -> Option β} {G : β -> Prop} {R : D -> Heap -> Prop} {p0 : List Ac} {p1 : Ac -> Option Bool} {f1 : FuncId} {fi1 ca1 : List D} (hf1 : ∀ (x0 : Ac) (G : Bool -> Prop) (h : Heap), OptP (p1 x0) G -> CallsA prog f1 (fi1 ++ [.agg (Ad x0)] ++ ca1) h fun d h' => ∃ r, G r /\ d = .bool r /\ h' = h) (h : Heap) (hF : OptP ((A4 p0 p1).bind f) G) (hk : ∀ r, A4 p0 p1 = some r -> OptP (f r) G -> R (.int .i64 r) h) : CallsA prog 104 [.sl 6 (List.map Ad p0) 0, .fn (.func f1) fi1 ca1] h R := by
 obtain ⟨r0, hr, hF⟩ := AZ hF;refine (EX (G := fun r => r = r0) p0 p1 f1 fi1 ca1 hf1 h ⟨r0, hr, rfl⟩).mono ?_;rintro _ _ ⟨r, rfl, rfl, rfl⟩;exact hk _ hr hF
theorem Ex (p0 : List Ac) (p1 : Ac -> Option Bool) (f1 : FuncId) (fi1 ca1 : List D) (hf1 : ∀ (x0 : Ac) (G : Bool -> Prop) (h : Heap), OptP (p1 x0) G -> CallsA prog f1 (fi1 ++ [.agg (Ad x0)] ++ ca1) h fun d h' => ∃ r, G r /\ d = .bool r /\ h' = h) {G : Bool -> Prop} (h : Heap) (hF : OptP (An p0 p1) G) : CallsA prog 68 [.sl 6 (List.map Ad p0) 0, .fn (.func f1) fi1 ca1] h fun d h' => ∃ r, G r /\ d = .bool r /\ h' = h := by
 refine CallsA.ret ?_;refine AO func68 rfl Agl ntmps68 rfl (fun ok => ?_);rw [An] at hF;refine Nr ?_;refine Kd ?_;refine VB ?_;refine cl (EL (f1 := f1) (fi1 := fi1) (ca1 := ca1) hf1 _ hF fun x1 _ hF => ?_);refine Sd ?_;refine Ft ?_;exact rt
theorem Az {β : Type} {f : Bool -> Option β} {G : β -> Prop} {R : D -> Heap -> Prop} {p0 : List Ac} {p1 : Ac -> Option Bool} {f1 : FuncId} {fi1 ca1 : List D} (hf1 : ∀ (x0 : Ac) (G : Bool -> Prop) (h : Heap), OptP (p1 x0) G -> CallsA prog f1 (fi1 ++ [.agg (Ad x0)] ++ ca1) h fun d h' => ∃ r, G r /\ d = .bool r /\ h' = h) (h : Heap) (hF : OptP ((An p0 p1).bind f) G) (hk : ∀ r, An p0 p1 = some r -> OptP (f r) G -> R (.bool r) h) : CallsA prog 68 [.sl 6 (List.map Ad p0) 0, .fn (.func f1) fi1 ca1] h R := by
 obtain ⟨r0, hr, hF⟩ := AZ hF;refine (Ex (G := fun r => r = r0) p0 p1 f1 fi1 ca1 hf1 h ⟨r0, hr, rfl⟩).mono ?_;rintro _ _ ⟨r, rfl, rfl, rfl⟩;exact hk _ hr hF
theorem Pw (p0 : Int) (p1 : Int) {G : Bool -> Prop} (h : Heap) (hF : OptP (FV p0 p1) G) : CallsA prog 106 [.int .i64 p0, .int .i64 p1] h fun d h' => ∃ r, G r /\ d = .bool r /\ h' = h := by
 refine CallsA.ret ?_;refine AO func106 rfl Aaw ntmps106 rfl (fun ok => ?_);rw [FV] at hF;refine Nr ?_;refine JE ?_;refine W5 ?_;refine A3 rfl hF (fun hb1 hF => ?_) fun hb1 hF => ?_
 ·refine Ws ?_;refine A1 (b := (p1 == 2)) 3 13 (.bool ((p1 == 2) || (p1 == 4))) (fun hb2 => ?_) (fun hb2 => ?_) ?_
  ·refine LD ?_;exact th
  ·refine PS ?_;exact th
  refine CZ ?_;refine A1 (b := ((p1 == 2) || (p1 == 4))) 3 17 (.bool (((p1 == 2) || (p1 == 4)) || (p1 == 5))) (fun hb3 => ?_) (fun hb3 => ?_) ?_
  ·refine LD ?_;exact th
  ·refine PS ?_;exact th
  refine Ft ?_;exact rt
 ·refine Qh ?_;refine A3 rfl hF (fun hb4 hF => ?_) fun hb4 hF => ?_
  ·refine Tj ?_;refine A1 (b := (decide (2 <= p1))) 3 25 (.bool ((decide (2 <= p1)) && (decide (p1 <= 5)))) (fun hb5 => ?_) (fun hb5 => ?_) ?_
   ·refine Ss ?_;exact th
   ·refine HI ?_;exact th
   refine Ft ?_;exact rt
  ·refine Vj ?_;exact rt
theorem M3 (p0 : Ac) (p1 : Ac) {G : Bool -> Prop} (h : Heap) (hF : OptP (Du p0 p1) G) : CallsA prog 105 [.agg (Ad p0), .iptr (Ad p1)] h fun d h' => ∃ r, G r /\ d = .bool r /\ h' = h := by
 refine CallsA.ret ?_;refine AO func105 rfl Abk ntmps105 rfl (fun ok => ?_);rw [Du] at hF;refine Bm ?_;refine Cc (v := .agg (Ad p0)) (cs := Ad p0) rfl rfl rfl rfl ?_;refine OY ?_;refine AS rfl Bn Av (by rw [Ab]; rfl) ?_;refine AE rfl (AJ BZ Av (congrArg (List.drop 0) (Ab p1))) ?_;refine AS rfl Bn Av (by rw [Ab]; rfl) ?_;refine AE rfl (AJ BZ Av (congrArg (List.drop 0) (Ab p0))) ?_;refine cl (B1 (fun _ h hF => Pw _ _ h hF) _ hF fun x1 _ hF => ?_);refine TS ?_;refine Ft ?_;exact rt
theorem PM (p0 : Ac) {G : Bool -> Prop} (h : Heap) (hF : OptP (D6 p0) G) : CallsA prog 69 [.agg (Ad p0)] h fun d h' => ∃ r, G r /\ d = .bool r /\ h' = h := by
 refine CallsA.ret ?_;refine AO func69 rfl Ae3 ntmps69 rfl (fun ok => ?_);rw [D6] at hF;refine Bm ?_;refine Cc (v := .agg (Ad p0)) (cs := Ad p0) rfl rfl rfl rfl ?_;refine OY ?_;refine AS rfl Bn Av (by rw [Ab]; rfl) ?_;refine AE rfl (AJ BZ Av (congrArg (List.drop 0) (Ab p0))) ?_;refine Xc ?_;refine A1 (b := (p0.Kind != 2)) 5 12 (.bool ((p0.Kind != 2) && (decide (0 < (p0.Attrs.length : Int))))) (fun hb1 => ?_) (fun hb1 => ?_) ?_
 ·refine DZ ?_;refine AS rfl Bu A0 (by rw [Ab]; rfl) ?_;refine Bj ?_;refine AE rfl (AJ C6 A0 (congrArg (List.drop 3) (Ab p0))) ?_;refine Bj ?_;refine XG ?_;refine Bj ?_;refine VI ?_;refine Gn ?_;exact th
 ·refine Vo ?_;exact th
 refine Fm ?_;refine AF hF (fun (a9 : Bool) s' => Zs h [] 57 [(1, .iptr (Ad p0)), (3, .bool a9)] s') (fun J10 hF => ?_) ?_
 ·refine Bm ?_;refine AS rfl Bn Av (by rw [Ab]; rfl) ?_;refine AE rfl (AJ BZ Av (congrArg (List.drop 0) (Ab p0))) ?_;refine W5 ?_;refine A3 rfl hF (fun hb11 hF => ?_) fun hb11 hF => ?_
  ·refine LZ ?_;refine ZD ?_;refine A1 (b := ((p0.Kind != 2) && (decide (0 < (p0.Attrs.length : Int))))) 5 30 (.bool (((p0.Kind != 2) && (decide (0 < (p0.Attrs.length : Int)))) || (!((p0.Name.URI == (⟨[], []⟩ : Aa).URI) && ((p0.Name.Local == (⟨[], []⟩ : Aa).Local) && true))))) (fun hb12 => ?_) (fun hb12 => ?_) ?_
   ·refine S0 ?_;exact th
   ·refine DZ ?_;refine AS rfl D5 AA (by rw [Ab]; rfl) ?_;refine Bj ?_;refine AE rfl (A6 (vs := Ar p0.Name) BI AA (by rw [Ab]; rfl) (by rw [Ab]; rfl)) ?_;refine Bj ?_;refine DD (v := .agg (Ar (⟨[], []⟩ : Aa))) (GO C4 ED rfl) ?_;refine Bj ?_;refine DG rfl rfl (XR (b := ((p0.Name.URI == (⟨[], []⟩ : Aa).URI) && ((p0.Name.Local == (⟨[], []⟩ : Aa).Local) && true))) D1 DV (by simp only [Ar, EM, Fo, IC, DV, D1, Bw, Ax, AQ, Bw, Ax, AQ, Ge, Gg, Fs, Gi, Fr, Fl, EQ, List.drop_zero, List.drop_succ_cons, bi, bj, List.take_succ_cons, List.take_zero, Option.isSome_some, if_true, ba, Option.map_some, Nat.reduceAdd, Nat.reduceLeDiff])) ?_;refine Jv ?_;exact th
   refine CZ ?_;refine A1 (b := (((p0.Kind != 2) && (decide (0 < (p0.Attrs.length : Int)))) || (!((p0.Name.URI == (⟨[], []⟩ : Aa).URI) && ((p0.Name.Local == (⟨[], []⟩ : Aa).Local) && true))))) 4 35 (.bool ((((p0.Kind != 2) && (decide (0 < (p0.Attrs.length : Int)))) || (!((p0.Name.URI == (⟨[], []⟩ : Aa).URI) && ((p0.Name.Local == (⟨[], []⟩ : Aa).Local) && true)))) || (!(p0.Text == [])))) (fun hb13 => ?_) (fun hb13 => ?_) ?_
   ·refine L0 ?_;exact th
   ·refine DZ ?_;refine AS rfl Cu Ax (by rw [Ab]; rfl) ?_;refine Bj ?_;refine AE rfl (AJ Bw Ax (congrArg (List.drop 5) (Ab p0))) ?_;refine Bj ?_;refine YW ?_;refine Jv ?_;exact th
   refine Fm ?_;exact ⟨((((p0.Kind != 2) && (decide (0 < (p0.Attrs.length : Int)))) || (!((p0.Name.URI == (⟨[], []⟩ : Aa).URI) && ((p0.Name.Local == (⟨[], []⟩ : Aa).Local) && true)))) || (!(p0.Text == []))), hF, oy ok, wy ok⟩
  ·refine Qh ?_;refine A3 rfl hF (fun hb14 hF => ?_) fun hb14 hF => ?_
   ·refine LZ ?_;refine AS rfl Cu Ax (by rw [Ab]; rfl) ?_;refine AE rfl (AJ Bw Ax (congrArg (List.drop 5) (Ab p0))) ?_;refine YW ?_;refine Fm ?_;exact ⟨(!(p0.Text == [])), hF, oy ok, wy ok⟩
   ·refine Qh ?_;refine A3 rfl hF (fun hb15 hF => ?_) fun hb15 hF => ?_
    ·refine LZ ?_;refine ZD ?_;refine A1 (b := ((p0.Kind != 2) && (decide (0 < (p0.Attrs.length : Int))))) 5 49 (.bool (((p0.Kind != 2) && (decide (0 < (p0.Attrs.length : Int)))) || (!(p0.Name.URI == [])))) (fun hb16 => ?_) (fun hb16 => ?_) ?_
     ·refine S0 ?_;exact th
     ·refine DZ ?_;refine AS rfl D5 AA (by rw [Ab]; rfl) ?_;refine Bj ?_;refine AS rfl Jr Ax (by rw [Ab]; rfl) ?_;refine Bj ?_;refine AE rfl (AJ Bw Ax (congrArg (List.drop 0) (congrArg (List.drop 1) (Ab p0)))) ?_;refine Bj ?_;refine YW ?_;refine Jv ?_;exact th
     refine Fm ?_;exact ⟨(((p0.Kind != 2) && (decide (0 < (p0.Attrs.length : Int)))) || (!(p0.Name.URI == []))), hF, oy ok, wy ok⟩
    ·refine LZ ?_;refine ZD ?_;refine A1 (b := ((p0.Kind != 2) && (decide (0 < (p0.Attrs.length : Int))))) 5 21 (.bool (((p0.Kind != 2) && (decide (0 < (p0.Attrs.length : Int)))) || (!((p0.Name.URI == (⟨[], []⟩ : Aa).URI) && ((p0.Name.Local == (⟨[], []⟩ : Aa).Local) && true))))) (fun hb17 => ?_) (fun hb17 => ?_) ?_
     ·refine S0 ?_;exact th
     ·refine DZ ?_;refine AS rfl D5 AA (by rw [Ab]; rfl) ?_;refine Bj ?_;refine AE rfl (A6 (vs := Ar p0.Name) BI AA (by rw [Ab]; rfl) (by rw [Ab]; rfl)) ?_;refine Bj ?_;refine DD (v := .agg (Ar (⟨[], []⟩ : Aa))) (GO C4 ED rfl) ?_;refine Bj ?_;refine DG rfl rfl (XR (b := ((p0.Name.URI == (⟨[], []⟩ : Aa).URI) && ((p0.Name.Local == (⟨[], []⟩ : Aa).Local) && true))) D1 DV (by simp only [Ar, EM, Fo, IC, DV, D1, Bw, Ax, AQ, Bw, Ax, AQ, Ge, Gg, Fs, Gi, Fr, Fl, EQ, List.drop_zero, List.drop_succ_cons, bi, bj, List.take_succ_cons, List.take_zero, Option.isSome_some, if_true, ba, Option.map_some, Nat.reduceAdd, Nat.reduceLeDiff])) ?_;refine Jv ?_;exact th
     refine Fm ?_;exact ⟨(((p0.Kind != 2) && (decide (0 < (p0.Attrs.length : Int)))) || (!((p0.Name.URI == (⟨[], []⟩ : Aa).URI) && ((p0.Name.Local == (⟨[], []⟩ : Aa).Local) && true)))), hF, oy ok, wy ok⟩
 ·rintro a9 s' hF ⟨ok, hws⟩;refine AC hws ?_;refine Bm ?_;refine ZD ?_;refine Bd 5 56 hF (fun J19 hb18 hF => ?_) (fun J19 hb18 hF => ?_) (fun v20 hF => ?_)
  ·refine S0 ?_;exact tw
  ·refine DZ ?_;refine AS rfl BS Bg (by rw [Ab]; rfl) ?_;refine Bj ?_;refine AE rfl (AJ Do Bg (congrArg (List.drop 4) (Ab p0))) ?_;refine Bj ?_;refine Vw (ca := [.iptr (Ad p0)]) rfl ?_;refine Bj ?_;refine cl (Az (f1 := 105) (fi1 := []) (ca1 := [.iptr (Ad p0)]) (fun z0 G h hF => M3 z0 p0 h hF) _ hF fun x21 _ hF => ?_);refine Jv ?_;exact tw
  ·refine Ft ?_;exact rt
theorem MG (rec0 : Ac × Int -> Option Bool) (hrec : ∀ (v : Ac × Int) (G : Bool -> Prop) (h : Heap), OptP (rec0 v) G -> CallsA prog 70 [.agg (Ad v.1), .int .i64 v.2] h fun d h' => ∃ r, G r /\ d = .bool r /\ h' = h) (p0 : Ac) (p1 : Int) {G : Bool -> Prop} (h : Heap) (hF : OptP (C5 rec0 p0 p1) G) : CallsA prog 107 [.agg (Ad p0), .iptr [.int .i64 p1]] h fun d h' => ∃ r, G r /\ d = .bool r /\ h' = h := by
 refine CallsA.ret ?_;refine AO func107 rfl Ac9 ntmps107 rfl (fun ok => ?_);rw [C5] at hF;refine Bm ?_;refine Cc (v := .agg (Ad p0)) (cs := Ad p0) rfl rfl rfl rfl ?_;refine OY ?_;refine AE rfl (A6 (vs := Ad p0) A7 Aw (by rw [Ab]; rfl) (by rw [Ab]; rfl)) ?_;refine Zb ?_;refine cl (B1 (enc := fun r => .bool r) (fun G h hF => hrec (p0, p1) G h hF) _ hF fun x1 _ hF => ?_);refine Ft ?_;exact rt
theorem OT : ∀ (N : Nat) (v : Ac × Int) (G : Bool -> Prop) (h : Heap), OptP (iter Cg N v) G -> CallsA prog 70 [.agg (Ad v.1), .int .i64 v.2] h fun d h' => ∃ r, G r /\ d = .bool r /\ h' = h := by
 intro N
 induction N with
 | zero => intro v G h hF; exact Lg hF
 | succ N ih0 =>
 rintro ⟨p0, p1⟩ G h hF;show CallsA prog 70 [.agg (Ad p0), .int .i64 p1] h fun d h' => ∃ r, G r /\ d = .bool r /\ h' = h;replace hF : OptP (Cg (iter Cg N) (p0, p1)) G := hF;refine CallsA.ret ?_;refine AO func70 rfl Agj ntmps70 rfl (fun ok => ?_);rw [Cg] at hF;refine Ho ?_;refine CB (mdl [(3, 1)]) ?_;refine Cc (v := .agg (Ad p0)) (cs := Ad p0) rfl rfl rfl rfl ?_;refine UU (cs := [.int .i64 p1]) ok rfl rfl rfl rfl ?_;intro i1 hi1 ok;refine Fm ?_;refine AF hF (fun (a4 : Int) s' => Zs h [(i1, .cells [.int .i64 a4])] 16 [(2, .iptr (Ad p0)), (3, .ptr i1 0)] s') (fun J5 hF => ?_) ?_
 ·refine Bm ?_;refine AS rfl Bn Av (by rw [Ab]; rfl) ?_;refine AE rfl (AJ BZ Av (congrArg (List.drop 0) (Ab p0))) ?_;refine Q8 ?_;refine A3 rfl hF (fun hb6 hF => ?_) fun hb6 hF => ?_
  ·refine X5 ?_;refine SI ?_;refine Aab ?_;refine A3 rfl hF (fun hb7 hF => ?_) fun hb7 hF => ?_
   ·refine Hj ?_;exact rt
   ·refine Dx ?_;refine LZ ?_;refine SI ?_;refine P1 ?_;refine st_ 0 ok hi1 Av (fun ok => ?_);refine A8 ?_;exact ⟨(IntKind.wrap .i64 (p1 + 1)), hF, oy ok, wy ok⟩
  ·refine Dx ?_;exact ⟨p1, hF, oy ok, wy ok⟩
 ·rintro a4 s' hF ⟨ok, hws⟩;refine AC hws ?_;refine Bm ?_;refine Lb 0 3 ok rfl rfl hi1 (fun ok => ?_);refine AS rfl BS Bg (by rw [Ab]; rfl) ?_;refine AE rfl (AJ Do Bg (congrArg (List.drop 4) (Ab p0))) ?_;refine Vw (ca := [.iptr (B2 a4)]) rfl ?_;refine cl (Az (f1 := 107) (fi1 := []) (ca1 := [.iptr (B2 a4)]) (fun z0 G h hF => MG (iter Cg N) ih0 z0 a4 h hF) _ hF fun x10 _ hF => ?_);refine Ft ?_;exact rt
theorem N5 (p0 : Ac) (p1 : Int) {G : Bool -> Prop} (h : Heap) (hF : OptP (H6 p0 p1) G) : CallsA prog 70 [.agg (Ad p0), .int .i64 p1] h fun d h' => ∃ r, G r /\ d = .bool r /\ h' = h := OT FUEL (p0, p1) G h hF
theorem Lo (p0 : Ak) {G : Bool -> Prop} (h : Heap) (hF : OptP (Er p0) G) : CallsA prog 108 [.agg (Ao p0)] h fun d h' => ∃ r, G r /\ d = .bool r /\ h' = h := by
 refine CallsA.ret ?_;refine AO func108 rfl Acn ntmps108 rfl (fun ok => ?_);rw [Er] at hF;refine Bm ?_;refine Cc rfl rfl rfl rfl ?_;refine OY ?_;refine AS rfl HM Ax rfl ?_;refine Q7 ?_;refine Ue ?_;refine VI ?_;refine Ft ?_;exact rt
theorem EA (p0 : List Ak) (p1 : Ak -> Option Bool) (f1 : FuncId) (fi1 ca1 : List D) (hf1 : ∀ (x0 : Ak) (G : Bool -> Prop) (h : Heap), OptP (p1 x0) G -> CallsA prog f1 (fi1 ++ [.agg (Ao x0)] ++ ca1) h fun d h' => ∃ r, G r /\ d = .bool r /\ h' = h) {G : Bool -> Prop} (h : Heap) (hF : OptP (Ay p0 p1) G) : CallsA prog 109 [.sl 3 (List.map Ao p0) 0, .fn (.func f1) fi1 ca1] h fun d h' => ∃ r, G r /\ d = .bool r /\ h' = h := by
 refine CallsA.ret ?_;refine AO func109 rfl Adq ntmps109 rfl (fun ok => ?_);rw [Ay] at hF;refine Nr ?_;refine Kd ?_;refine VB ?_;refine cl (C8 (f1 := f1) (fi1 := fi1) (ca1 := ca1) hf1 _ hF fun x1 _ hF => ?_);refine Sd ?_;refine Ft ?_;exact rt
theorem BM {β : Type} {f : Bool -> Option β} {G : β -> Prop} {R : D -> Heap -> Prop} {p0 : List Ak} {p1 : Ak -> Option Bool} {f1 : FuncId} {fi1 ca1 : List D} (hf1 : ∀ (x0 : Ak) (G : Bool -> Prop) (h : Heap), OptP (p1 x0) G -> CallsA prog f1 (fi1 ++ [.agg (Ao x0)] ++ ca1) h fun d h' => ∃ r, G r /\ d = .bool r /\ h' = h) (h : Heap) (hF : OptP ((Ay p0 p1).bind f) G) (hk : ∀ r, Ay p0 p1 = some r -> OptP (f r) G -> R (.bool r) h) : CallsA prog 109 [.sl 3 (List.map Ao p0) 0, .fn (.func f1) fi1 ca1] h R := by
 obtain ⟨r0, hr, hF⟩ := AZ hF;refine (EA (G := fun r => r = r0) p0 p1 f1 fi1 ca1 hf1 h ⟨r0, hr, rfl⟩).mono ?_;rintro _ _ ⟨r, rfl, rfl, rfl⟩;exact hk _ hr hF
theorem Nh (p0 : Ac) {G : Bool -> Prop} (h : Heap) (hF : OptP (DQ p0) G) : CallsA prog 71 [.agg (Ad p0)] h fun d h' => ∃ r, G r /\ d = .bool r /\ h' = h := by
 refine CallsA.ret ?_;refine AO func71 rfl Ag3 ntmps71 rfl (fun ok => ?_);rw [DQ] at hF;refine Bm ?_;refine Cc (v := .agg (Ad p0)) (cs := Ad p0) rfl rfl rfl rfl ?_;refine OY ?_;refine S_a (v := .fn (.func 108) [] []) rfl ?_;refine FL ?_;refine AS rfl Bu A0 (by rw [Ab]; rfl) ?_;refine AE rfl (AJ C6 A0 (congrArg (List.drop 3) (Ab p0))) ?_;refine XG ?_;refine VI ?_;refine CZ ?_;refine A1 (b := (decide (64 < (p0.Attrs.length : Int)))) 5 13 (.bool ((decide (64 < (p0.Attrs.length : Int))) || (decide (8192 < (p0.Text.length : Int))))) (fun hb1 => ?_) (fun hb1 => ?_) ?_
 ·refine S0 ?_;exact th
 ·refine DZ ?_;refine AS rfl Cu Ax (by rw [Ab]; rfl) ?_;refine Bj ?_;refine AE rfl (AJ Bw Ax (congrArg (List.drop 5) (Ab p0))) ?_;refine Bj ?_;refine Wc ?_;refine W2 ?_;exact th
 refine CZ ?_;refine Bd 5 19 hF (fun J3 hb2 hF => ?_) (fun J3 hb2 hF => ?_) (fun v4 hF => ?_)
 ·refine S0 ?_;exact tw
 ·refine DZ ?_;refine AS rfl Bu A0 (by rw [Ab]; rfl) ?_;refine Bj ?_;refine AE rfl (AJ C6 A0 (congrArg (List.drop 3) (Ab p0))) ?_;refine Bj ?_;refine S_m (v := .fn (.func 108) [] []) rfl ?_;refine Bj ?_;refine cl (BM (f1 := 108) (fi1 := []) (ca1 := []) (fun z0 G h hF => Lo z0 h hF) _ hF fun x5 _ hF => ?_);refine Jv ?_;exact tw
 ·refine Ft ?_;exact rt
theorem KA (p0 : List By8) {G : Bool -> Prop} (h : Heap) (hF : OptP (EP p0) G) : CallsA prog 112 [.str p0] h fun d h' => ∃ r, G r /\ d = .bool r /\ h' = h := by
 refine CallsA.ret ?_;refine AO func112 rfl Acm ntmps112 rfl (fun ok => ?_);rw [EP] at hF;refine Aad ?_;refine Mm ?_;refine Mg ?_;refine CZ ?_;refine A1 (b := (p0 == [])) 4 11 (.bool ((p0 == []) || (decide (100 < (p0.length : Int))))) (fun hb1 => ?_) (fun hb1 => ?_) ?_
 ·refine L0 ?_;exact th
 ·refine N1 ?_;refine Wc ?_;refine W2 ?_;exact th
 refine CZ ?_;refine Bd 4 16 hF (fun J3 hb2 hF => ?_) (fun J3 hb2 hF => ?_) (fun v4 hF => ?_)
 ·refine L0 ?_;exact tw
 ·refine N1 ?_;refine cl (L_ValidString_ok _ hF fun x5 _ hF => ?_);refine XN ?_;exact tw
 ·refine A8 ?_;refine A3 rfl hF (fun hb6 hF => ?_) fun hb6 hF => ?_
  ·refine Hj ?_;exact rt
  ·refine Dx ?_;refine AF hF (fun (_ : Unit) s' => Zs h [] 35 [] s') (fun J18 hF => ?_) ?_
   ·refine Mm ?_;refine Acf ok rfl AQ ?_;intro i19 hi19 ok;refine Aac ?_;refine Bq (σ := Nat) hF (fun (a20 : Nat) s' => Zs h [(i19, .iter p0 a20)] 35 [(18, .ptr i19 0)] s') ?_ ?_
    ·exact ⟨oy ok, wy ok⟩
    ·rintro G21 hG22 rec23 a20 s' ih24 hF ⟨ok, hws⟩;refine AC hws ?_;rw [C7] at hF;refine Bm ?_;refine Abl (j := 0) ok rfl rfl hi19 hF (fun _ ok hF => ?_) (fun hF => ?_)
     ·refine XW ?_;refine IM ?_;refine Aee rfl rfl ?_;refine U2 ?_;refine Bm ?_;refine Ahp ?_;refine Rg ?_;refine Ws ?_;refine Bd 4 29 hF (fun J26 hb25 hF => ?_) (fun J26 hb25 hF => ?_) (fun v27 hF => ?_)
      ·refine MZ ?_;refine cl (B1 (fun _ h hF => Gl _ h hF) _ hF fun x28 _ hF => ?_);refine Z8 ?_;exact tw
      ·refine OZ ?_;exact tw
      ·refine CZ ?_;refine Bd 4 34 hF (fun J30 hb29 hF => ?_) (fun J30 hb29 hF => ?_) (fun v31 hF => ?_)
       ·refine L0 ?_;exact tw
       ·refine MZ ?_;refine cl (B1 (fun _ h hF => Je _ h hF) _ hF fun x32 _ hF => ?_);refine XN ?_;exact tw
       ·refine A8 ?_;refine A3 rfl hF (fun hb33 hF => ?_) fun hb33 hF => ?_
        ·refine Hj ?_;replace hF := hG22 _ (Aq hF);exact rt
        ·refine Dx ?_;refine ih24 (a20 + wdS p0 a20) _ hF ?_;exact ⟨oy ok, wy ok⟩
     ·refine XW ?_;refine IM ?_;refine Aea rfl rfl ?_;refine E9 ?_;replace hF := hG22 _ (Aq hF);exact ⟨(), hF, oy ok, wy ok⟩
   ·rintro ⟨⟩ s' hF ⟨ok, hws⟩;refine AC hws ?_;refine Hj ?_;exact rt
theorem Mu (p0 : Int) {G : Bool -> Prop} (h : Heap) (hF : OptP (El p0) G) : CallsA prog 187 [.int .i32 p0] h fun d h' => ∃ r, G r /\ d = .bool r /\ h' = h := by
 refine CallsA.ret ?_;refine AO func187 rfl Adn ntmps187 rfl (fun ok => ?_);rw [El] at hF;refine Nr ?_;refine Ws ?_;refine A1 (b := (p0 == 9)) 3 8 (.bool ((p0 == 9) || (p0 == 10))) (fun hb1 => ?_) (fun hb1 => ?_) ?_
 ·refine LD ?_;exact th
 ·refine PS ?_;exact th
 refine CZ ?_;refine A1 (b := ((p0 == 9) || (p0 == 10))) 3 12 (.bool (((p0 == 9) || (p0 == 10)) || (p0 == 13))) (fun hb2 => ?_) (fun hb2 => ?_) ?_
 ·refine LD ?_;exact th
 ·refine PS ?_;exact th
 refine CZ ?_;refine Bd 7 20 hF (fun J4 hb3 hF => ?_) (fun J4 hb3 hF => ?_) (fun v5 hF => ?_)
 ·refine Ih ?_;refine LD ?_;exact tw
 ·refine MZ ?_;refine DD (v := .agg (AU (⟨32, 55295⟩ : Al))) (GO CR Df rfl) ?_;refine Bj ?_;refine DD (v := .agg (AU (⟨57344, 65533⟩ : Al))) (GO CR Df rfl) ?_;refine Bj ?_;refine DD (v := .agg (AU (⟨65536, 1114111⟩ : Al))) (GO CR Df rfl) ?_;refine Bj ?_;refine De (cs := [.int .i32 (⟨32, 55295⟩ : Al).lo, .int .i32 (⟨32, 55295⟩ : Al).hi, .int .i32 (⟨57344, 65533⟩ : Al).lo, .int .i32 (⟨57344, 65533⟩ : Al).hi, .int .i32 (⟨65536, 1114111⟩ : Al).lo, .int .i32 (⟨65536, 1114111⟩ : Al).hi]) (es := (List.map AU [(⟨32, 55295⟩ : Al), (⟨57344, 65533⟩ : Al), (⟨65536, 1114111⟩ : Al)])) rfl LV rfl (by kernel_rfl) (by kernel_rfl) ?_;refine Bj ?_;refine cl (B1 (fun _ h hF => J0 _ _ h hF) _ hF fun x6 _ hF => ?_);refine Jv ?_;exact tw
 ·refine Ft ?_;exact rt
theorem Og (p0 : List By8) (p1 : Int) {G : Int × Int × Int -> Prop} (h : Heap) (hF : OptP (Fi p0 p1) G) : CallsA prog 176 [.sl 1 (List.map OX p0) 0, .int .i64 p1] h fun d h' => ∃ r, G r /\ d = .tup [.int .i32 r.1, .int .i64 r.2.1, .int .i64 r.2.2] /\ h' = h := by
 refine CallsA.ret ?_;refine AO func176 rfl Aat ntmps176 rfl (fun ok => ?_);rw [Fi] at hF;refine Bm ?_;refine V4 ?_;refine JE ?_;refine WV ?_;refine A1 (b := (decide (p1 < 0))) 5 16 (.bool ((decide (p1 < 0)) || (decide ((p0.length : Int) <= p1)))) (fun hb1 => ?_) (fun hb1 => ?_) ?_
 ·refine S0 ?_;exact th
 ·refine MZ ?_;refine Ab9 ?_;refine Yy ?_;refine Bj ?_;refine Sd ?_;refine Jv ?_;exact th
 refine A8 ?_;refine A3 rfl hF (fun hb2 hF => ?_) fun hb2 hF => ?_
 ·refine Bm ?_;refine Xv ?_;exact rt
 ·refine Dx ?_;refine Z1 ?_;refine Adl rfl Hv Hi (FY rfl) Abm hF (fun x3 _ hF => ?_);refine cl (L_DecodeRune_ok _ hF fun x4 _ hF => ?_);refine Vz ?_;refine Ho ?_;refine Lw ?_;refine Ws ?_;refine A1 (b := (x4.1 == 65533)) 3 30 (.bool ((x4.1 == 65533) && (decide (x4.2 < 3)))) (fun hb5 => ?_) (fun hb5 => ?_) ?_
  ·refine ZK ?_;refine Gn ?_;exact th
  ·refine HI ?_;exact th
  refine Fm ?_;refine A3 rfl hF (fun hb6 hF => ?_) fun hb6 hF => ?_
  ·refine Bm ?_;refine Xv ?_;exact rt
  ·refine Gq ?_;refine cl (B1 (fun _ h hF => Mu _ h hF) _ hF fun x7 _ hF => ?_);refine TS ?_;refine Fm ?_;refine A3 rfl hF (fun hb8 hF => ?_) fun hb8 hF => ?_
   ·refine Bm ?_;refine Xv ?_;exact rt
   ·refine Dx ?_;refine Qf ?_;refine V3 ?_;refine Xv ?_;exact rt
theorem M2 (p0 : List By8) {G : Int × Int -> Prop} (h : Heap) (hF : OptP (Eb p0) G) : CallsA prog 148 [.sl 1 (List.map OX p0) 0] h fun d h' => ∃ r, G r /\ d = .tup [.int .i64 r.1, .int .i64 r.2] /\ h' = h := by
 refine CallsA.ret ?_;refine AO func148 rfl Aam ntmps148 rfl (fun ok => ?_);rw [Eb] at hF;refine Bm ?_;refine Rg ?_;refine AF hF (fun (_ : Unit) s' => Zs h [] 24 [] s') (fun J5 hF => ?_) ?_
 ·refine YG ?_;refine Bq (σ := Int) hF (fun (a6 : Int) s' => Zs h [] 24 [(0, .sl 1 (List.map OX p0) 0), (4, .int .i64 a6)] s') ?_ ?_
  ·exact ⟨oy ok, wy ok⟩
  ·rintro G7 hG8 rec9 a6 s' ih10 hF ⟨ok, hws⟩;refine AC hws ?_;rw [DA] at hF;refine JE ?_;refine M8 ?_;refine Yy ?_;refine Ps ?_;refine A3 rfl hF (fun hb11 hF => ?_) fun hb11 hF => ?_
   ·refine U2 ?_;refine Z1 ?_;refine cl (B1 (fun _ h hF => Og _ _ h hF) _ hF fun x12 _ hF => ?_);refine XV ?_;refine V4 ?_;refine JE ?_;refine QM ?_;refine A3 rfl hF (fun hb13 hF => ?_) fun hb13 hF => ?_
    ·refine Qf ?_;refine OW ?_;replace hF := hG8 _ (Aq hF);exact rt
    ·refine ZQ ?_;refine Jj ?_;refine ih10 x12.2.1 _ hF ?_;exact ⟨oy ok, wy ok⟩
   ·refine E9 ?_;replace hF := hG8 _ (Aq hF);exact ⟨(), hF, oy ok, wy ok⟩
 ·rintro ⟨⟩ s' hF ⟨ok, hws⟩;refine AC hws ?_;refine Zy ?_;exact rt
theorem IF (p0 : List By8) {G : Bool -> Prop} (h : Heap) (hF : OptP (EV p0) G) : CallsA prog 114 [.str p0] h fun d h' => ∃ r, G r /\ d = .bool r /\ h' = h := by
 refine CallsA.ret ?_;refine AO func114 rfl Aau ntmps114 rfl (fun ok => ?_);rw [EV] at hF;refine Z4 ?_;refine Agb ?_;refine cl (B1 (fun _ h hF => M2 _ h hF) _ hF fun x1 _ hF => ?_);refine Vz ?_;refine Gq ?_;refine Xw ?_;refine Ft ?_;exact rt
theorem G2 (p0 : Aa) {G : Bool -> Prop} (h : Heap) (hF : OptP (CN p0) G) : CallsA prog 111 [.agg (Ar p0)] h fun d h' => ∃ r, G r /\ d = .bool r /\ h' = h := by
 refine CallsA.ret ?_;refine AO func111 rfl Adr ntmps111 rfl (fun ok => ?_);rw [CN] at hF;refine Bm ?_;refine Cc rfl rfl rfl rfl ?_;refine OY ?_;refine ZI ?_;refine Q7 ?_;refine cl (B1 (fun _ h hF => KA _ h hF) _ hF fun x1 _ hF => ?_);refine Vi ?_;refine A1 (b := (!x1)) 5 12 (.bool ((!x1) || (decide (100 < (p0.URI.length : Int))))) (fun hb2 => ?_) (fun hb2 => ?_) ?_
 ·refine S0 ?_;exact th
 ·refine Yr ?_;refine Wc ?_;refine W2 ?_;exact th
 refine CZ ?_;refine Bd 4 17 hF (fun J4 hb3 hF => ?_) (fun J4 hb3 hF => ?_) (fun v5 hF => ?_)
 ·refine L0 ?_;exact tw
 ·refine Yr ?_;refine cl (B1 (fun _ h hF => IF _ h hF) _ hF fun x6 _ hF => ?_);refine Jv ?_;exact tw
 ·refine CZ ?_;refine A1 (b := v5) 4 22 (.bool (v5 || (p0.URI == [104, 116, 116, 112, 58, 47, 47, 119, 119, 119, 46, 119, 51, 46, 111, 114, 103, 47, 50, 48, 48, 48, 47, 120, 109, 108, 110, 115, 47]))) (fun hb7 => ?_) (fun hb7 => ?_) ?_
  ·refine L0 ?_;exact th
  ·refine Yr ?_;refine Mg ?_;refine Jv ?_;exact th
  refine Ft ?_;exact rt
theorem Ka (p0 : Ak) {G : Bool -> Prop} (h : Heap) (hF : OptP (Dv p0) G) : CallsA prog 110 [.agg (Ao p0)] h fun d h' => ∃ r, G r /\ d = .bool r /\ h' = h := by
 refine CallsA.ret ?_;refine AO func110 rfl Ad6 ntmps110 rfl (fun ok => ?_);rw [Dv] at hF;refine Bm ?_;refine Cc rfl rfl rfl rfl ?_;refine OY ?_;refine Xy ?_;refine AE rfl (A6 (vs := Ar p0.Name) BI AA rfl rfl) ?_;refine cl (B1 (fun _ h hF => G2 _ h hF) _ hF fun x1 _ hF => ?_);refine CZ ?_;refine A1 (b := x1) 5 11 (.bool (x1 || ((p0.Name.URI == (⟨[], [120, 109, 108, 110, 115]⟩ : Aa).URI) && ((p0.Name.Local == (⟨[], [120, 109, 108, 110, 115]⟩ : Aa).Local) && true)))) (fun hb2 => ?_) (fun hb2 => ?_) ?_
 ·refine S0 ?_;exact th
 ·refine DZ ?_;refine Xy ?_;refine Bj ?_;refine AE rfl (A6 (vs := Ar p0.Name) BI AA rfl rfl) ?_;refine Bj ?_;refine DD (v := .agg (Ar (⟨[], [120, 109, 108, 110, 115]⟩ : Aa))) (GO C4 ED rfl) ?_;refine Bj ?_;refine DG rfl rfl (Tb (b := ((p0.Name.URI == (⟨[], [120, 109, 108, 110, 115]⟩ : Aa).URI) && ((p0.Name.Local == (⟨[], [120, 109, 108, 110, 115]⟩ : Aa).Local) && true))) D1 DV (by simp only [Ar, EM, Fo, IC, DV, D1, Bw, Ax, AQ, Bw, Ax, AQ, Ge, Gg, Fs, Gi, Fr, Fl, EQ, List.drop_zero, List.drop_succ_cons, bi, bj, List.take_succ_cons, List.take_zero, Option.isSome_some, if_true, ba, Option.map_some, Nat.reduceAdd, Nat.reduceLeDiff])) ?_;refine Jv ?_;exact th
 refine Ft ?_;exact rt
theorem I5 (p0 : List By8) (p1 : List By8) {G : Bool -> Prop} (h : Heap) (hF : OptP (Cj p0 p1) G) : CallsA prog 113 [.str p0, .str p1] h fun d h' => ∃ r, G r /\ d = .bool r /\ h' = h := by
 refine CallsA.ret ?_;refine AO func113 rfl Abt ntmps113 rfl (fun ok => ?_);rw [Cj] at hF;refine Nr ?_;refine NW ?_;refine JW_step ?_;refine Zx 0 rfl hF (fun (a49 : Int) s' => Zs h [] 123 [(0, .str p0), (1, .str p1), (5, .int .i64 a49)] s') ?_ ?_
 ·rintro a49 s' hF ⟨ok, hws⟩;refine AC hws ?_;refine ZO ?_;refine Kj rfl AQ (FY rfl) PN hF (fun x52 _ hF => ?_);refine Tw ?_;refine FL ?_;refine RQ ?_;refine FI ?_;refine Kj rfl AQ (FY rfl) PN hF (fun x53 _ hF => ?_);refine Tw ?_;refine A8 ?_;refine AF hF (fun (a80 : (List By8)) s' => Zs h [] 123 [(1, .str a80)] s') (fun J81 hF => ?_) ?_
  ·refine Mm ?_;refine Acf ok rfl AQ ?_;intro i82 hi82 ok;refine Aac ?_;refine Bq (σ := (List By8) × Nat) hF (fun (v : (List By8) × Nat) s' => match v with | (a83, a84) => Zs h [(i82, .iter x52 a84)] 123 [(1, .str a83), (67, .ptr i82 0)] s') ?_ ?_
   ·exact ⟨oy ok, wy ok⟩
   ·rintro G85 hG86 rec87 ⟨a83, a84⟩ s' ih88 hF ⟨ok, hws⟩;refine AC hws ?_;rw [AM] at hF;refine Bm ?_;refine Abl (j := 0) ok rfl rfl hi82 hF (fun _ ok hF => ?_) (fun hF => ?_)
    ·refine XW ?_;refine IM ?_;refine Aee rfl rfl ?_;refine U2 ?_;refine Bm ?_;refine XW ?_;refine Jj ?_;refine Ho ?_;refine Mm ?_;refine Ue ?_;refine Q8 ?_;refine A3 rfl hF (fun hb89 hF => ?_) fun hb89 hF => ?_
     ·refine Hj ?_;replace hF := hG86 _ (Aq hF);exact rt
     ·refine Dx ?_;refine Mm ?_;refine cl (L_DecodeRuneInString_ok _ hF fun x90 _ hF => ?_);refine Vz ?_;refine ZO ?_;refine Kj rfl AQ (FY rfl) PN hF (fun x91 _ hF => ?_);refine Tw ?_;refine IM ?_;refine Qf ?_;refine Q8 ?_;refine A3 rfl hF (fun hb92 hF => ?_) fun hb92 hF => ?_
      ·refine E9 ?_;refine ih88 (x91, (a84 + wdS x52 a84)) _ hF ?_;exact ⟨oy ok, wy ok⟩
      ·refine Dx ?_;refine AF hF (fun (v : Int × Int) s' => match v with | (a94, a95) => Zs h [(i82, .iter x52 (a84 + wdS x52 a84))] 123 [(1, .str x91), (10, .int .i32 a94), (11, .int .i32 a95), (67, .ptr i82 0)] s') (fun J96 hF => ?_) ?_
       ·refine Qf ?_;refine Ps ?_;refine A3 rfl hF (fun hb97 hF => ?_) fun hb97 hF => ?_
        ·refine SN ?_;refine FI ?_;refine Rg ?_;exact ⟨(x90.1, (rnS x52 a84)), hF, oy ok, wy ok⟩
        ·refine Dx ?_;exact ⟨((rnS x52 a84), x90.1), hF, oy ok, wy ok⟩
       ·rintro ⟨a94, a95⟩ s' hF ⟨ok, hws⟩;refine AC hws ?_;refine JE ?_;refine Ps ?_;refine A3 rfl hF (fun hb98 hF => ?_) fun hb98 hF => ?_
        ·refine JE ?_;refine S8 ?_;refine CZ ?_;refine A1 (b := (decide (65 <= a94))) 3 97 (.bool ((decide (65 <= a94)) && (decide (a94 <= 90)))) (fun hb99 => ?_) (fun hb99 => ?_) ?_
         ·refine Ss ?_;exact th
         ·refine HI ?_;exact th
         refine CZ ?_;refine A1 (b := ((decide (65 <= a94)) && (decide (a94 <= 90)))) 6 104 (.bool (((decide (65 <= a94)) && (decide (a94 <= 90))) && (a95 == (IntKind.wrap .i32 ((IntKind.wrap .i32 (a94 + 97)) - 65))))) (fun hb100 => ?_) (fun hb100 => ?_) ?_
         ·refine MZ ?_;refine RD ?_;refine P1 ?_;refine Bj ?_;refine MU ?_;refine Tt ?_;exact th
         ·refine Ih ?_;refine Ti ?_;exact th
         refine A8 ?_;refine A3 rfl hF (fun hb101 hF => ?_) fun hb101 hF => ?_
         ·refine E9 ?_;refine ih88 (x91, (a84 + wdS x52 a84)) _ hF ?_;exact ⟨oy ok, wy ok⟩
         ·refine Vj ?_;replace hF := hG86 _ (Aq hF);exact rt
        ·refine Dx ?_;refine Gq ?_;refine cl (L_SimpleFold_ok _ hF fun x102 _ hF => ?_);refine Jj ?_;refine AF hF (fun (a107 : Int) s' => Zs h [(i82, .iter x52 (a84 + wdS x52 a84))] 123 [(1, .str x91), (11, .int .i32 a95), (13, .int .i32 a107), (67, .ptr i82 0)] s') (fun J108 hF => ?_) ?_
         ·refine Lw ?_;refine Bq (σ := Int) hF (fun (a109 : Int) s' => Zs h [(i82, .iter x52 (a84 + wdS x52 a84))] 123 [(1, .str x91), (10, .int .i32 a94), (11, .int .i32 a95), (13, .int .i32 a109), (67, .ptr i82 0)] s') ?_ ?_
          ·exact ⟨oy ok, wy ok⟩
          ·rintro G110 hG111 rec112 a109 s' ih113 hF ⟨ok, hws⟩;refine AC hws ?_;rw [Bo] at hF;refine Ye ?_;refine Xc ?_;refine A1 (b := (a109 != a94)) 4 114 (.bool ((a109 != a94) && (decide (a109 < a95)))) (fun hb114 => ?_) (fun hb114 => ?_) ?_
           ·refine MZ ?_;refine RD ?_;refine Ys ?_;refine Gn ?_;exact th
           ·refine OZ ?_;exact th
           refine A8 ?_;refine A3 rfl hF (fun hb115 hF => ?_) fun hb115 hF => ?_
           ·refine U2 ?_;refine SN ?_;refine cl (L_SimpleFold_ok _ hF fun x116 _ hF => ?_);refine Jj ?_;refine ih113 x116 _ hF ?_;exact ⟨oy ok, wy ok⟩
           ·refine E9 ?_;replace hF := hG111 _ (Aq hF);exact ⟨a109, hF, oy ok, wy ok⟩
         ·rintro a107 s' hF ⟨ok, hws⟩;refine AC hws ?_;refine Ye ?_;refine Q8 ?_;refine A3 rfl hF (fun hb117 hF => ?_) fun hb117 hF => ?_
          ·refine E9 ?_;refine ih88 (x91, (a84 + wdS x52 a84)) _ hF ?_;exact ⟨oy ok, wy ok⟩
          ·refine Vj ?_;replace hF := hG86 _ (Aq hF);exact rt
    ·refine XW ?_;refine IM ?_;refine Aea rfl rfl ?_;refine E9 ?_;replace hF := hG86 _ (Aq hF);exact ⟨a83, hF, oy ok, wy ok⟩
  ·rintro a80 s' hF ⟨ok, hws⟩;refine AC hws ?_;refine Mm ?_;refine Ue ?_;refine Aaf ?_;exact rt
 ·intro J50 hJ51 hF;refine Tk ?_;refine AF hF (fun (_ : Unit) s' => Zs h [] 123 [(0, .str p0), (1, .str p1)] s') (fun J142 hF => ?_) ?_
  ·refine Mm ?_;refine Ue ?_;refine ZN ?_;refine Agf rfl rfl ?_;refine Jj ?_;refine Lw ?_;refine Bq (σ := Int) hF (fun (a143 : Int) s' => Zs h [] 123 [(0, .str p0), (1, .str p1), (5, .int .i64 a143), (6, .int .i64 (if (p1.length : Int) < (p0.length : Int) then (p1.length : Int) else (p0.length : Int)))] s') ?_ ?_
   ·exact ⟨oy ok, wy ok⟩
   ·rintro G144 hG145 rec146 a143 s' ih147 hF ⟨ok, hws⟩;refine AC hws ?_;rw [AL] at hF;refine Ye ?_;refine Ps ?_;refine A3 rfl hF (fun hb148 hF => ?_) fun hb148 hF => ?_
    ·refine Dx ?_;refine AF hF (fun (_ : Unit) s' => Zs h [] 123 [(0, .str p0), (1, .str p1), (5, .int .i64 a143), (6, .int .i64 (if (p1.length : Int) < (p0.length : Int) then (p1.length : Int) else (p0.length : Int)))] s') (fun J160 hF => ?_) ?_
     ·refine Lw ?_;refine ZO ?_;refine Gt rfl rfl AQ hF (fun x161 _ hF => ?_);refine Jj ?_;refine ZO ?_;refine Gt rfl rfl AQ hF (fun x162 _ hF => ?_);refine Jj ?_;refine Ye ?_;refine DG rfl rfl (Aif ..) ?_;refine Sd ?_;refine A8 ?_;refine A3 rfl hF (fun hb163 hF => ?_) fun hb163 hF => ?_
      ·refine OO ?_
       repeat (first | with_reducible refine Exit.sel_goto ?_ | with_reducible refine Exit.blk_goto ?_)
       refine LE rfl ?_;replace hF := hG145 _ (Aq hF);refine hJ51 a143 _ hF ?_;exact ⟨oy ok, wy ok⟩
      ·refine PL ?_;refine Qf ?_;refine Q8 ?_;refine A3 rfl hF (fun hb164 hF => ?_) fun hb164 hF => ?_
       ·refine E9 ?_;exact ⟨(), hF, oy ok, wy ok⟩
       ·refine Dx ?_;refine AF hF (fun (v : Int × Int) s' => match v with | (a166, a167) => Zs h [] 123 [(0, .str p0), (1, .str p1), (5, .int .i64 a143), (6, .int .i64 (if (p1.length : Int) < (p0.length : Int) then (p1.length : Int) else (p0.length : Int))), (7, .int .u8 a166), (8, .int .u8 a167)] s') (fun J168 hF => ?_) ?_
        ·refine Qf ?_;refine Ps ?_;refine A3 rfl hF (fun hb169 hF => ?_) fun hb169 hF => ?_
         ·refine SN ?_;refine FI ?_;refine Rg ?_;exact ⟨((x162.toNat : Int), (x161.toNat : Int)), hF, oy ok, wy ok⟩
         ·refine Dx ?_;exact ⟨((x161.toNat : Int), (x162.toNat : Int)), hF, oy ok, wy ok⟩
        ·rintro ⟨a166, a167⟩ s' hF ⟨ok, hws⟩;refine AC hws ?_;refine JE ?_;refine S8 ?_;refine CZ ?_;refine A1 (b := (decide (65 <= a166))) 3 47 (.bool ((decide (65 <= a166)) && (decide (a166 <= 90)))) (fun hb170 => ?_) (fun hb170 => ?_) ?_
         ·refine Ss ?_;exact th
         ·refine HI ?_;exact th
         refine CZ ?_;refine A1 (b := ((decide (65 <= a166)) && (decide (a166 <= 90)))) 6 54 (.bool (((decide (65 <= a166)) && (decide (a166 <= 90))) && (a167 == (IntKind.wrap .u8 ((IntKind.wrap .u8 (a166 + 97)) - 65))))) (fun hb171 => ?_) (fun hb171 => ?_) ?_
         ·refine MZ ?_;refine RD ?_;refine P1 ?_;refine Bj ?_;refine MU ?_;refine Tt ?_;exact th
         ·refine Ih ?_;refine Ti ?_;exact th
         refine A8 ?_;refine A3 rfl hF (fun hb172 hF => ?_) fun hb172 hF => ?_
         ·refine E9 ?_;exact ⟨(), hF, oy ok, wy ok⟩
         ·refine Vj ?_;replace hF := hG145 _ (Aq hF);exact rt
     ·rintro ⟨⟩ s' hF ⟨ok, hws⟩;refine AC hws ?_;refine S9 ?_;refine ih147 (IntKind.wrap .i64 (a143 + 1)) _ hF ?_;exact ⟨oy ok, wy ok⟩
    ·refine E9 ?_;replace hF := hG145 _ (Aq hF);exact ⟨(), hF, oy ok, wy ok⟩
  ·rintro ⟨⟩ s' hF ⟨ok, hws⟩;refine AC hws ?_;refine Ho ?_;refine Mm ?_;refine Ue ?_;refine ZN ?_;refine Aaf ?_;exact rt
theorem K6 (p0 : Ac) {G : Bool -> Prop} (h : Heap) (hF : OptP (BT p0) G) : CallsA prog 72 [.agg (Ad p0)] h fun d h' => ∃ r, G r /\ d = .bool r /\ h' = h := by
 refine CallsA.ret ?_;refine AO func72 rfl Af9 ntmps72 rfl (fun ok => ?_);rw [BT] at hF;refine Bm ?_;refine Cc (v := .agg (Ad p0)) (cs := Ad p0) rfl rfl rfl rfl ?_;refine OY ?_;refine S_a (v := .fn (.func 110) [] []) rfl ?_;refine Zz ?_;refine AS rfl Bn Av (by rw [Ab]; rfl) ?_;refine AE rfl (AJ BZ Av (congrArg (List.drop 0) (Ab p0))) ?_;refine W5 ?_;refine A3 rfl hF (fun hb1 hF => ?_) fun hb1 hF => ?_
 ·refine Bm ?_;refine AS rfl D5 AA (by rw [Ab]; rfl) ?_;refine AE rfl (A6 (vs := Ar p0.Name) BI AA (by rw [Ab]; rfl) (by rw [Ab]; rfl)) ?_;refine cl (B1 (fun _ h hF => G2 _ h hF) _ hF fun x2 _ hF => ?_);refine CZ ?_;refine Bd 5 16 hF (fun J4 hb3 hF => ?_) (fun J4 hb3 hF => ?_) (fun v5 hF => ?_)
  ·refine S0 ?_;exact tw
  ·refine DZ ?_;refine AS rfl Bu A0 (by rw [Ab]; rfl) ?_;refine Bj ?_;refine AE rfl (AJ C6 A0 (congrArg (List.drop 3) (Ab p0))) ?_;refine Bj ?_;refine S_m (v := .fn (.func 110) [] []) rfl ?_;refine Bj ?_;refine cl (BM (f1 := 110) (fi1 := []) (ca1 := []) (fun z0 G h hF => Ka z0 h hF) _ hF fun x6 _ hF => ?_);refine Jv ?_;exact tw
  ·refine Ft ?_;exact rt
 ·refine Qh ?_;refine A3 rfl hF (fun hb7 hF => ?_) fun hb7 hF => ?_
  ·refine Bm ?_;refine AS rfl D5 AA (by rw [Ab]; rfl) ?_;refine AS rfl HA Ax (by rw [Ab]; rfl) ?_;refine AE rfl (AJ Bw Ax (congrArg (List.drop 1) (congrArg (List.drop 1) (Ab p0)))) ?_;refine cl (B1 (fun _ h hF => KA _ h hF) _ hF fun x8 _ hF => ?_);refine Vi ?_;refine Bd 5 29 hF (fun J10 hb9 hF => ?_) (fun J10 hb9 hF => ?_) (fun v11 hF => ?_)
   ·refine S0 ?_;exact tw
   ·refine DZ ?_;refine AS rfl D5 AA (by rw [Ab]; rfl) ?_;refine Bj ?_;refine AS rfl HA Ax (by rw [Ab]; rfl) ?_;refine Bj ?_;refine AE rfl (AJ Bw Ax (congrArg (List.drop 1) (congrArg (List.drop 1) (Ab p0)))) ?_;refine Bj ?_;refine cl (B1 (fun _ h hF => I5 _ _ h hF) _ hF fun x12 _ hF => ?_);refine Jv ?_;exact tw
   ·refine Ft ?_;exact rt
  ·refine Vj ?_;exact rt
theorem KR (p0 : Ak) {G : Bool -> Prop} (h : Heap) (hF : OptP (D2 p0) G) : CallsA prog 115 [.agg (Ao p0)] h fun d h' => ∃ r, G r /\ d = .bool r /\ h' = h := by
 refine CallsA.ret ?_;refine AO func115 rfl Ab5 ntmps115 rfl (fun ok => ?_);rw [D2] at hF;refine Bm ?_;refine Cc rfl rfl rfl rfl ?_;refine OY ?_;refine AS rfl HM Ax rfl ?_;refine Q7 ?_;refine cl (B1 (fun _ h hF => IF _ h hF) _ hF fun x1 _ hF => ?_);refine Ft ?_;exact rt
theorem Mq (p0 : Ac) {G : Bool -> Prop} (h : Heap) (hF : OptP (CE p0) G) : CallsA prog 73 [.agg (Ad p0)] h fun d h' => ∃ r, G r /\ d = .bool r /\ h' = h := by
 refine CallsA.ret ?_;refine AO func73 rfl Agq ntmps73 rfl (fun ok => ?_);rw [CE] at hF;refine Bm ?_;refine Cc (v := .agg (Ad p0)) (cs := Ad p0) rfl rfl rfl rfl ?_;refine OY ?_;refine AS rfl Cu Ax (by rw [Ab]; rfl) ?_;refine AE rfl (AJ Bw Ax (congrArg (List.drop 5) (Ab p0))) ?_;refine cl (B1 (fun _ h hF => IF _ h hF) _ hF fun x1 _ hF => ?_);refine CZ ?_;refine Bd 4 10 hF (fun J3 hb2 hF => ?_) (fun J3 hb2 hF => ?_) (fun v4 hF => ?_)
 ·refine L0 ?_;exact tw
 ·refine DZ ?_;refine AS rfl Bu A0 (by rw [Ab]; rfl) ?_;refine Bj ?_;refine AE rfl (AJ C6 A0 (congrArg (List.drop 3) (Ab p0))) ?_;refine Bj ?_;refine cl (BM (f1 := 115) (fi1 := []) (ca1 := []) (fun z0 G h hF => KR z0 h hF) _ hF fun x5 _ hF => ?_);refine Jv ?_;exact tw
 ·refine Ft ?_;exact rt
theorem Gp (p0 : List By8) {G : Bool -> Prop} (h : Heap) (hF : OptP (DO p0) G) : CallsA prog 139 [.str p0] h fun d h' => ∃ r, G r /\ d = .bool r /\ h' = h := by
 refine CallsA.ret ?_;refine AO func139 rfl Adw ntmps139 rfl (fun ok => ?_);rw [DO] at hF;refine Z4 ?_;refine RQ ?_;refine YW ?_;refine Ft ?_;exact rt
theorem FO (p0 : List By8) (p1 : List By8) {G : Int -> Prop} (h : Heap) (hF : OptP (CL p0 p1) G) : CallsA prog 97 [.str p0, .str p1] h fun d h' => ∃ r, G r /\ d = .int .i64 r /\ h' = h := by
 refine CallsA.ret ?_;refine AO func97 rfl Afb ntmps97 rfl (fun ok => ?_);rw [CL] at hF;refine Tk ?_;refine Mm ?_;refine cl (B1 (fun _ h hF => Gp _ h hF) _ hF fun x1 _ hF => ?_);refine Fm ?_;refine Mm ?_;refine cl (B1 (fun _ h hF => Gp _ h hF) _ hF fun x2 _ hF => ?_);refine ZU ?_;refine XT ?_;refine A3 rfl hF (fun hb3 hF => ?_) fun hb3 hF => ?_
 ·refine X5 ?_;refine XT ?_;refine A3 rfl hF (fun hb4 hF => ?_) fun hb4 hF => ?_
  ·refine OC ?_;exact rt
  ·refine Aec ?_;exact rt
 ·refine PL ?_;refine Bm ?_;refine XT ?_;refine A3 rfl hF (fun hb5 hF => ?_) fun hb5 hF => ?_
  ·refine OC ?_;exact rt
  ·refine PL ?_;refine Mm ?_;refine RQ ?_;refine DG rfl rfl T5 ?_;refine A8 ?_;refine A3 rfl hF (fun hb6 hF => ?_) fun hb6 hF => ?_
   ·refine OC ?_;exact rt
   ·refine PL ?_;refine Mm ?_;refine RQ ?_;refine DG rfl rfl Ac2 ?_;refine A8 ?_;refine A3 rfl hF (fun hb7 hF => ?_) fun hb7 hF => ?_
    ·refine OC ?_;exact rt
    ·refine Aec ?_;exact rt
theorem Nl (p0 : List Int) {G : Int -> Prop} (h : Heap) (hF : OptP (Gb p0) G) : CallsA prog 96 [.sl 1 (List.map B2 p0) 0] h fun d h' => ∃ r, G r /\ d = .int .i64 r /\ h' = h := by
 refine CallsA.ret ?_;refine AO func96 rfl Ae0 ntmps96 rfl (fun ok => ?_);rw [Gb] at hF;refine Tk ?_;refine Tk ?_;refine AF hF (fun (_ : Unit) s' => Zs h [] 18 [(3, .int .i64 0)] s') (fun J5 hF => ?_) ?_
 ·refine Zi ?_;refine NS ?_;refine Bq (σ := Int) hF (fun (a6 : Int) s' => Zs h [] 18 [(3, .int .i64 0), (6, .sl 1 (List.map B2 p0) 0), (7, .int .i64 (p0.length : Int)), (8, .int .i64 a6)] s') ?_ ?_
  ·exact ⟨oy ok, wy ok⟩
  ·rintro G7 hG8 rec9 a6 s' ih10 hF ⟨ok, hws⟩;refine AC hws ?_;rw [BW] at hF;refine Iq ?_;refine A3 rfl hF (fun hb11 hF => ?_) fun hb11 hF => ?_
   ·refine X1 ?_;refine Bm ?_;refine FJ rfl rfl Fy Av hF (fun x12 _ hF => ?_);refine Zb ?_;refine Jj ?_;refine Qf ?_;refine QM ?_;refine A3 rfl hF (fun hb13 hF => ?_) fun hb13 hF => ?_
    ·refine YI ?_;replace hF := hG8 _ (Aq hF);exact rt
    ·refine Qi ?_;refine ih10 (IntKind.wrap .i64 (a6 + 1)) _ hF ?_;exact ⟨oy ok, wy ok⟩
   ·refine E9 ?_;replace hF := hG8 _ (Aq hF);exact ⟨(), hF, oy ok, wy ok⟩
 ·rintro ⟨⟩ s' hF ⟨ok, hws⟩;refine AC hws ?_;refine YI ?_;exact rt
theorem Nm (p0 : Aa) (p1 : Aa) {G : Int -> Prop} (h : Heap) (hF : OptP (F6 p0 p1) G) : CallsA prog 58 [.agg (Ar p0), .agg (Ar p1)] h fun d h' => ∃ r, G r /\ d = .int .i64 r /\ h' = h := by
 refine CallsA.ret ?_;refine AO func58 rfl Afn ntmps58 rfl (fun ok => ?_);rw [F6] at hF;refine Bm ?_;refine Cc rfl rfl rfl rfl ?_;refine Cc rfl rfl rfl rfl ?_;refine Jj ?_;refine Ho ?_;refine R9 (mdl [(6, 3), (8, 3), (11, 3), (13, 3)]) [0, 1, 2, 3, 5, 6, 7, 8, 4, 9, 10, 11, 12] [_, _, _, _, _, _, _, _, _, _, _, _, _] (by kernel_rfl) rfl rfl (by kernel_rfl) ?_;refine Acy ?_;refine Q7 ?_;refine Acy ?_;refine Q7 ?_;refine ZI ?_;refine Q7 ?_;refine ZI ?_;refine Q7 ?_;refine cl (B1 (fun _ h hF => FO _ _ h hF) _ hF fun x1 _ hF => ?_);refine cl (B1 (fun _ h hF => FO _ _ h hF) _ hF fun x2 _ hF => ?_);refine De (cs := [.int .i64 x1, .int .i64 x2]) (es := (List.map B2 [x1, x2])) rfl ET rfl (by kernel_rfl) (by kernel_rfl) ?_;refine cl (B1 (fun _ h hF => Nl _ h hF) _ hF fun x3 _ hF => ?_);refine XS ?_;exact rt
theorem Kt (p0 : Ac) {G : Bool -> Prop} (h : Heap) (hF : OptP (Bs p0) G) : CallsA prog 74 [.agg (Ad p0)] h fun d h' => ∃ r, G r /\ d = .bool r /\ h' = h := by
 refine CallsA.ret ?_;refine AO func74 rfl Aha ntmps74 rfl (fun ok => ?_);rw [Bs] at hF;refine Bm ?_;refine Cc (v := .agg (Ad p0)) (cs := Ad p0) rfl rfl rfl rfl ?_;refine Fm ?_;refine AF hF (fun (_ : Unit) s' => Zs h [] 30 [] s') (fun J15 hF => ?_) ?_
 ·refine Bm ?_;refine AS rfl Bu A0 (by rw [Ab]; rfl) ?_;refine AE rfl (AJ C6 A0 (congrArg (List.drop 3) (Ab p0))) ?_;refine Z0 ?_;refine Bq (σ := Int) hF (fun (a16 : Int) s' => Zs h [] 30 [(1, .iptr (Ad p0)), (6, .int .i64 (p0.Attrs.length : Int)), (7, .int .i64 a16)] s') ?_ ?_
  ·exact ⟨oy ok, wy ok⟩
  ·rintro G17 hG18 rec19 a16 s' ih20 hF ⟨ok, hws⟩;refine AC hws ?_;rw [BX] at hF;refine Iq ?_;refine A3 rfl hF (fun hb21 hF => ?_) fun hb21 hF => ?_
   ·refine Xd ?_;refine AF hF (fun (a27 : Bool) s' => Zs h [] 30 [(1, .iptr (Ad p0)), (6, .int .i64 (p0.Attrs.length : Int)), (7, .int .i64 a16), (28, .bool a27)] s') (fun J28 hF => ?_) ?_
    ·refine H8 (mdl [(14, 3), (19, 3), (21, 3), (25, 3)]) (by kernel_rfl) (by kernel_rfl) ?_;refine FI ?_;refine VI ?_;refine CZ ?_;refine Tv (b := (decide (0 < a16))) hF (fun hb29 hF => ?_) (fun hb30 hF => ?_)
     ·refine DZ ?_;refine AS rfl Bu A0 (by rw [Ab]; rfl) ?_;refine Bj ?_;refine AE rfl (AJ C6 A0 (congrArg (List.drop 3) (Ab p0))) ?_;refine YK ?_;refine VO ?_;refine FJ rfl rfl FF Ds hF (fun x31 _ hF => ?_);refine Bj ?_;refine Xy ?_;refine Bj ?_;refine AE rfl (A6 (vs := Ar x31.Name) BI AA rfl rfl) ?_;refine Bj ?_;refine AS rfl Bu A0 (by rw [Ab]; rfl) ?_;refine Bj ?_;refine AE rfl (AJ C6 A0 (congrArg (List.drop 3) (Ab p0))) ?_;refine YK ?_;refine FJ rfl rfl FF Ds hF (fun x32 _ hF => ?_);refine Bj ?_;refine Xy ?_;refine Bj ?_;refine AE rfl (A6 (vs := Ar x32.Name) BI AA rfl rfl) ?_;refine Bj ?_;refine cl (B1 (fun _ h hF => Nm _ _ h hF) _ hF fun x33 _ hF => ?_);refine Bj ?_;refine Sd ?_;refine Gn ?_;exact ⟨(decide (0 <= x33)), hF, oy ok, wy ok⟩
     ·refine S6 ?_;refine Ih ?_;refine OZ ?_;exact ⟨false, hF, oy ok, wy ok⟩
    ·rintro a27 s' hF ⟨ok, hws⟩;refine AC hws ?_;refine A3 rfl hF (fun hb34 hF => ?_) fun hb34 hF => ?_
     ·refine Hj ?_;replace hF := hG18 _ (Aq hF);exact rt
     ·refine Qi ?_;refine ih20 (IntKind.wrap .i64 (a16 + 1)) _ hF ?_;exact ⟨oy ok, wy ok⟩
   ·refine E9 ?_;replace hF := hG18 _ (Aq hF);exact ⟨(), hF, oy ok, wy ok⟩
 ·rintro ⟨⟩ s' hF ⟨ok, hws⟩;refine AC hws ?_;refine Hj ?_;exact rt
theorem G3 (p0 : List By8) (p1 : List By8) {G : Bool -> Prop} (h : Heap) (hF : OptP (CK p0 p1) G) : CallsA prog 150 [.str p0, .str p1] h fun d h' => ∃ r, G r /\ d = .bool r /\ h' = h := by
 refine CallsA.ret ?_;refine AO func150 rfl Acz ntmps150 rfl (fun ok => ?_);rw [CK] at hF;refine Z4 ?_;refine Ue ?_;refine ZN ?_;refine Ael ?_;refine Bd 10 20 hF (fun J2 hb1 hF => ?_) (fun J2 hb1 hF => ?_) (fun v3 hF => ?_)
 ·refine N1 ?_;refine Aaa ?_;refine Wc ?_;refine Aaa ?_;refine Wc ?_;refine VO ?_;refine Kj rfl AQ (FY rfl) PN hF (fun x4 _ hF => ?_);refine Bj ?_;refine Aaa ?_;refine Mg ?_;refine Gn ?_;exact tw
 ·refine S6 ?_;refine Ti ?_;exact tw
 ·refine Ft ?_;exact rt
theorem IV (p0 : List By8) (p1 : List By8) {G : Bool -> Prop} (h : Heap) (hF : OptP (Ck p0 p1) G) : CallsA prog 117 [.str p0, .str p1] h fun d h' => ∃ r, G r /\ d = .bool r /\ h' = h := by
 refine CallsA.ret ?_;refine AO func117 rfl Ad4 ntmps117 rfl (fun ok => ?_);rw [Ck] at hF;refine Z4 ?_;refine RQ ?_;refine cl (B1 (fun _ h hF => G3 _ _ h hF) _ hF fun x1 _ hF => ?_);refine Ft ?_;exact rt
theorem Ke (p0 : Ac) {G : Bool -> Prop} (h : Heap) (hF : OptP (BL p0) G) : CallsA prog 75 [.agg (Ad p0)] h fun d h' => ∃ r, G r /\ d = .bool r /\ h' = h := by
 refine CallsA.ret ?_;refine AO func75 rfl Af0 ntmps75 rfl (fun ok => ?_);rw [BL] at hF;refine Bm ?_;refine Cc (v := .agg (Ad p0)) (cs := Ad p0) rfl rfl rfl rfl ?_;refine Fm ?_;refine AF hF (fun (_ : Unit) s' => Zs h [] 71 [(1, .iptr (Ad p0))] s') (fun J11 hF => ?_) ?_
 ·refine Bm ?_;refine AS rfl BS Bg (by rw [Ab]; rfl) ?_;refine AE rfl (AJ Do Bg (congrArg (List.drop 4) (Ab p0))) ?_;refine Tl ?_;refine Bq (σ := Int) hF (fun (a12 : Int) s' => Zs h [] 71 [(1, .iptr (Ad p0)), (6, .sl 6 (List.map Ad p0.Kids) 0), (7, .int .i64 (p0.Kids.length : Int)), (8, .int .i64 a12)] s') ?_ ?_
  ·exact ⟨oy ok, wy ok⟩
  ·rintro G13 hG14 rec15 a12 s' ih16 hF ⟨ok, hws⟩;refine AC hws ?_;rw [BU] at hF;refine Iq ?_;refine A3 rfl hF (fun hb17 hF => ?_) fun hb17 hF => ?_
   ·refine Ry ?_;refine CB (mdl [(4, 1)]) ?_;refine FI ?_;refine FJ rfl rfl DE Aw hF (fun x18 _ hF => ?_);refine AE rfl (A6 (vs := Ad x18) A7 Aw (by rw [Ab]; rfl) (by rw [Ab]; rfl)) ?_;refine Ca ok rfl DK ?_;intro i19 hi19 ok;refine MW ?_;refine Gd (j := 0) (cs' := [.int .i64 x18.Kind, .str x18.Name.URI, .str x18.Name.Local, .sl 3 (List.map Ao x18.Attrs) 0, .sl 6 (List.map Ad x18.Kids) 0, .str x18.Text]) ok rfl (congrArg D.agg (Ab x18)) rfl hi19 rfl Aw rfl rfl (fun ok => ?_);refine A8 ?_;refine Gq ?_;refine VI ?_;refine CZ ?_;refine A1 (b := (decide (0 < a12))) 4 19 (.bool ((decide (0 < a12)) && (x18.Kind == 3))) (fun hb20 => ?_) (fun hb20 => ?_) ?_
    ·refine DZ ?_;refine ZJ ?_;refine Vp ?_;refine Tt ?_;exact th
    ·refine OZ ?_;exact th
    refine CZ ?_;refine Bd 9 29 hF (fun J22 hb21 hF => ?_) (fun J22 hb21 hF => ?_) (fun v23 hF => ?_)
    ·refine DZ ?_;refine AS rfl BS Bg (by rw [Ab]; rfl) ?_;refine Bj ?_;refine AE rfl (AJ Do Bg (congrArg (List.drop 4) (Ab p0))) ?_;refine YK ?_;refine VO ?_;refine FJ rfl rfl DE Aw hF (fun x24 _ hF => ?_);refine Bj ?_;refine AS rfl Bn Av (by rw [Ab]; rfl) ?_;refine Bj ?_;refine AE rfl (AJ BZ Av (congrArg (List.drop 0) (Ab x24))) ?_;refine Tt ?_;exact tw
    ·refine S6 ?_;refine M0 ?_;exact tw
    ·refine A8 ?_;refine A3 rfl hF (fun hb25 hF => ?_) fun hb25 hF => ?_
     ·refine Hj ?_;replace hF := hG14 _ (Aq hF);exact rt
     ·refine Qi ?_;refine ih16 (IntKind.wrap .i64 (a12 + 1)) _ hF ?_;exact ⟨oy ok, wy ok⟩
   ·refine E9 ?_;replace hF := hG14 _ (Aq hF);exact ⟨(), hF, oy ok, wy ok⟩
 ·rintro ⟨⟩ s' hF ⟨ok, hws⟩;refine AC hws ?_;refine X5 ?_;refine AS rfl Bn Av (by rw [Ab]; rfl) ?_;refine AE rfl (AJ BZ Av (congrArg (List.drop 0) (Ab p0))) ?_;refine W5 ?_;refine A3 rfl hF (fun hb26 hF => ?_) fun hb26 hF => ?_
  ·refine Bm ?_;refine AS rfl Cu Ax (by rw [Ab]; rfl) ?_;refine AE rfl (AJ Bw Ax (congrArg (List.drop 5) (Ab p0))) ?_;refine Mg ?_;refine Ft ?_;exact rt
  ·refine Qh ?_;refine A3 rfl hF (fun hb27 hF => ?_) fun hb27 hF => ?_
   ·refine Bm ?_;refine AS rfl Cu Ax (by rw [Ab]; rfl) ?_;refine AE rfl (AJ Bw Ax (congrArg (List.drop 5) (Ab p0))) ?_;refine cl (L_Contains_ok _ hF fun x28 _ hF => ?_);refine CZ ?_;refine Bd 4 47 hF (fun J30 hb29 hF => ?_) (fun J30 hb29 hF => ?_) (fun v31 hF => ?_)
    ·refine L0 ?_;exact tw
    ·refine DZ ?_;refine AS rfl Cu Ax (by rw [Ab]; rfl) ?_;refine Bj ?_;refine AE rfl (AJ Bw Ax (congrArg (List.drop 5) (Ab p0))) ?_;refine Bj ?_;refine cl (B1 (fun _ h hF => IV _ _ h hF) _ hF fun x32 _ hF => ?_);refine Jv ?_;exact tw
    ·refine CZ ?_;refine Bd 4 52 hF (fun J34 hb33 hF => ?_) (fun J34 hb33 hF => ?_) (fun v35 hF => ?_)
     ·refine L0 ?_;exact tw
     ·refine DZ ?_;refine AS rfl Cu Ax (by rw [Ab]; rfl) ?_;refine Bj ?_;refine AE rfl (AJ Bw Ax (congrArg (List.drop 5) (Ab p0))) ?_;refine Bj ?_;refine cl (L_Contains_ok _ hF fun x36 _ hF => ?_);refine Jv ?_;exact tw
     ·refine Ft ?_;exact rt
   ·refine Qh ?_;refine A3 rfl hF (fun hb37 hF => ?_) fun hb37 hF => ?_
    ·refine AF hF (fun (a45 : Bool) s' => Zs h [] 71 [(2, .bool a45)] s') (fun J46 hF => ?_) ?_
     ·refine H8 (mdl [(56, 3), (60, 3), (65, 3), (67, 3)]) (by kernel_rfl) (by kernel_rfl) ?_;refine AS rfl Cu Ax (by rw [Ab]; rfl) ?_;refine AE rfl (AJ Bw Ax (congrArg (List.drop 5) (Ab p0))) ?_;refine cl (L_Contains_ok _ hF fun x47 _ hF => ?_);refine CZ ?_;refine Tv (b := x47) hF (fun hb48 hF => ?_) (fun hb49 hF => ?_)
      ·refine Rw ?_;refine XX ?_;refine CZ ?_;refine UH ?_;refine X8 ?_;refine QE (v := .bool _) rfl rfl rfl ?_;refine Fm ?_;exact ⟨true, hF, oy ok, wy ok⟩
      ·refine DZ ?_;refine AS rfl Cu Ax (by rw [Ab]; rfl) ?_;refine Bj ?_;refine AE rfl (AJ Bw Ax (congrArg (List.drop 5) (Ab p0))) ?_;refine Bj ?_;refine cl (L_Contains_ok _ hF fun x50 _ hF => ?_);refine A8 ?_;refine W8 ?_;refine CZ ?_;refine Tv (b := x50) hF (fun hb51 hF => ?_) (fun hb52 hF => ?_)
       ·refine Ih ?_;refine Nj ?_;refine XX ?_;refine Fm ?_;exact ⟨true, hF, oy ok, wy ok⟩
       ·refine DZ ?_;refine AS rfl Cu Ax (by rw [Ab]; rfl) ?_;refine Bj ?_;refine AE rfl (AJ Bw Ax (congrArg (List.drop 5) (Ab p0))) ?_;refine Bj ?_;refine AS rfl Cu Ax (by rw [Ab]; rfl) ?_;refine Bj ?_;refine AE rfl (AJ Bw Ax (congrArg (List.drop 5) (Ab p0))) ?_;refine Bj ?_;refine cl (L_TrimLeft_ok _ hF fun x53 _ hF => ?_);refine Bj ?_;refine YW ?_;refine A8 ?_;refine W8 ?_;refine Fm ?_;exact ⟨(!(p0.Text == x53)), hF, oy ok, wy ok⟩
     ·rintro a45 s' hF ⟨ok, hws⟩;refine AC hws ?_;refine Ac6 ?_;exact rt
    ·refine Vj ?_;exact rt
theorem Na (p0 : Ac) {G : Int -> Prop} (h : Heap) (hF : OptP (Da p0) G) : CallsA prog 33 [.agg (Ad p0)] h fun d h' => ∃ r, G r /\ d = .int .i64 r /\ h' = h := by
 refine CallsA.ret ?_;refine AO func33 rfl Ahc ntmps33 rfl (fun ok => ?_);rw [Da] at hF;refine Bm ?_;refine Cc (v := .agg (Ad p0)) (cs := Ad p0) rfl rfl rfl rfl ?_;refine Jj ?_;refine Bm ?_;refine AE rfl (A6 (vs := Ad p0) A7 Aw (by rw [Ab]; rfl) (by rw [Ab]; rfl)) ?_;refine cl (CallsA.ghost (ds := [.agg (Ad p0), .snil]) 1 6 Acu ok rfl fun r3 hr3 ok => Nc (p0 := p0) (p1 := []) (rp1 := r3) h [] hr3 ok hF fun x1 r2 _ hr2 ok hF => ?_);refine WK ?_;refine Eg 3 (v := .sl 6 (List.map Ad x1) 0) (.zero _ _ _) ?_;refine IM ?_;refine Lw ?_;refine Bm ?_;refine AS rfl Bn Av (by rw [Ab]; rfl) ?_;refine AE rfl (AJ BZ Av (congrArg (List.drop 0) (Ab p0))) ?_;refine Xc ?_;refine Bd 3 16 hF (fun J5 hb4 hF => ?_) (fun J5 hb4 hF => ?_) (fun v6 hF => ?_)
 ·refine LD ?_;exact tw
 ·refine Sj ?_;refine cl (Az (f1 := 69) (fi1 := []) (ca1 := []) (fun z0 G h hF => PM z0 h hF) _ hF fun x7 _ hF => ?_);refine Jv ?_;exact tw
 ·refine Fm ?_;refine A3 rfl hF (fun hb8 hF => ?_) fun hb8 hF => ?_
  ·refine OC ?_;exact rt
  ·refine Bm ?_;refine AE rfl (A6 (vs := Ad p0) A7 Aw (by rw [Ab]; rfl) (by rw [Ab]; rfl)) ?_;refine cl (B1 (fun _ h hF => N5 _ _ h hF) _ hF fun x9 _ hF => ?_);refine Fm ?_;refine A3 rfl hF (fun hb10 hF => ?_) fun hb10 hF => ?_
   ·refine OC ?_;exact rt
   ·refine Kd ?_;refine YP ?_;refine MU ?_;refine VI ?_;refine CZ ?_;refine Bd 3 28 hF (fun J12 hb11 hF => ?_) (fun J12 hb11 hF => ?_) (fun v13 hF => ?_)
    ·refine LD ?_;exact tw
    ·refine Sj ?_;refine cl (Az (f1 := 71) (fi1 := []) (ca1 := []) (fun z0 G h hF => Nh z0 h hF) _ hF fun x14 _ hF => ?_);refine Jv ?_;exact tw
    ·refine Fm ?_;refine A3 rfl hF (fun hb15 hF => ?_) fun hb15 hF => ?_
     ·refine OC ?_;exact rt
     ·refine Kd ?_;refine cl (Az (f1 := 72) (fi1 := []) (ca1 := []) (fun z0 G h hF => K6 z0 h hF) _ hF fun x16 _ hF => ?_);refine Fm ?_;refine A3 rfl hF (fun hb17 hF => ?_) fun hb17 hF => ?_
      ·refine OC ?_;exact rt
      ·refine Kd ?_;refine cl (Az (f1 := 73) (fi1 := []) (ca1 := []) (fun z0 G h hF => Mq z0 h hF) _ hF fun x18 _ hF => ?_);refine Fm ?_;refine A3 rfl hF (fun hb19 hF => ?_) fun hb19 hF => ?_
       ·refine OC ?_;exact rt
       ·refine Kd ?_;refine cl (Az (f1 := 74) (fi1 := []) (ca1 := []) (fun z0 G h hF => Kt z0 h hF) _ hF fun x20 _ hF => ?_);refine Fm ?_;refine A3 rfl hF (fun hb21 hF => ?_) fun hb21 hF => ?_
        ·refine OC ?_;exact rt
        ·refine Kd ?_;refine cl (Az (f1 := 75) (fi1 := []) (ca1 := []) (fun z0 G h hF => Ke z0 h hF) _ hF fun x22 _ hF => ?_);refine Fm ?_;refine A3 rfl hF (fun hb23 hF => ?_) fun hb23 hF => ?_
         ·refine OC ?_;exact rt
         ·refine Dx ?_;refine Tk ?_;refine AF hF (fun (a34 : Int) s' => Zs h [] 56 [(4, .int .i64 a34)] s') (fun J35 hF => ?_) ?_
          ·refine Bm ?_;refine AS rfl BS Bg (by rw [Ab]; rfl) ?_;refine AE rfl (AJ Do Bg (congrArg (List.drop 4) (Ab p0))) ?_;refine Tl ?_;refine Bq (σ := Int × Int) hF (fun (v : Int × Int) s' => match v with | (a36, a37) => Zs h [] 56 [(4, .int .i64 a36), (42, .sl 6 (List.map Ad p0.Kids) 0), (43, .int .i64 (p0.Kids.length : Int)), (44, .int .i64 a37)] s') ?_ ?_
           ·exact ⟨oy ok, wy ok⟩
           ·rintro G38 hG39 rec40 ⟨a36, a37⟩ s' ih41 hF ⟨ok, hws⟩;refine AC hws ?_;rw [Bt] at hF;refine Iq ?_;refine A3 rfl hF (fun hb42 hF => ?_) fun hb42 hF => ?_
            ·refine Dx ?_;refine AF hF (fun (a46 : Int) s' => Zs h [] 56 [(4, .int .i64 a46), (42, .sl 6 (List.map Ad p0.Kids) 0), (43, .int .i64 (p0.Kids.length : Int)), (44, .int .i64 a37)] s') (fun J47 hF => ?_) ?_
             ·refine Rh ?_;refine CB (mdl [(6, 1)]) ?_;refine FJ rfl rfl DE Aw hF (fun x48 _ hF => ?_);refine AE rfl (A6 (vs := Ad x48) A7 Aw (by rw [Ab]; rfl) (by rw [Ab]; rfl)) ?_;refine Ca ok rfl DK ?_;intro i49 hi49 ok;refine Gd (j := 0) (cs' := [.int .i64 x48.Kind, .str x48.Name.URI, .str x48.Name.Local, .sl 3 (List.map Ao x48.Attrs) 0, .sl 6 (List.map Ad x48.Kids) 0, .str x48.Text]) ok rfl (congrArg D.agg (Ab x48)) rfl hi49 rfl Aw rfl rfl (fun ok => ?_);refine FL ?_;refine ZJ ?_;refine SI ?_;refine Q8 ?_;refine A3 rfl hF (fun hb50 hF => ?_) fun hb50 hF => ?_
              ·refine S9 ?_;exact ⟨(IntKind.wrap .i64 (a36 + 1)), hF, oy ok, wy ok⟩
              ·refine Dx ?_;exact ⟨a36, hF, oy ok, wy ok⟩
             ·rintro a46 s' hF ⟨ok, hws⟩;refine AC hws ?_;refine MX ?_;refine ih41 (a46, (IntKind.wrap .i64 (a37 + 1))) _ hF ?_;exact ⟨oy ok, wy ok⟩
            ·refine E9 ?_;replace hF := hG39 _ (Aq hF);exact ⟨a36, hF, oy ok, wy ok⟩
          ·rintro a34 s' hF ⟨ok, hws⟩;refine AC hws ?_;refine JE ?_;refine QM ?_;refine A3 rfl hF (fun hb51 hF => ?_) fun hb51 hF => ?_
           ·refine OC ?_;exact rt
           ·refine Aec ?_;exact rt
theorem Nf (p0 : List Af) (p1 : Ai) {G : (List Am) -> Prop} (h : Heap) (hF : OptP (Gh p0 p1) G) : CallsA prog 34 [.sl 7 (List.map Ah p0) 0, .agg (Ap p1)] h fun d h' => ∃ r, G r /\ d = .sl 4 (List.map AW r) 0 /\ h' = h := by
 refine CallsA.ret ?_;refine AO func34 rfl Aex ntmps34 rfl (fun ok => ?_);rw [Gh] at hF;refine Bm ?_;refine Cc rfl rfl rfl rfl ?_;refine S_a (v := .snil) rfl ?_;refine Eg 4 (v := .sl 4 (List.map AW []) 0) (.nil _) ?_;refine FL ?_;refine S_a (v := .snil) rfl ?_;refine JZ 5 4 ok rfl rfl ?_;intro r1 hr1 ok;refine A8 ?_;refine AF hF (fun (a60 : (List Am)) s' => ∃ g61 : Nat, g61 ≠ 0 /\ Zs h [(g61, .room)] 46 [(5, .sl 4 (List.map AW a60) g61)] s') (fun J62 hF => ?_) ?_
 ·refine Aeh ?_;refine NS ?_;refine Bq (σ := (List Am) × Int) hF (fun (v : (List Am) × Int) s' => match v with | (a63, a65) => ∃ g64 : Nat, g64 ≠ 0 /\ Zs h [(g64, .room)] 46 [(3, .iptr (Ap p1)), (5, .sl 4 (List.map AW a63) g64), (10, .sl 7 (List.map Ah p0) 0), (11, .int .i64 (p0.length : Int)), (12, .int .i64 a65)] s') ?_ ?_
  ·exact ⟨r1, hr1, oy ok, wy ok⟩
  ·rintro G66 hG67 rec68 ⟨a63, a65⟩ s' ih69 hF ⟨g64, hg64, ok, hws⟩;refine AC hws ?_;rw [ES] at hF;refine Iq ?_;refine A3 rfl hF (fun hb70 hF => ?_) fun hb70 hF => ?_
   ·refine Dx ?_;refine AF hF (fun (a97 : (List Am)) s' => ∃ g98 : Nat, g98 ≠ 0 /\ Zs h [(g98, .room)] 46 [(3, .iptr (Ap p1)), (5, .sl 4 (List.map AW a97) g98), (10, .sl 7 (List.map Ah p0) 0), (11, .int .i64 (p0.length : Int)), (12, .int .i64 a65)] s') (fun J99 hF => ?_) ?_
    ·refine Rh ?_;refine CB (mdl [(7, 1)]) ?_;refine FJ rfl rfl Dp BB hF (fun x100 _ hF => ?_);refine AE rfl (A6 (vs := Ah x100) EW BB rfl rfl) ?_;refine Ca ok rfl Gr ?_;intro i101 hi101 ok;refine Gd (j := 0) (cs' := [.sl 1 (List.map B2 x100.path) 0, .int .i64 x100.node.Kind, .str x100.node.Name.URI, .str x100.node.Name.Local, .sl 3 (List.map Ao x100.node.Attrs) 0, .sl 6 (List.map Ad x100.node.Kids) 0, .str x100.node.Text]) ok rfl rfl rfl hi101 rfl BB rfl rfl (fun ok => ?_);refine FL ?_;refine Lb 0 7 ok rfl rfl hi101 (fun ok => ?_);refine Aed ?_;refine AS rfl Bu A0 rfl ?_;refine AE rfl (AJ C6 A0 rfl) ?_;refine Z0 ?_;refine Bq (σ := (List Am) × Int) hF (fun (v : (List Am) × Int) s' => match v with | (a104, a106) => ∃ g105 : Nat, g105 ≠ 0 /\ Zs h [(g105, .room)] 46 [(3, .iptr (Ap p1)), (5, .sl 4 (List.map AW a104) g105), (7, .iptr (Ah x100)), (10, .sl 7 (List.map Ah p0) 0), (11, .int .i64 (p0.length : Int)), (12, .int .i64 a65), (18, .sl 3 (List.map Ao x100.node.Attrs) 0), (19, .int .i64 (x100.node.Attrs.length : Int)), (20, .int .i64 a106)] s') ?_ ?_
     ·exact ⟨g64, hg64, oy ok, wy ok⟩
     ·rintro G107 hG108 rec109 ⟨a104, a106⟩ s' ih110 hF ⟨g105, hg105, ok, hws⟩;refine AC hws ?_;rw [D3] at hF;refine Iq ?_;refine A3 rfl hF (fun hb111 hF => ?_) fun hb111 hF => ?_
      ·refine Dx ?_;refine AF hF (fun (a120 : (List Am)) s' => ∃ g121 : Nat, g121 ≠ 0 /\ Zs h [(g121, .room)] 46 [(3, .iptr (Ap p1)), (5, .sl 4 (List.map AW a120) g121), (7, .iptr (Ah x100)), (10, .sl 7 (List.map Ah p0) 0), (11, .int .i64 (p0.length : Int)), (12, .int .i64 a65), (18, .sl 3 (List.map Ao x100.node.Attrs) 0), (19, .int .i64 (x100.node.Attrs.length : Int)), (20, .int .i64 a106)] s') (fun J122 hF => ?_) ?_
       ·refine Rh ?_;refine CB (mdl [(9, 1)]) ?_;refine FJ rfl rfl FF Ds hF (fun x123 _ hF => ?_);refine AE rfl (A6 (vs := Ao x123) KD Ds rfl rfl) ?_;refine Ca ok rfl Jo ?_;intro i124 hi124 ok;refine Gd (j := 0) (cs' := [.str x123.Name.URI, .str x123.Name.Local, .str x123.Value]) ok rfl rfl rfl hi124 rfl Ds rfl rfl (fun ok => ?_);refine FL ?_;refine AS rfl HN Ax rfl ?_;refine Q7 ?_;refine Mg ?_;refine CZ ?_;refine A1 (b := (p1.test == [42])) 6 33 (.bool ((p1.test == [42]) || ((x123.Name.URI == p1.name.URI) && ((x123.Name.Local == p1.name.Local) && true)))) (fun hb125 => ?_) (fun hb125 => ?_) ?_
        ·refine Ih ?_;refine VA ?_;exact th
        ·refine DZ ?_;refine Aeu ?_;refine Bj ?_;refine Cx (j := 0) ok rfl rfl rfl hi124 (A6 (vs := Ar x123.Name) BI AA rfl rfl) ?_;refine Bj ?_;refine AS rfl Hk AA rfl ?_;refine Bj ?_;refine AE rfl (A6 (vs := Ar p1.name) BI AA rfl rfl) ?_;refine Bj ?_;refine DG rfl rfl (Tb (b := ((x123.Name.URI == p1.name.URI) && ((x123.Name.Local == p1.name.Local) && true))) D1 DV (by simp only [Ar, EM, Fo, IC, DV, D1, Bw, Ax, AQ, Bw, Ax, AQ, Ge, Gg, Fs, Gi, Fr, Fl, EQ, List.drop_zero, List.drop_succ_cons, bi, bj, List.take_succ_cons, List.take_zero, Option.isSome_some, if_true, ba, Option.map_some, Nat.reduceAdd, Nat.reduceLeDiff])) ?_;refine Jv ?_;exact th
        refine A8 ?_;refine A3 rfl hF (fun hb126 hF => ?_) fun hb126 hF => ?_
        ·refine Aeo ?_;show AN prog (mdl []) true #[] [] _ _;refine Lb 0 9 ok rfl rfl hi124 (fun ok => ?_);refine A8 ?_;refine R9 (mdl [(42, 2), (36, 3), (39, 3)]) [0, 1, 2, 4, 5, 3, 6, 7, 8, 9] [_, _, _, _, _, _, _, _, _, _] (by kernel_rfl) rfl rfl (by kernel_rfl) ?_;refine M8 ?_;refine W4 ?_;refine ZX ?_;refine Xy ?_;refine AE rfl (A6 (vs := Ar x123.Name) BI AA rfl rfl) ?_;refine cl (L_CloneInts_ok _ hF fun x129 _ hF => ?_);refine DD (v := .agg (AW (⟨x129, true, x123.Name⟩ : Am))) (GO Ru RF rfl) ?_;refine De (cs := [.sl 1 (List.map B2 (⟨x129, true, x123.Name⟩ : Am).Steps) 0, .bool (⟨x129, true, x123.Name⟩ : Am).Attr, .str (⟨x129, true, x123.Name⟩ : Am).Name.URI, .str (⟨x129, true, x123.Name⟩ : Am).Name.Local]) (es := (List.map AW [(⟨x129, true, x123.Name⟩ : Am)])) rfl LK rfl (by kernel_rfl) (by kernel_rfl) ?_;refine Gm (j := 1) ok rfl rfl rfl rfl hg105 LK R8 hF ?_;intro r130 hr130 ok hF;refine Ri ?_;exact ⟨(a104 ++ [(⟨x129, true, x123.Name⟩ : Am)]), hF, r130, hr130, oy ok, wy ok⟩
        ·refine Dx ?_;exact ⟨a104, hF, g105, hg105, oy ok, wy ok⟩
       ·rintro a120 s' hF ⟨g121, hg121, ok, hws⟩;refine AC hws ?_;refine MX ?_;refine ih110 (a120, (IntKind.wrap .i64 (a106 + 1))) _ hF ?_;exact ⟨g121, hg121, oy ok, wy ok⟩
      ·refine E9 ?_;replace hF := hG108 _ (Aq hF);exact ⟨a104, hF, g105, hg105, oy ok, wy ok⟩
    ·rintro a97 s' hF ⟨g98, hg98, ok, hws⟩;refine AC hws ?_;refine MX ?_;refine ih69 (a97, (IntKind.wrap .i64 (a65 + 1))) _ hF ?_;exact ⟨g98, hg98, oy ok, wy ok⟩
   ·refine E9 ?_;replace hF := hG67 _ (Aq hF);exact ⟨a63, hF, g64, hg64, oy ok, wy ok⟩
 ·rintro a60 s' hF ⟨g61, hg61, ok, hws⟩;refine AC hws ?_;refine Kd ?_;refine Eg 45 (v := .sl 4 (List.map AW a60) 0) (.zero _ _ _) ?_;refine ZT ?_;exact rt
theorem Hw (p0 : List Int) (p1 : List Int) {G : Bool -> Prop} (h : Heap) (hF : OptP (CX p0 p1) G) : CallsA prog 77 [.sl 1 (List.map B2 p0) 0, .sl 1 (List.map B2 p1) 0] h fun d h' => ∃ r, G r /\ d = .bool r /\ h' = h := by
 refine CallsA.ret ?_;refine AO func77 rfl Afm ntmps77 rfl (fun ok => ?_);rw [CX] at hF;refine Aad ?_;refine Zi ?_;refine M8 ?_;refine YT ?_;refine QM ?_;refine A3 rfl hF (fun hb1 hF => ?_) fun hb1 hF => ?_
 ·refine Hj ?_;exact rt
 ·refine Dx ?_;refine AF hF (fun (_ : Unit) s' => Zs h [] 26 [] s') (fun J7 hF => ?_) ?_
  ·refine Zi ?_;refine NS ?_;refine Bq (σ := Int) hF (fun (a8 : Int) s' => Zs h [] 26 [(0, .sl 1 (List.map B2 p0) 0), (1, .sl 1 (List.map B2 p1) 0), (12, .int .i64 (p0.length : Int)), (13, .int .i64 a8)] s') ?_ ?_
   ·exact ⟨oy ok, wy ok⟩
   ·rintro G9 hG10 rec11 a8 s' ih12 hF ⟨ok, hws⟩;refine AC hws ?_;rw [BN] at hF;refine Iq ?_;refine A3 rfl hF (fun hb13 hF => ?_) fun hb13 hF => ?_
    ·refine Xd ?_;refine Ho ?_;refine H8 (mdl [(19, 3), (23, 3)]) (by kernel_rfl) (by kernel_rfl) ?_;refine XJ ?_;refine FJ rfl rfl Fy Av hF (fun x14 _ hF => ?_);refine Zb ?_;refine XJ ?_;refine FJ rfl rfl Fy Av hF (fun x15 _ hF => ?_);refine Zb ?_;refine QM ?_;refine A3 rfl hF (fun hb16 hF => ?_) fun hb16 hF => ?_
     ·refine Hj ?_;replace hF := hG10 _ (Aq hF);exact rt
     ·refine Qi ?_;refine ih12 (IntKind.wrap .i64 (a8 + 1)) _ hF ?_;exact ⟨oy ok, wy ok⟩
    ·refine E9 ?_;replace hF := hG10 _ (Aq hF);exact ⟨(), hF, oy ok, wy ok⟩
  ·rintro ⟨⟩ s' hF ⟨ok, hws⟩;refine AC hws ?_;refine Hj ?_;exact rt
theorem Nd (p0 : List Af) {G : (List Af) -> Prop} (h : Heap) (hF : OptP (Gc p0) G) : CallsA prog 35 [.sl 7 (List.map Ah p0) 0] h fun d h' => ∃ r, G r /\ d = .sl 7 (List.map Ah r) 0 /\ h' = h := by
 refine CallsA.ret ?_;refine AO func35 rfl Ahj ntmps35 rfl (fun ok => ?_);rw [Gc] at hF;refine Bm ?_;refine S_a (v := .snil) rfl ?_;refine Eg 2 (v := .sl 7 (List.map Ah []) 0) (.nil _) ?_;refine FL ?_;refine S_a (v := .snil) rfl ?_;refine JZ 3 7 ok rfl rfl ?_;intro r1 hr1 ok;refine A8 ?_;refine AF hF (fun (a62 : (List Af)) s' => ∃ g63 : Nat, g63 ≠ 0 /\ Zs h [(g63, .room)] 56 [(3, .sl 7 (List.map Ah a62) g63)] s') (fun J64 hF => ?_) ?_
 ·refine Aeh ?_;refine NS ?_;refine Bq (σ := (List Af) × Int) hF (fun (v : (List Af) × Int) s' => match v with | (a65, a67) => ∃ g66 : Nat, g66 ≠ 0 /\ Zs h [(g66, .room)] 56 [(3, .sl 7 (List.map Ah a65) g66), (7, .sl 7 (List.map Ah p0) 0), (8, .int .i64 (p0.length : Int)), (9, .int .i64 a67)] s') ?_ ?_
  ·exact ⟨r1, hr1, oy ok, wy ok⟩
  ·rintro G68 hG69 rec70 ⟨a65, a67⟩ s' ih71 hF ⟨g66, hg66, ok, hws⟩;refine AC hws ?_;rw [EK] at hF;refine Iq ?_;refine A3 rfl hF (fun hb72 hF => ?_) fun hb72 hF => ?_
   ·refine Dx ?_;refine AF hF (fun (a100 : (List Af)) s' => ∃ g101 : Nat, g101 ≠ 0 /\ Zs h [(g101, .room)] 56 [(3, .sl 7 (List.map Ah a100) g101), (7, .sl 7 (List.map Ah p0) 0), (8, .int .i64 (p0.length : Int)), (9, .int .i64 a67)] s') (fun J102 hF => ?_) ?_
    ·refine Rh ?_;refine CB (mdl [(5, 1)]) ?_;refine FJ rfl rfl Dp BB hF (fun x103 _ hF => ?_);refine AE rfl (A6 (vs := Ah x103) EW BB rfl rfl) ?_;refine Ca ok rfl Gr ?_;intro i104 hi104 ok;refine Gd (j := 0) (cs' := [.sl 1 (List.map B2 x103.path) 0, .int .i64 x103.node.Kind, .str x103.node.Name.URI, .str x103.node.Name.Local, .sl 3 (List.map Ao x103.node.Attrs) 0, .sl 6 (List.map Ad x103.node.Kids) 0, .str x103.node.Text]) ok rfl rfl rfl hi104 rfl BB rfl rfl (fun ok => ?_);refine FL ?_;refine M8 ?_;refine Eg 13 (v := .sl 7 (List.map Ah a65) 0) (.zero _ _ _) ?_;refine EY rfl Dp ?_;refine Jj ?_;refine AF hF (fun (a116 : Bool) s' => Zs h [(g66, .room)] 56 [(3, .sl 7 (List.map Ah a65) g66), (5, .iptr (Ah x103)), (7, .sl 7 (List.map Ah p0) 0), (8, .int .i64 (p0.length : Int)), (9, .int .i64 a67), (49, .bool a116)] s') (fun J117 hF => ?_) ?_
     ·refine Aeo ?_;show AN prog (mdl []) true #[] [] _ _;refine Lb 0 5 ok rfl rfl hi104 (fun ok => ?_);refine A8 ?_;refine H8 (mdl [(19, 3), (26, 3), (36, 3), (38, 3), (44, 3)]) (by kernel_rfl) (by kernel_rfl) ?_;refine FI ?_;refine Qj ?_;refine Tv (b := ((a65.length : Int) == 0)) hF (fun hb120 hF => ?_) (fun hb121 hF => ?_)
      ·refine S6 ?_;refine Rw ?_;refine XX ?_;refine CZ ?_;refine UH ?_;refine UH ?_;refine UH ?_;refine UH ?_;refine X8 ?_;refine QE (v := .bool _) rfl rfl rfl ?_;refine A8 ?_;exact ⟨true, hF, oy ok, wy ok⟩
      ·refine DZ ?_;refine W4 ?_;refine YA ?_;refine YT ?_;refine Bj ?_;refine Ab9 ?_;refine RD ?_;refine VO ?_;refine FJ rfl rfl Dp BB hF (fun x122 _ hF => ?_);refine Bj ?_;refine W4 ?_;refine YA ?_;refine YT ?_;refine Bj ?_;refine Ps ?_;refine W8 ?_;refine CZ ?_;refine Tv (b := (decide ((x103.path.length : Int) < (x122.path.length : Int)))) hF (fun hb123 hF => ?_) (fun hb124 hF => ?_)
       ·refine S6 ?_;refine S6 ?_;refine LD ?_;exact ⟨true, hF, oy ok, wy ok⟩
       ·refine Sj ?_;refine RD ?_;refine VO ?_;refine FJ rfl rfl Dp BB hF (fun x125 _ hF => ?_);refine Bj ?_;refine W4 ?_;refine YA ?_;refine W4 ?_;refine YA ?_;refine Ab9 ?_;refine RD ?_;refine VO ?_;refine FJ rfl rfl Dp BB hF (fun x126 _ hF => ?_);refine Bj ?_;refine W4 ?_;refine YA ?_;refine YT ?_;refine Bj ?_;refine Adl rfl Fy Av PN (FY rfl) hF (fun x127 _ hF => ?_);refine Bj ?_;refine cl (B1 (fun _ h hF => Hw _ _ h hF) _ hF fun x128 _ hF => ?_);refine XN ?_;exact ⟨(!x128), hF, oy ok, wy ok⟩
     ·rintro a116 s' hF ⟨ok, hws⟩;refine AC hws ?_;refine A3 rfl hF (fun hb129 hF => ?_) fun hb129 hF => ?_
      ·refine CB (mdl [(53, 2)]) ?_;refine M8 ?_;refine AE rfl (A6 (vs := Ah x103) EW BB rfl rfl) ?_;refine De (cs := [.sl 1 (List.map B2 x103.path) 0, .int .i64 x103.node.Kind, .str x103.node.Name.URI, .str x103.node.Name.Local, .sl 3 (List.map Ao x103.node.Attrs) 0, .sl 6 (List.map Ad x103.node.Kids) 0, .str x103.node.Text]) (es := (List.map Ah [x103])) rfl GP rfl (by kernel_rfl) (by kernel_rfl) ?_;refine Gm (j := 0) ok rfl rfl rfl rfl hg66 GP Kg hF ?_;intro r130 hr130 ok hF;refine Ri ?_;exact ⟨(a65 ++ [x103]), hF, r130, hr130, oy ok, wy ok⟩
      ·refine Dx ?_;exact ⟨a65, hF, g66, hg66, oy ok, wy ok⟩
    ·rintro a100 s' hF ⟨g101, hg101, ok, hws⟩;refine AC hws ?_;refine MX ?_;refine ih71 (a100, (IntKind.wrap .i64 (a67 + 1))) _ hF ?_;exact ⟨g101, hg101, oy ok, wy ok⟩
   ·refine E9 ?_;replace hF := hG69 _ (Aq hF);exact ⟨a65, hF, g66, hg66, oy ok, wy ok⟩
 ·rintro a62 s' hF ⟨g63, hg63, ok, hws⟩;refine AC hws ?_;refine Kd ?_;refine Eg 55 (v := .sl 7 (List.map Ah a62) 0) (.zero _ _ _) ?_;refine ZT ?_;exact rt
theorem JU : ∀ (N : Nat) (v : Ai × Af) (G : (List Af) -> Prop) (h : Heap), OptP (iter BV N v) G -> CallsA prog 36 [.agg (Ap v.1), .agg (Ah v.2)] h fun d h' => ∃ r, G r /\ d = .sl 7 (List.map Ah r) 0 /\ h' = h := by
 intro N
 induction N with
 | zero => intro v G h hF; exact Lg hF
 | succ N ih0 =>
 rintro ⟨p0, p1⟩ G h hF;show CallsA prog 36 [.agg (Ap p0), .agg (Ah p1)] h fun d h' => ∃ r, G r /\ d = .sl 7 (List.map Ah r) 0 /\ h' = h;replace hF : OptP (BV (iter BV N) (p0, p1)) G := hF;refine CallsA.ret ?_;refine AO func36 rfl Ag5 ntmps36 rfl (fun ok => ?_);rw [BV] at hF;refine Bm ?_;refine Cc rfl rfl rfl rfl ?_;refine Cc rfl rfl rfl rfl ?_;refine S_a (v := .snil) rfl ?_;refine Eg 4 (v := .sl 7 (List.map Ah []) 0) (.nil _) ?_;refine FL ?_;refine AE rfl (A6 (vs := Ap p0) Fz DY rfl rfl) ?_;refine AE rfl (A6 (vs := Ah p1) EW BB rfl rfl) ?_;refine cl (OfR_ok h [] ok hF fun x1 r2 hr2 ok hF => ?_);refine Ri ?_;refine AF hF (fun (a17 : (List Af)) s' => ∃ g18 : Nat, g18 ≠ 0 /\ Zs h [(g18, .room)] 34 [(5, .sl 7 (List.map Ah a17) g18)] s') (fun J19 hF => ?_) ?_
 ·refine Bm ?_;refine Aed ?_;refine AS rfl BS Bg rfl ?_;refine AE rfl (AJ Do Bg rfl) ?_;refine Tl ?_;refine Bq (σ := (List Af) × Int) hF (fun (v : (List Af) × Int) s' => match v with | (a20, a22) => ∃ g21 : Nat, g21 ≠ 0 /\ Zs h [(g21, .room)] 34 [(2, .iptr (Ap p0)), (3, .iptr (Ah p1)), (5, .sl 7 (List.map Ah a20) g21), (13, .sl 6 (List.map Ad p1.node.Kids) 0), (14, .int .i64 (p1.node.Kids.length : Int)), (15, .int .i64 a22)] s') ?_ ?_
  ·exact ⟨r2, hr2, oy ok, wy ok⟩
  ·rintro G23 hG24 rec25 ⟨a20, a22⟩ s' ih26 hF ⟨g21, hg21, ok, hws⟩;refine AC hws ?_;rw [Dl] at hF;refine Iq ?_;refine A3 rfl hF (fun hb27 hF => ?_) fun hb27 hF => ?_
   ·refine Ry ?_;refine CB (mdl [(7, 1)]) ?_;refine FI ?_;refine FJ rfl rfl DE Aw hF (fun x28 _ hF => ?_);refine AE rfl (A6 (vs := Ad x28) A7 Aw (by rw [Ab]; rfl) (by rw [Ab]; rfl)) ?_;refine Ca ok rfl DK ?_;intro i29 hi29 ok;refine MW ?_;refine Gd (j := 0) (cs' := [.int .i64 x28.Kind, .str x28.Name.URI, .str x28.Name.Local, .sl 3 (List.map Ao x28.Attrs) 0, .sl 6 (List.map Ad x28.Kids) 0, .str x28.Text]) ok rfl (congrArg D.agg (Ab x28)) rfl hi29 rfl Aw rfl rfl (fun ok => ?_);refine A8 ?_;refine Aeo ?_;show AN prog (mdl []) true #[] [] _ _;refine Lb 0 7 ok rfl rfl hi29 (fun ok => ?_);refine A8 ?_;refine R9 (mdl [(31, 2), (21, 3), (23, 3), (28, 3)]) [0, 1, 2, 3, 5, 6, 8, 4, 7, 9, 10, 11, 12] [_, _, _, _, _, _, _, _, _, _, _, _, _] (by kernel_rfl) rfl rfl (by kernel_rfl) ?_;refine M8 ?_;refine AE rfl (A6 (vs := Ap p0) Fz DY rfl rfl) ?_;refine W4 ?_;refine ZX ?_;refine FI ?_;refine De (cs := [.int .i64 a22]) (es := (List.map B2 [a22])) rfl ET rfl (by kernel_rfl) (by kernel_rfl) ?_;refine AE rfl (A6 (vs := Ad x28) A7 Aw rfl (by rw [Ab]; rfl)) ?_;refine RI (CloneR_ok h [(0, .room), (g21, .room)] ok hF fun x32 r33 hr33 ok hF => ?_) (.cons (.refl _) .nil);refine XL (j := 0) ok rfl rfl rfl rfl hr33 ET Kv hF (fun ok hF => ?_);refine DD (v := .agg (Ah (⟨(x32 ++ [a22]), x28⟩ : Af))) (GO Gr OR (by rw [Ab x28]; rfl)) ?_;refine cl (B1 (enc := fun r => .sl 7 (List.map Ah r) 0) (fun G h hF => ih0 (p0, (⟨(x32 ++ [a22]), x28⟩ : Af)) G h hF) _ hF fun x36 _ hF => ?_);refine Gm (j := 2) ok rfl rfl rfl rfl hg21 GP Kg hF ?_;intro r37 hr37 ok hF;refine Ri ?_;refine MX ?_;refine ih26 ((a20 ++ x36), (IntKind.wrap .i64 (a22 + 1))) _ hF ?_;exact ⟨r37, hr37, oy ok, wy ok⟩
   ·refine E9 ?_;replace hF := hG24 _ (Aq hF);exact ⟨a20, hF, g21, hg21, oy ok, wy ok⟩
 ·rintro a17 s' hF ⟨g18, hg18, ok, hws⟩;refine AC hws ?_;refine Kd ?_;refine Eg 33 (v := .sl 7 (List.map Ah a17) 0) (.zero _ _ _) ?_;refine ZT ?_;exact rt
theorem JT (p0 : Ai) (p1 : Af) {G : (List Af) -> Prop} (h : Heap) (hF : OptP (FT p0 p1) G) : CallsA prog 36 [.agg (Ap p0), .agg (Ah p1)] h fun d h' => ∃ r, G r /\ d = .sl 7 (List.map Ah r) 0 /\ h' = h := JU FUEL (p0, p1) G h hF
theorem HW (p0 : Ac) (p1 : List By8) {G : (List Am) × Int × Int -> Prop} (h : Heap) (hF : OptP (Fh p0 p1) G) : CallsA prog 13 [.agg (Ad p0), .str p1] h fun d h' => ∃ r, G r /\ d = .tup [.sl 4 (List.map AW r.1) 0, .int .i64 r.2.1, .int .i64 r.2.2] /\ h' = h := by
 refine CallsA.ret ?_;refine AO func13 rfl Afk ntmps13 rfl (fun ok => ?_);rw [Fh] at hF;refine Bm ?_;refine Cc (v := .agg (Ad p0)) (cs := Ad p0) rfl rfl rfl rfl ?_;refine S_a (v := .snil) rfl ?_;refine Eg 4 (v := .sl 4 (List.map AW []) 0) (.nil _) ?_;refine Rg ?_;refine Mm ?_;refine cl (JD _ hF fun x1 _ hF => ?_);refine Z3 ?_;refine JE ?_;refine QM ?_;refine A3 rfl hF (fun hb2 hF => ?_) fun hb2 hF => ?_
 ·refine Qf ?_;refine S_a (v := .snil) rfl ?_;refine Eg 4 (v := .sl 4 (List.map AW []) 0) (.nil _) ?_;refine OW ?_;exact rt
 ·refine PL ?_;refine Bm ?_;refine AE rfl (A6 (vs := Ad p0) A7 Aw (by rw [Ab]; rfl) (by rw [Ab]; rfl)) ?_;refine cl (B1 (fun _ h hF => Na _ h hF) _ hF fun x3 _ hF => ?_);refine Jj ?_;refine Gq ?_;refine QM ?_;refine A3 rfl hF (fun hb4 hF => ?_) fun hb4 hF => ?_
  ·refine Gq ?_;refine S_a (v := .snil) rfl ?_;refine Eg 4 (v := .sl 4 (List.map AW []) 0) (.nil _) ?_;refine OW ?_;exact rt
  ·refine Vr ?_;refine AE rfl (A6 (vs := Ad p0) A7 Aw (by rw [Ab]; rfl) (by rw [Ab]; rfl)) ?_;refine DD (v := .agg [.snil, .int .i64 p0.Kind, .str p0.Name.URI, .str p0.Name.Local, .sl 3 (List.map Ao p0.Attrs) 0, .sl 6 (List.map Ad p0.Kids) 0, .str p0.Text]) (GO Gr OR (by rw [Ab p0]; rfl)) ?_;refine Eg 36 (v := .agg (Ah (⟨[], p0⟩ : Af))) (.aggC (.cons (.nil _) (.cons (.refl _) (.cons (.refl _) (.cons (.refl _) (.cons (.refl _) (.cons (.refl _) (.cons (.refl _) (.nil))))))))) ?_;refine De (cs := [.sl 1 (List.map B2 (⟨[], p0⟩ : Af).path) 0, .int .i64 (⟨[], p0⟩ : Af).node.Kind, .str (⟨[], p0⟩ : Af).node.Name.URI, .str (⟨[], p0⟩ : Af).node.Name.Local, .sl 3 (List.map Ao (⟨[], p0⟩ : Af).node.Attrs) 0, .sl 6 (List.map Ad (⟨[], p0⟩ : Af).node.Kids) 0, .str (⟨[], p0⟩ : Af).node.Text]) (es := (List.map Ah [(⟨[], p0⟩ : Af)])) rfl GP rfl (by kernel_rfl) (by kernel_rfl) ?_;refine Ri ?_;refine AF hF (fun (a143 : (List Af)) s' => Zs h [] 90 [(11, .sl 7 (List.map Ah a143) 0)] s') (fun J144 hF => ?_) ?_
   ·refine Kd ?_;refine EY rfl HY ?_;refine NS ?_;refine Bq (σ := (List Af) × Int) hF (fun (v : (List Af) × Int) s' => match v with | (a145, a146) => Zs h [] 90 [(11, .sl 7 (List.map Ah a145) 0), (38, .sl 6 (List.map Ap x1.1) 0), (39, .int .i64 (x1.1.length : Int)), (40, .int .i64 a146)] s') ?_ ?_
    ·exact ⟨oy ok, wy ok⟩
    ·rintro G147 hG148 rec149 ⟨a145, a146⟩ s' ih150 hF ⟨ok, hws⟩;refine AC hws ?_;rw [Es] at hF;refine Iq ?_;refine A3 rfl hF (fun hb151 hF => ?_) fun hb151 hF => ?_
     ·refine Dx ?_;refine AF hF (fun (a219 : (List Af)) s' => Zs h [] 90 [(11, .sl 7 (List.map Ah a219) 0), (38, .sl 6 (List.map Ap x1.1) 0), (39, .int .i64 (x1.1.length : Int)), (40, .int .i64 a146)] s') (fun J220 hF => ?_) ?_
      ·refine Rh ?_;refine CB (mdl [(13, 1)]) ?_;refine FJ rfl rfl HY DY hF (fun x221 _ hF => ?_);refine AE rfl (A6 (vs := Ap x221) Fz DY rfl rfl) ?_;refine Ca ok rfl OA ?_;intro i222 hi222 ok;refine Gd (j := 0) (cs' := [.bool x221.deep, .bool x221.attr, .str x221.test, .str x221.name.URI, .str x221.name.Local, .sl 6 (List.map Aj x221.conds) 0]) ok rfl rfl rfl hi222 rfl DY rfl rfl (fun ok => ?_);refine Zz ?_;refine DF rfl KX Bv ?_;refine Afy ?_;refine A8 ?_;refine A3 rfl hF (fun hb223 hF => ?_) fun hb223 hF => ?_
       ·refine Kd ?_;refine Cx (j := 0) ok rfl rfl rfl hi222 (A6 (vs := Ap x221) Fz DY rfl rfl) ?_;refine cl (B1 (fun _ h hF => Nf _ _ h hF) _ hF fun x224 _ hF => ?_);refine WK ?_;refine OW ?_;replace hF := hG148 _ (Aq hF);exact rt
       ·refine Vr ?_;refine S_a (v := .snil) rfl ?_;refine O7 Ah ok (fun ok => ?_);refine A8 ?_;refine AF hF (fun (a228 : (List Af)) s' => Zs h [mo 0 Ah [], (i222, .cells [.bool x221.deep, .bool x221.attr, .str x221.test, .str x221.name.URI, .str x221.name.Local, .sl 6 (List.map Aj x221.conds) 0])] 90 [(11, .sl 7 (List.map Ah a228) 0), (13, .ptr i222 0), (14, DX 7 0 ([] : List Af)), (38, .sl 6 (List.map Ap x1.1) 0), (39, .int .i64 (x1.1.length : Int)), (40, .int .i64 a146)] s') (fun J229 hF => ?_) ?_
        ·refine Bm ?_;refine Aes ?_;refine Ahr ?_;refine A8 ?_;refine A3 rfl hF (fun hb230 hF => ?_) fun hb230 hF => ?_
         ·refine LZ ?_;refine M8 ?_;refine cl (B1 (fun _ h hF => Nd _ h hF) _ hF fun x231 _ hF => ?_);refine Ri ?_;exact ⟨x231, hF, oy ok, wy ok⟩
         ·refine Dx ?_;exact ⟨a145, hF, oy ok, wy ok⟩
        ·rintro a228 s' hF ⟨ok, hws⟩;refine AC hws ?_;refine AF hF (fun (a259 : (List Af)) s' => ∃ g258 : Nat, (g258 = 0 -> a259 = []) /\ Zs h [mo g258 Ah a259] 90 [(14, DX 7 g258 a259), (38, .sl 6 (List.map Ap x1.1) 0), (39, .int .i64 (x1.1.length : Int)), (40, .int .i64 a146)] s') (fun J260 hF => ?_) ?_
         ·refine Aeh ?_;refine NS ?_;refine Bq (σ := (List Af) × Int) hF (fun (v : (List Af) × Int) s' => match v with | (a262, a263) => ∃ g261 : Nat, (g261 = 0 -> a262 = []) /\ Zs h [mo g261 Ah a262, (i222, .cells [.bool x221.deep, .bool x221.attr, .str x221.test, .str x221.name.URI, .str x221.name.Local, .sl 6 (List.map Aj x221.conds) 0])] 90 [(13, .ptr i222 0), (14, DX 7 g261 a262), (38, .sl 6 (List.map Ap x1.1) 0), (39, .int .i64 (x1.1.length : Int)), (40, .int .i64 a146), (53, .sl 7 (List.map Ah a228) 0), (54, .int .i64 (a228.length : Int)), (55, .int .i64 a263)] s') ?_ ?_
          ·exact ⟨0, (fun _ => rfl), oy ok, wy ok⟩
          ·rintro G264 hG265 rec266 ⟨a262, a263⟩ s' ih267 hF ⟨g261, zg261, ok, hws⟩;refine AC hws ?_;rw [Et] at hF;refine Iq ?_;refine A3 rfl hF (fun hb268 hF => ?_) fun hb268 hF => ?_
           ·refine Dx ?_;refine AF hF (fun (a280 : (List Af)) s' => ∃ g279 : Nat, (g279 = 0 -> a280 = []) /\ Zs h [mo g279 Ah a280, (i222, .cells [.bool x221.deep, .bool x221.attr, .str x221.test, .str x221.name.URI, .str x221.name.Local, .sl 6 (List.map Aj x221.conds) 0])] 90 [(13, .ptr i222 0), (14, DX 7 g279 a280), (38, .sl 6 (List.map Ap x1.1) 0), (39, .int .i64 (x1.1.length : Int)), (40, .int .i64 a146), (53, .sl 7 (List.map Ah a228) 0), (54, .int .i64 (a228.length : Int)), (55, .int .i64 a263)] s') (fun J281 hF => ?_) ?_
            ·refine Rh ?_;refine CB (mdl [(16, 1)]) ?_;refine FJ rfl rfl Dp BB hF (fun x282 _ hF => ?_);refine AE rfl (A6 (vs := Ah x282) EW BB rfl rfl) ?_;refine Ca ok rfl Gr ?_;intro i283 hi283 ok;refine Gd (j := 0) (cs' := [.sl 1 (List.map B2 x282.path) 0, .int .i64 x282.node.Kind, .str x282.node.Name.URI, .str x282.node.Name.Local, .sl 3 (List.map Ao x282.node.Attrs) 0, .sl 6 (List.map Ad x282.node.Kids) 0, .str x282.node.Text]) ok rfl rfl rfl hi283 rfl BB rfl rfl (fun ok => ?_);refine FL ?_;refine Aes ?_;refine Aia ?_;refine A8 ?_;refine A3 rfl hF (fun hb284 hF => ?_) fun hb284 hF => ?_
             ·refine CB (mdl [(65, 1)]) ?_;refine Ac0 ?_;refine Cx (j := 2) ok rfl rfl rfl hi222 (A6 (vs := Ap x221) Fz DY rfl rfl) ?_;refine Cx (j := 0) ok rfl rfl rfl hi283 (A6 (vs := Ah x282) EW BB rfl rfl) ?_;refine cl (B1 (fun _ h hF => JT _ _ h hF) _ hF fun x285 _ hF => ?_);refine RT (j := 1) (M := x285) ok zg261 rfl rfl Uu (fun _ => rfl) rfl GP Kg hF ?_;intro u286 zu286 ok hF;obtain ⟨a287, ha287, hF⟩ := Ox hF;rw [<- ha287] at ok zu286;rw [<- ha287];refine Acp ?_;refine A8 ?_;exact ⟨a287, hF, u286, zu286, oy ok, wy ok⟩
             ·refine CB (mdl [(70, 1)]) ?_;refine Ac0 ?_;refine Cx (j := 2) ok rfl rfl rfl hi222 (A6 (vs := Ap x221) Fz DY rfl rfl) ?_;refine Cx (j := 0) ok rfl rfl rfl hi283 (A6 (vs := Ah x282) EW BB rfl rfl) ?_;refine cl (OfR_ok h [(i283, .cells [.sl 1 (List.map B2 x282.path) 0, .int .i64 x282.node.Kind, .str x282.node.Name.URI, .str x282.node.Name.Local, .sl 3 (List.map Ao x282.node.Attrs) 0, .sl 6 (List.map Ad x282.node.Kids) 0, .str x282.node.Text]), mo g261 Ah a262, (i222, .cells [.bool x221.deep, .bool x221.attr, .str x221.test, .str x221.name.URI, .str x221.name.Local, .sl 6 (List.map Aj x221.conds) 0])] ok hF fun x288 r289 hr289 ok hF => ?_);refine RT (j := 2) (M := x288) ok zg261 rfl rfl Uu (fun _ => rfl) rfl GP Kg hF ?_;intro u290 zu290 ok hF;obtain ⟨a291, ha291, hF⟩ := Ox hF;rw [<- ha291] at ok zu290;rw [<- ha291];refine Acp ?_;refine A8 ?_;exact ⟨a291, hF, u290, zu290, oy ok, wy ok⟩
            ·rintro a280 s' hF ⟨g279, zg279, ok, hws⟩;refine AC hws ?_;refine MX ?_;refine ih267 (a280, (IntKind.wrap .i64 (a263 + 1))) _ hF ?_;exact ⟨g279, zg279, oy ok, wy ok⟩
           ·refine E9 ?_;replace hF := hG265 _ (Aq hF);exact ⟨a262, hF, g261, zg261, oy ok, wy ok⟩
         ·rintro a259 s' hF ⟨g258, zg258, ok, hws⟩;refine AC hws ?_;refine Bm ?_;refine Ac0 ?_;refine RI (Sort_ok h [] zg258 ok hF fun x292 zr293 hlx292 ok hF => ?_) (.cons (.refl _) (.cons (.refl _) .nil));have hms : DX 7 g258 a259 = DX 7 g258 x292 := Kz hlx292
          try rw [hms] at ok
          try rw [hms]
          clear hms;refine A8 ?_;refine LZ ?_;refine Ac0 ?_;refine Acp ?_;refine XO 0 11 ok zr293 rfl rfl (fun _ => rfl) (fun ok => ?_);refine A8 ?_;exact ⟨x292, hF, oy ok, wy ok⟩
      ·rintro a219 s' hF ⟨ok, hws⟩;refine AC hws ?_;refine MX ?_;refine ih150 (a219, (IntKind.wrap .i64 (a146 + 1))) _ hF ?_;exact ⟨oy ok, wy ok⟩
     ·refine E9 ?_;replace hF := hG148 _ (Aq hF);exact ⟨a145, hF, oy ok, wy ok⟩
   ·rintro a143 s' hF ⟨ok, hws⟩;refine AC hws ?_;refine Bm ?_;refine S_a (v := .snil) rfl ?_;refine JZ 17 4 ok rfl rfl ?_;intro r295 hr295 ok;refine A8 ?_;refine AF hF (fun (a303 : (List Am)) s' => ∃ g304 : Nat, g304 ≠ 0 /\ Zs h [(g304, .room)] 90 [(17, .sl 4 (List.map AW a303) g304)] s') (fun J305 hF => ?_) ?_
    ·refine Aeh ?_;refine NS ?_;refine Bq (σ := (List Am) × Int) hF (fun (v : (List Am) × Int) s' => match v with | (a306, a308) => ∃ g307 : Nat, g307 ≠ 0 /\ Zs h [(g307, .room)] 90 [(17, .sl 4 (List.map AW a306) g307), (76, .sl 7 (List.map Ah a143) 0), (77, .int .i64 (a143.length : Int)), (78, .int .i64 a308)] s') ?_ ?_
     ·exact ⟨r295, hr295, oy ok, wy ok⟩
     ·rintro G309 hG310 rec311 ⟨a306, a308⟩ s' ih312 hF ⟨g307, hg307, ok, hws⟩;refine AC hws ?_;rw [Eo] at hF;refine Iq ?_;refine A3 rfl hF (fun hb313 hF => ?_) fun hb313 hF => ?_
      ·refine Ry ?_;refine CB (mdl [(19, 1)]) ?_;refine FJ rfl rfl Dp BB hF (fun x314 _ hF => ?_);refine AE rfl (A6 (vs := Ah x314) EW BB rfl rfl) ?_;refine Ca ok rfl Gr ?_;intro i315 hi315 ok;refine Gd (j := 0) (cs' := [.sl 1 (List.map B2 x314.path) 0, .int .i64 x314.node.Kind, .str x314.node.Name.URI, .str x314.node.Name.Local, .sl 3 (List.map Ao x314.node.Attrs) 0, .sl 6 (List.map Ad x314.node.Kids) 0, .str x314.node.Text]) ok rfl rfl rfl hi315 rfl BB rfl rfl (fun ok => ?_);refine A8 ?_;refine CB (mdl [(87, 2)]) ?_;refine M8 ?_;refine DF rfl NB GT ?_;refine Cx (j := 0) ok rfl rfl rfl (by assumption) (AJ (v := .sl _ _ _) RN GT rfl) ?_;refine DD (v := .agg (AW (⟨x314.path, false, (⟨[], []⟩ : Aa)⟩ : Am))) (GO Ru RF rfl) ?_;refine De (cs := [.sl 1 (List.map B2 (⟨x314.path, false, (⟨[], []⟩ : Aa)⟩ : Am).Steps) 0, .bool (⟨x314.path, false, (⟨[], []⟩ : Aa)⟩ : Am).Attr, .str (⟨x314.path, false, (⟨[], []⟩ : Aa)⟩ : Am).Name.URI, .str (⟨x314.path, false, (⟨[], []⟩ : Aa)⟩ : Am).Name.Local]) (es := (List.map AW [(⟨x314.path, false, (⟨[], []⟩ : Aa)⟩ : Am)])) rfl LK rfl (by kernel_rfl) (by kernel_rfl) ?_;refine Gm (j := 1) ok rfl rfl rfl rfl hg307 LK R8 hF ?_;intro r316 hr316 ok hF;refine Ri ?_;refine MX ?_;refine ih312 ((a306 ++ [(⟨x314.path, false, (⟨[], []⟩ : Aa)⟩ : Am)]), (IntKind.wrap .i64 (a308 + 1))) _ hF ?_;exact ⟨r316, hr316, oy ok, wy ok⟩
      ·refine E9 ?_;replace hF := hG310 _ (Aq hF);exact ⟨a306, hF, g307, hg307, oy ok, wy ok⟩
    ·rintro a303 s' hF ⟨g304, hg304, ok, hws⟩;refine AC hws ?_;refine Kd ?_;refine Eg 89 (v := .sl 4 (List.map AW a303) 0) (.zero _ _ _) ?_;refine WK ?_;refine OW ?_;exact rt
theorem M1 (p0 : List By8) {G : Int × Int -> Prop} (h : Heap) (hF : OptP (IE p0) G) : CallsA prog 31 [.str p0] h fun d h' => ∃ r, G r /\ d = .tup [.int .i64 r.1, .int .i64 r.2] /\ h' = h := by
 refine CallsA.ret ?_;refine AO func31 rfl Ahe ntmps31 rfl (fun ok => ?_);rw [IE] at hF;refine Bm ?_;refine Rg ?_;refine Mm ?_;refine cl (JD _ hF fun x1 _ hF => ?_);refine Z3 ?_;refine Qf ?_;refine OW ?_;exact rt
theorem Hg (p0 : List Int) (p1 : List Int) {G : Bool -> Prop} (h : Heap) (hF : OptP (Bh p0 p1) G) : CallsA prog 21 [.sl 1 (List.map B2 p0) 0, .sl 1 (List.map B2 p1) 0] h fun d h' => ∃ r, G r /\ d = .bool r /\ h' = h := by
 refine CallsA.ret ?_;refine AO func21 rfl Agz ntmps21 rfl (fun ok => ?_);rw [Bh] at hF;refine Aad ?_;refine Zi ?_;refine M8 ?_;refine YT ?_;refine QM ?_;refine A3 rfl hF (fun hb1 hF => ?_) fun hb1 hF => ?_
 ·refine Hj ?_;exact rt
 ·refine Dx ?_;refine AF hF (fun (_ : Unit) s' => Zs h [] 26 [] s') (fun J7 hF => ?_) ?_
  ·refine Zi ?_;refine NS ?_;refine Bq (σ := Int) hF (fun (a8 : Int) s' => Zs h [] 26 [(0, .sl 1 (List.map B2 p0) 0), (1, .sl 1 (List.map B2 p1) 0), (12, .int .i64 (p0.length : Int)), (13, .int .i64 a8)] s') ?_ ?_
   ·exact ⟨oy ok, wy ok⟩
   ·rintro G9 hG10 rec11 a8 s' ih12 hF ⟨ok, hws⟩;refine AC hws ?_;rw [B4] at hF;refine Iq ?_;refine A3 rfl hF (fun hb13 hF => ?_) fun hb13 hF => ?_
    ·refine Xd ?_;refine Ho ?_;refine H8 (mdl [(19, 3), (23, 3)]) (by kernel_rfl) (by kernel_rfl) ?_;refine XJ ?_;refine FJ rfl rfl Fy Av hF (fun x14 _ hF => ?_);refine Zb ?_;refine XJ ?_;refine FJ rfl rfl Fy Av hF (fun x15 _ hF => ?_);refine Zb ?_;refine QM ?_;refine A3 rfl hF (fun hb16 hF => ?_) fun hb16 hF => ?_
     ·refine Hj ?_;replace hF := hG10 _ (Aq hF);exact rt
     ·refine Qi ?_;refine ih12 (IntKind.wrap .i64 (a8 + 1)) _ hF ?_;exact ⟨oy ok, wy ok⟩
    ·refine E9 ?_;replace hF := hG10 _ (Aq hF);exact ⟨(), hF, oy ok, wy ok⟩
  ·rintro ⟨⟩ s' hF ⟨ok, hws⟩;refine AC hws ?_;refine Hj ?_;exact rt
theorem EZ {β : Type} {f : Bool -> Option β} {G : β -> Prop} {R : D -> Heap -> Prop} {p0 : List Int} {p1 : List Int} (h : Heap) (hF : OptP ((Bh p0 p1).bind f) G) (hk : ∀ r, Bh p0 p1 = some r -> OptP (f r) G -> R (.bool r) h) : CallsA prog 21 [.sl 1 (List.map B2 p0) 0, .sl 1 (List.map B2 p1) 0] h R := by
 obtain ⟨r0, hr, hF⟩ := AZ hF;refine (Hg (G := fun r => r = r0) p0 p1 h ⟨r0, hr, rfl⟩).mono ?_;rintro _ _ ⟨r, rfl, rfl, rfl⟩;exact hk _ hr hF
theorem Ip {G : Bool -> Prop} (h : Heap) (hF : OptP (D0) G) : CallsA prog 10 [] h fun d h' => ∃ r, G r /\ d = .bool r /\ h' = h := by
 refine CallsA.ret ?_;refine AO func10 rfl Agh ntmps10 rfl (fun ok => ?_);rw [D0] at hF;refine Nr ?_;refine Bm ?_;refine cl (B1 (fun _ h hF => Fw h hF) _ hF fun x1 _ hF => ?_);refine cl (B1 (fun _ h hF => HW _ _ h hF) _ hF fun x2 _ hF => ?_);refine Z3 ?_;refine Bm ?_;refine cl (B1 (fun _ h hF => Fw h hF) _ hF fun x3 _ hF => ?_);refine cl (B1 (fun _ h hF => HW _ _ h hF) _ hF fun x4 _ hF => ?_);refine Z3 ?_;refine Bm ?_;refine cl (B1 (fun _ h hF => M1 _ h hF) _ hF fun x5 _ hF => ?_);refine Vz ?_;refine Ws ?_;refine A1 (b := (x2.2.2 == 0)) 3 30 (.bool ((x2.2.2 == 0) && (x4.2.2 == 0))) (fun hb6 => ?_) (fun hb6 => ?_) ?_
 ·refine Xi ?_;refine Gn ?_;exact th
 ·refine HI ?_;exact th
 refine CZ ?_;refine A1 (b := ((x2.2.2 == 0) && (x4.2.2 == 0))) 3 34 (.bool (((x2.2.2 == 0) && (x4.2.2 == 0)) && (x5.2 == 36))) (fun hb7 => ?_) (fun hb7 => ?_) ?_
 ·refine Xi ?_;refine Gn ?_;exact th
 ·refine HI ?_;exact th
 refine CZ ?_;refine A1 (b := (((x2.2.2 == 0) && (x4.2.2 == 0)) && (x5.2 == 36))) 3 38 (.bool ((((x2.2.2 == 0) && (x4.2.2 == 0)) && (x5.2 == 36)) && (x5.1 == 3))) (fun hb8 => ?_) (fun hb8 => ?_) ?_
 ·refine Xi ?_;refine Gn ?_;exact th
 ·refine HI ?_;exact th
 refine CZ ?_;refine A1 (b := ((((x2.2.2 == 0) && (x4.2.2 == 0)) && (x5.2 == 36)) && (x5.1 == 3))) 4 43 (.bool (((((x2.2.2 == 0) && (x4.2.2 == 0)) && (x5.2 == 36)) && (x5.1 == 3)) && ((x2.1.length : Int) == 1))) (fun hb9 => ?_) (fun hb9 => ?_) ?_
 ·refine Sj ?_;refine EY rfl GV ?_;refine Tt ?_;exact th
 ·refine OZ ?_;exact th
 refine CZ ?_;refine Bd 7 51 hF (fun J11 hb10 hF => ?_) (fun J11 hb10 hF => ?_) (fun v12 hF => ?_)
 ·refine Sj ?_;refine FJ rfl rfl GV Ki hF (fun x13 _ hF => ?_);refine Bj ?_;refine AS rfl NQ GT rfl ?_;refine YA ?_;refine De (cs := [.int .i64 0, .int .i64 1]) (es := (List.map B2 [0, 1])) rfl ET rfl (by kernel_rfl) (by kernel_rfl) ?_;refine Bj ?_;refine cl (EZ _ hF fun x14 _ hF => ?_);refine Gn ?_;exact tw
 ·refine Ih ?_;refine HI ?_;exact tw
 ·refine CZ ?_;refine A1 (b := v12) 4 56 (.bool (v12 && ((x4.1.length : Int) == 2))) (fun hb15 => ?_) (fun hb15 => ?_) ?_
  ·refine Sj ?_;refine EY rfl GV ?_;refine Tt ?_;exact th
  ·refine OZ ?_;exact th
  refine CZ ?_;refine Bd 5 62 hF (fun J17 hb16 hF => ?_) (fun J17 hb16 hF => ?_) (fun v18 hF => ?_)
  ·refine Sj ?_;refine FJ rfl rfl GV Ki hF (fun x19 _ hF => ?_);refine Bj ?_;refine AS rfl Nt Bv rfl ?_;refine Bj ?_;refine Agm ?_;refine Gn ?_;exact tw
  ·refine Vo ?_;exact tw
  ·refine CZ ?_;refine Bd 7 70 hF (fun J21 hb20 hF => ?_) (fun J21 hb20 hF => ?_) (fun v22 hF => ?_)
   ·refine Sj ?_;refine FJ rfl rfl GV Ki hF (fun x23 _ hF => ?_);refine Bj ?_;refine AS rfl SC AA rfl ?_;refine Bj ?_;refine ZI ?_;refine Ad9 ?_;refine Mg ?_;refine Gn ?_;exact tw
   ·refine Ih ?_;refine HI ?_;exact tw
   ·refine Ft ?_;exact rt
theorem Jf : ∀ (N : Nat) (v : Ac) (G : (List Ac) -> Prop) (h : Heap), OptP (iter BF N v) G -> CallsA prog 25 [.agg (Ad v)] h fun d h' => ∃ r, G r /\ d = .sl 6 (List.map Ad r) 0 /\ h' = h := by
 intro N
 induction N with
 | zero => intro v G h hF; exact Lg hF
 | succ N ih0 =>
 intro p0 G h hF;show CallsA prog 25 [.agg (Ad p0)] h fun d h' => ∃ r, G r /\ d = .sl 6 (List.map Ad r) 0 /\ h' = h;replace hF : OptP (BF (iter BF N) p0) G := hF;refine CallsA.ret ?_;refine AO func25 rfl Afz ntmps25 rfl (fun ok => ?_);rw [BF] at hF;refine Bm ?_;refine Cc (v := .agg (Ad p0)) (cs := Ad p0) rfl rfl rfl rfl ?_;refine S_a (v := .snil) rfl ?_;refine Eg 2 (v := .sl 6 (List.map Ad []) 0) (.nil _) ?_;refine IM ?_;refine CB (mdl [(7, 2)]) ?_;refine AE rfl (A6 (vs := Ad p0) A7 Aw (by rw [Ab]; rfl) (by rw [Ab]; rfl)) ?_;refine O5 (d := 6) (v := .agg [.int .i64 p0.Kind, .str p0.Name.URI, .str p0.Name.Local, .sl 3 (List.map Ao p0.Attrs) 0, .sl 6 (List.map Ad p0.Kids) 0, .str p0.Text]) (congrArg D.agg (Ab p0)) ?_;refine PF (cs := [.int .i64 p0.Kind, .str p0.Name.URI, .str p0.Name.Local, .sl 3 (List.map Ao p0.Attrs) 0, .sl 6 (List.map Ad p0.Kids) 0, .str p0.Text]) (es := (List.map Ad [p0])) ok rfl Jk rfl (by kernel_rfl) (by simp only [List.map_cons, List.map_nil, Ab]; rfl) ?_;intro r1 hr1 ok;refine Ri ?_;refine AF hF (fun (a10 : (List Ac)) s' => ∃ g11 : Nat, g11 ≠ 0 /\ Zs h [(g11, .room)] 21 [(3, .sl 6 (List.map Ad a10) g11)] s') (fun J12 hF => ?_) ?_
 ·refine Bm ?_;refine AS rfl BS Bg (by rw [Ab]; rfl) ?_;refine AE rfl (AJ Do Bg (congrArg (List.drop 4) (Ab p0))) ?_;refine Tl ?_;refine Bq (σ := (List Ac) × Int) hF (fun (v : (List Ac) × Int) s' => match v with | (a13, a15) => ∃ g14 : Nat, g14 ≠ 0 /\ Zs h [(g14, .room)] 21 [(3, .sl 6 (List.map Ad a13) g14), (9, .sl 6 (List.map Ad p0.Kids) 0), (10, .int .i64 (p0.Kids.length : Int)), (11, .int .i64 a15)] s') ?_ ?_
  ·exact ⟨r1, hr1, oy ok, wy ok⟩
  ·rintro G16 hG17 rec18 ⟨a13, a15⟩ s' ih19 hF ⟨g14, hg14, ok, hws⟩;refine AC hws ?_;rw [CW] at hF;refine Iq ?_;refine A3 rfl hF (fun hb20 hF => ?_) fun hb20 hF => ?_
   ·refine Ry ?_;refine CB (mdl [(5, 1)]) ?_;refine FJ rfl rfl DE Aw hF (fun x21 _ hF => ?_);refine AE rfl (A6 (vs := Ad x21) A7 Aw (by rw [Ab]; rfl) (by rw [Ab]; rfl)) ?_;refine Ca ok rfl DK ?_;intro i22 hi22 ok;refine Gd (j := 0) (cs' := [.int .i64 x21.Kind, .str x21.Name.URI, .str x21.Name.Local, .sl 3 (List.map Ao x21.Attrs) 0, .sl 6 (List.map Ad x21.Kids) 0, .str x21.Text]) ok rfl (congrArg D.agg (Ab x21)) rfl hi22 rfl Aw rfl rfl (fun ok => ?_);refine A8 ?_;refine CB (mdl [(18, 2)]) ?_;refine M8 ?_;refine Cx (j := 0) ok rfl rfl rfl hi22 (A6 (vs := Ad x21) A7 Aw rfl (Ab x21).symm) ?_;refine cl (B1 (enc := fun r => .sl 6 (List.map Ad r) 0) (fun G h hF => ih0 x21 G h hF) _ hF fun x23 _ hF => ?_);refine Gm (j := 1) ok rfl rfl rfl rfl hg14 Jk Rn hF ?_;intro r24 hr24 ok hF;refine Ri ?_;refine MX ?_;refine ih19 ((a13 ++ x23), (IntKind.wrap .i64 (a15 + 1))) _ hF ?_;exact ⟨r24, hr24, oy ok, wy ok⟩
   ·refine E9 ?_;replace hF := hG17 _ (Aq hF);exact ⟨a13, hF, g14, hg14, oy ok, wy ok⟩
 ·rintro a10 s' hF ⟨g11, hg11, ok, hws⟩;refine AC hws ?_;refine Kd ?_;refine Eg 20 (v := .sl 6 (List.map Ad a10) 0) (.zero _ _ _) ?_;refine ZT ?_;exact rt
theorem IA (p0 : Ac) {G : (List Ac) -> Prop} (h : Heap) (hF : OptP (C0 p0) G) : CallsA prog 25 [.agg (Ad p0)] h fun d h' => ∃ r, G r /\ d = .sl 6 (List.map Ad r) 0 /\ h' = h := Jf FUEL p0 G h hF
theorem FN {β : Type} {f : (List Ac) -> Option β} {G : β -> Prop} {R : D -> Heap -> Prop} {p0 : Ac} (h : Heap) (hF : OptP ((C0 p0).bind f) G) (hk : ∀ r, C0 p0 = some r -> OptP (f r) G -> R (.sl 6 (List.map Ad r) 0) h) : CallsA prog 25 [.agg (Ad p0)] h R := by
 obtain ⟨r0, hr, hF⟩ := AZ hF;refine (IA (G := fun r => r = r0) p0 h ⟨r0, hr, rfl⟩).mono ?_;rintro _ _ ⟨r, rfl, rfl, rfl⟩;exact hk _ hr hF
theorem IH : ∀ (N : Nat) (v : Ac × Int) (G : Bool -> Prop) (h : Heap), OptP (iter BC N v) G -> CallsA prog 42 [.agg (Ad v.1), .int .i64 v.2] h fun d h' => ∃ r, G r /\ d = .bool r /\ h' = h := by
 intro N
 induction N with
 | zero => intro v G h hF; exact Lg hF
 | succ N ih0 =>
 rintro ⟨p0, p1⟩ G h hF;show CallsA prog 42 [.agg (Ad p0), .int .i64 p1] h fun d h' => ∃ r, G r /\ d = .bool r /\ h' = h;replace hF : OptP (BC (iter BC N) (p0, p1)) G := hF;refine CallsA.ret ?_;refine AO func42 rfl Afh ntmps42 rfl (fun ok => ?_);rw [BC] at hF;refine Bm ?_;refine Cc (v := .agg (Ad p0)) (cs := Ad p0) rfl rfl rfl rfl ?_;refine Fm ?_;refine AF hF (fun (a3 : Int) s' => Zs h [] 25 [(1, .int .i64 a3), (2, .iptr (Ad p0))] s') (fun J4 hF => ?_) ?_
 ·refine Bm ?_;refine AS rfl Bn Av (by rw [Ab]; rfl) ?_;refine AE rfl (AJ BZ Av (congrArg (List.drop 0) (Ab p0))) ?_;refine Q8 ?_;refine A3 rfl hF (fun hb5 hF => ?_) fun hb5 hF => ?_
  ·refine JE ?_;refine Ps ?_;refine A3 rfl hF (fun hb6 hF => ?_) fun hb6 hF => ?_
   ·refine Hj ?_;exact rt
   ·refine ZQ ?_;refine MU ?_;refine Jj ?_;exact ⟨(IntKind.wrap .i64 (p1 - 1)), hF, oy ok, wy ok⟩
  ·refine Dx ?_;exact ⟨p1, hF, oy ok, wy ok⟩
 ·rintro a3 s' hF ⟨ok, hws⟩;refine AC hws ?_;refine AF hF (fun (_ : Unit) s' => Zs h [] 25 [] s') (fun J13 hF => ?_) ?_
  ·refine Bm ?_;refine AS rfl BS Bg (by rw [Ab]; rfl) ?_;refine AE rfl (AJ Do Bg (congrArg (List.drop 4) (Ab p0))) ?_;refine Tl ?_;refine Bq (σ := Int) hF (fun (a14 : Int) s' => Zs h [] 25 [(1, .int .i64 a3), (15, .sl 6 (List.map Ad p0.Kids) 0), (16, .int .i64 (p0.Kids.length : Int)), (17, .int .i64 a14)] s') ?_ ?_
   ·exact ⟨oy ok, wy ok⟩
   ·rintro G15 hG16 rec17 a14 s' ih18 hF ⟨ok, hws⟩;refine AC hws ?_;rw [CQ] at hF;refine Iq ?_;refine A3 rfl hF (fun hb19 hF => ?_) fun hb19 hF => ?_
    ·refine Ry ?_;refine CB (mdl [(6, 1)]) ?_;refine FJ rfl rfl DE Aw hF (fun x20 _ hF => ?_);refine AE rfl (A6 (vs := Ad x20) A7 Aw (by rw [Ab]; rfl) (by rw [Ab]; rfl)) ?_;refine Ca ok rfl DK ?_;intro i21 hi21 ok;refine Gd (j := 0) (cs' := [.int .i64 x20.Kind, .str x20.Name.URI, .str x20.Name.Local, .sl 3 (List.map Ao x20.Attrs) 0, .sl 6 (List.map Ad x20.Kids) 0, .str x20.Text]) ok rfl (congrArg D.agg (Ab x20)) rfl hi21 rfl Aw rfl rfl (fun ok => ?_);refine FL ?_;refine Cx (j := 0) ok rfl rfl rfl hi21 (A6 (vs := Ad x20) A7 Aw rfl (Ab x20).symm) ?_;refine FI ?_;refine cl (B1 (enc := fun r => .bool r) (fun G h hF => ih0 (x20, a3) G h hF) _ hF fun x22 _ hF => ?_);refine A8 ?_;refine A3 rfl hF (fun hb23 hF => ?_) fun hb23 hF => ?_
     ·refine Hj ?_;replace hF := hG16 _ (Aq hF);exact rt
     ·refine Qi ?_;refine ih18 (IntKind.wrap .i64 (a14 + 1)) _ hF ?_;exact ⟨oy ok, wy ok⟩
    ·refine E9 ?_;replace hF := hG16 _ (Aq hF);exact ⟨(), hF, oy ok, wy ok⟩
  ·rintro ⟨⟩ s' hF ⟨ok, hws⟩;refine AC hws ?_;refine Hj ?_;exact rt
theorem I6 (p0 : Ac) (p1 : Int) {G : Bool -> Prop} (h : Heap) (hF : OptP (DC p0 p1) G) : CallsA prog 42 [.agg (Ad p0), .int .i64 p1] h fun d h' => ∃ r, G r /\ d = .bool r /\ h' = h := IH FUEL (p0, p1) G h hF
theorem Iy {β : Type} {f : Bool -> Option β} {G : β -> Prop} {R : D -> Heap -> Prop} {p0 : Ac} {p1 : Int} (h : Heap) (hF : OptP ((DC p0 p1).bind f) G) (hk : ∀ r, DC p0 p1 = some r -> OptP (f r) G -> R (.bool r) h) : CallsA prog 42 [.agg (Ad p0), .int .i64 p1] h R := by
 obtain ⟨r0, hr, hF⟩ := AZ hF;refine (I6 (G := fun r => r = r0) p0 p1 h ⟨r0, hr, rfl⟩).mono ?_;rintro _ _ ⟨r, rfl, rfl, rfl⟩;exact hk _ hr hF
theorem IX (p0 : Ac) {G : Bool -> Prop} (h : Heap) (hF : OptP (Cp p0) G) : CallsA prog 43 [.agg (Ad p0)] h fun d h' => ∃ r, G r /\ d = .bool r /\ h' = h := by
 refine CallsA.ret ?_;refine AO func43 rfl Ahk ntmps43 rfl (fun ok => ?_);rw [Cp] at hF;refine Bm ?_;refine Cc (v := .agg (Ad p0)) (cs := Ad p0) rfl rfl rfl rfl ?_;refine OY ?_;refine AS rfl D5 AA (by rw [Ab]; rfl) ?_;refine AE rfl (A6 (vs := Ar p0.Name) BI AA (by rw [Ab]; rfl) (by rw [Ab]; rfl)) ?_;refine DD (v := .agg (Ar (⟨[], []⟩ : Aa))) (GO C4 ED rfl) ?_;refine DG rfl rfl (Tb (b := ((p0.Name.URI == (⟨[], []⟩ : Aa).URI) && ((p0.Name.Local == (⟨[], []⟩ : Aa).Local) && true))) D1 DV (by simp only [Ar, EM, Fo, IC, DV, D1, Bw, Ax, AQ, Bw, Ax, AQ, Ge, Gg, Fs, Gi, Fr, Fl, EQ, List.drop_zero, List.drop_succ_cons, bi, bj, List.take_succ_cons, List.take_zero, Option.isSome_some, if_true, ba, Option.map_some, Nat.reduceAdd, Nat.reduceLeDiff])) ?_;refine Fm ?_;refine AF hF (fun (_ : Unit) s' => Zs h [] 108 [(1, .iptr (Ad p0)), (3, .bool ((p0.Name.URI == (⟨[], []⟩ : Aa).URI) && ((p0.Name.Local == (⟨[], []⟩ : Aa).Local) && true)))] s') (fun J16 hF => ?_) ?_
 ·refine Bm ?_;refine AS rfl BS Bg (by rw [Ab]; rfl) ?_;refine AE rfl (AJ Do Bg (congrArg (List.drop 4) (Ab p0))) ?_;refine Tl ?_;refine Bq (σ := Int) hF (fun (a17 : Int) s' => Zs h [] 108 [(1, .iptr (Ad p0)), (3, .bool ((p0.Name.URI == (⟨[], []⟩ : Aa).URI) && ((p0.Name.Local == (⟨[], []⟩ : Aa).Local) && true))), (12, .sl 6 (List.map Ad p0.Kids) 0), (13, .int .i64 (p0.Kids.length : Int)), (14, .int .i64 a17)] s') ?_ ?_
  ·exact ⟨oy ok, wy ok⟩
  ·rintro G18 hG19 rec20 a17 s' ih21 hF ⟨ok, hws⟩;refine AC hws ?_;rw [CT] at hF;refine Iq ?_;refine A3 rfl hF (fun hb22 hF => ?_) fun hb22 hF => ?_
   ·refine Ry ?_;refine CB (mdl [(5, 1)]) ?_;refine FJ rfl rfl DE Aw hF (fun x23 _ hF => ?_);refine AE rfl (A6 (vs := Ad x23) A7 Aw (by rw [Ab]; rfl) (by rw [Ab]; rfl)) ?_;refine Ca ok rfl DK ?_;intro i24 hi24 ok;refine Gd (j := 0) (cs' := [.int .i64 x23.Kind, .str x23.Name.URI, .str x23.Name.Local, .sl 3 (List.map Ao x23.Attrs) 0, .sl 6 (List.map Ad x23.Kids) 0, .str x23.Text]) ok rfl (congrArg D.agg (Ab x23)) rfl hi24 rfl Aw rfl rfl (fun ok => ?_);refine FL ?_;refine ZJ ?_;refine SI ?_;refine Qj ?_;refine A1 (b := (x23.Kind == 2)) 4 25 (.bool ((x23.Kind == 2) || (x23.Kind == 4))) (fun hb25 => ?_) (fun hb25 => ?_) ?_
    ·refine L0 ?_;exact th
    ·refine DZ ?_;refine ZJ ?_;refine Vp ?_;refine QI ?_;refine Jv ?_;exact th
    refine CZ ?_;refine A1 (b := ((x23.Kind == 2) || (x23.Kind == 4))) 4 30 (.bool (((x23.Kind == 2) || (x23.Kind == 4)) || (x23.Kind == 5))) (fun hb26 => ?_) (fun hb26 => ?_) ?_
    ·refine L0 ?_;exact th
    ·refine DZ ?_;refine ZJ ?_;refine Vp ?_;refine QI ?_;refine Jv ?_;exact th
    refine OY ?_;refine AS rfl Bn Av (by rw [Ab]; rfl) ?_;refine AE rfl (AJ BZ Av (congrArg (List.drop 0) (Ab p0))) ?_;refine Qj ?_;refine A1 (b := (p0.Kind == 1)) 2 36 (.bool ((p0.Kind == 1) && (((x23.Kind == 2) || (x23.Kind == 4)) || (x23.Kind == 5)))) (fun hb27 => ?_) (fun hb27 => ?_) ?_
    ·refine DZ ?_;refine CZ ?_;refine Gn ?_;exact th
    ·refine Ti ?_;exact th
    refine Vi ?_;refine A1 (b := (!((p0.Kind == 1) && (((x23.Kind == 2) || (x23.Kind == 4)) || (x23.Kind == 5))))) 13 51 (.bool ((!((p0.Kind == 1) && (((x23.Kind == 2) || (x23.Kind == 4)) || (x23.Kind == 5)))) && (!((p0.Kind == 2) && ((((x23.Kind == 2) || (x23.Kind == 4)) || (x23.Kind == 5)) || (x23.Kind == 3)))))) (fun hb28 => ?_) (fun hb28 => ?_) ?_
    ·refine DZ ?_;refine AS rfl Bn Av (by rw [Ab]; rfl) ?_;refine Bj ?_;refine AE rfl (AJ BZ Av (congrArg (List.drop 0) (Ab p0))) ?_;refine QI ?_;refine N4 ?_;refine A1 (b := (p0.Kind == 2)) 7 49 (.bool ((p0.Kind == 2) && ((((x23.Kind == 2) || (x23.Kind == 4)) || (x23.Kind == 5)) || (x23.Kind == 3)))) (fun hb32 => ?_) (fun hb32 => ?_) ?_
     ·refine DZ ?_;refine CZ ?_;refine N4 ?_;refine A1 (b := (((x23.Kind == 2) || (x23.Kind == 4)) || (x23.Kind == 5))) 4 48 (.bool ((((x23.Kind == 2) || (x23.Kind == 4)) || (x23.Kind == 5)) || (x23.Kind == 3))) (fun hb34 => ?_) (fun hb34 => ?_) ?_
      ·refine ZR ?_;exact th
      ·refine DZ ?_;refine ZJ ?_;refine Vp ?_;refine QI ?_;refine Vn ?_;exact th
      refine Vt ?_;exact th
     ·refine Nj ?_;refine Xq ?_;refine Tn ?_;refine Tu ?_;exact th
     refine DZ ?_;refine TS ?_;refine Gn ?_;exact th
    ·refine Ih ?_;refine Yz ?_;refine Wm ?_;refine HI ?_;exact th
    refine A8 ?_;refine A3 rfl hF (fun hb35 hF => ?_) fun hb35 hF => ?_
    ·refine Hj ?_;replace hF := hG19 _ (Aq hF);exact rt
    ·refine Qi ?_;refine ih21 (IntKind.wrap .i64 (a17 + 1)) _ hF ?_;exact ⟨oy ok, wy ok⟩
   ·refine E9 ?_;replace hF := hG19 _ (Aq hF);exact ⟨(), hF, oy ok, wy ok⟩
 ·rintro ⟨⟩ s' hF ⟨ok, hws⟩;refine AC hws ?_;refine X5 ?_;refine AS rfl Bn Av (by rw [Ab]; rfl) ?_;refine AE rfl (AJ BZ Av (congrArg (List.drop 0) (Ab p0))) ?_;refine W5 ?_;refine A3 rfl hF (fun hb36 hF => ?_) fun hb36 hF => ?_
  ·refine Bm ?_;refine ZD ?_;refine A1 (b := ((p0.Name.URI == (⟨[], []⟩ : Aa).URI) && ((p0.Name.Local == (⟨[], []⟩ : Aa).Local) && true))) 4 62 (.bool (((p0.Name.URI == (⟨[], []⟩ : Aa).URI) && ((p0.Name.Local == (⟨[], []⟩ : Aa).Local) && true)) && (p0.Text == []))) (fun hb37 => ?_) (fun hb37 => ?_) ?_
   ·refine DZ ?_;refine AS rfl Cu Ax (by rw [Ab]; rfl) ?_;refine Bj ?_;refine AE rfl (AJ Bw Ax (congrArg (List.drop 5) (Ab p0))) ?_;refine Bj ?_;refine Mg ?_;refine Gn ?_;exact th
   ·refine OZ ?_;exact th
   refine CZ ?_;refine A1 (b := (((p0.Name.URI == (⟨[], []⟩ : Aa).URI) && ((p0.Name.Local == (⟨[], []⟩ : Aa).Local) && true)) && (p0.Text == []))) 5 68 (.bool ((((p0.Name.URI == (⟨[], []⟩ : Aa).URI) && ((p0.Name.Local == (⟨[], []⟩ : Aa).Local) && true)) && (p0.Text == [])) && ((p0.Attrs.length : Int) == 0))) (fun hb38 => ?_) (fun hb38 => ?_) ?_
   ·refine DZ ?_;refine AS rfl Bu A0 (by rw [Ab]; rfl) ?_;refine Bj ?_;refine AE rfl (AJ C6 A0 (congrArg (List.drop 3) (Ab p0))) ?_;refine Bj ?_;refine XG ?_;refine Tt ?_;exact th
   ·refine Vo ?_;exact th
   refine Ft ?_;exact rt
  ·refine Qh ?_;refine A3 rfl hF (fun hb39 hF => ?_) fun hb39 hF => ?_
   ·refine Bm ?_;refine AS rfl Cu Ax (by rw [Ab]; rfl) ?_;refine AE rfl (AJ Bw Ax (congrArg (List.drop 5) (Ab p0))) ?_;refine Mg ?_;refine Ft ?_;exact rt
   ·refine AF hF (fun (a41 : Bool) s' => Zs h [] 108 [(1, .iptr (Ad p0)), (3, .bool ((p0.Name.URI == (⟨[], []⟩ : Aa).URI) && ((p0.Name.Local == (⟨[], []⟩ : Aa).Local) && true))), (54, .int .i64 p0.Kind), (74, .bool a41)] s') (fun J42 hF => ?_) ?_
    ·refine Qh ?_;refine A3 rfl hF (fun hb43 hF => ?_) fun hb43 hF => ?_
     ·refine Dx ?_;exact ⟨(p0.Kind == 3), hF, oy ok, wy ok⟩
     ·refine LZ ?_;refine Acb ?_;exact ⟨(p0.Kind == 4), hF, oy ok, wy ok⟩
    ·rintro a41 s' hF ⟨ok, hws⟩;refine AC hws ?_;refine A3 rfl hF (fun hb44 hF => ?_) fun hb44 hF => ?_
     ·refine Bm ?_;refine ZD ?_;refine A1 (b := ((p0.Name.URI == (⟨[], []⟩ : Aa).URI) && ((p0.Name.Local == (⟨[], []⟩ : Aa).Local) && true))) 5 83 (.bool (((p0.Name.URI == (⟨[], []⟩ : Aa).URI) && ((p0.Name.Local == (⟨[], []⟩ : Aa).Local) && true)) && ((p0.Attrs.length : Int) == 0))) (fun hb45 => ?_) (fun hb45 => ?_) ?_
      ·refine DZ ?_;refine AS rfl Bu A0 (by rw [Ab]; rfl) ?_;refine Bj ?_;refine AE rfl (AJ C6 A0 (congrArg (List.drop 3) (Ab p0))) ?_;refine Bj ?_;refine XG ?_;refine Tt ?_;exact th
      ·refine Vo ?_;exact th
      refine CZ ?_;refine A1 (b := (((p0.Name.URI == (⟨[], []⟩ : Aa).URI) && ((p0.Name.Local == (⟨[], []⟩ : Aa).Local) && true)) && ((p0.Attrs.length : Int) == 0))) 5 89 (.bool ((((p0.Name.URI == (⟨[], []⟩ : Aa).URI) && ((p0.Name.Local == (⟨[], []⟩ : Aa).Local) && true)) && ((p0.Attrs.length : Int) == 0)) && ((p0.Kids.length : Int) == 0))) (fun hb46 => ?_) (fun hb46 => ?_) ?_
      ·refine DZ ?_;refine AS rfl BS Bg (by rw [Ab]; rfl) ?_;refine Bj ?_;refine AE rfl (AJ Do Bg (congrArg (List.drop 4) (Ab p0))) ?_;refine Bj ?_;refine YP ?_;refine Tt ?_;exact th
      ·refine Vo ?_;exact th
      refine Ft ?_;exact rt
     ·refine Qh ?_;refine A3 rfl hF (fun hb47 hF => ?_) fun hb47 hF => ?_
      ·refine Bm ?_;refine AS rfl D5 AA (by rw [Ab]; rfl) ?_;refine AS rfl Jr Ax (by rw [Ab]; rfl) ?_;refine AE rfl (AJ Bw Ax (congrArg (List.drop 0) (congrArg (List.drop 1) (Ab p0)))) ?_;refine Mg ?_;refine CZ ?_;refine A1 (b := (p0.Name.URI == [])) 5 101 (.bool ((p0.Name.URI == []) && ((p0.Attrs.length : Int) == 0))) (fun hb48 => ?_) (fun hb48 => ?_) ?_
       ·refine DZ ?_;refine AS rfl Bu A0 (by rw [Ab]; rfl) ?_;refine Bj ?_;refine AE rfl (AJ C6 A0 (congrArg (List.drop 3) (Ab p0))) ?_;refine Bj ?_;refine XG ?_;refine Tt ?_;exact th
       ·refine Vo ?_;exact th
       refine CZ ?_;refine A1 (b := ((p0.Name.URI == []) && ((p0.Attrs.length : Int) == 0))) 5 107 (.bool (((p0.Name.URI == []) && ((p0.Attrs.length : Int) == 0)) && ((p0.Kids.length : Int) == 0))) (fun hb49 => ?_) (fun hb49 => ?_) ?_
       ·refine DZ ?_;refine AS rfl BS Bg (by rw [Ab]; rfl) ?_;refine Bj ?_;refine AE rfl (AJ Do Bg (congrArg (List.drop 4) (Ab p0))) ?_;refine Bj ?_;refine YP ?_;refine Tt ?_;exact th
       ·refine Vo ?_;exact th
       refine Ft ?_;exact rt
      ·refine Vj ?_;exact rt
theorem Ix {β : Type} {f : Bool -> Option β} {G : β -> Prop} {R : D -> Heap -> Prop} {p0 : Ac} (h : Heap) (hF : OptP ((Cp p0).bind f) G) (hk : ∀ r, Cp p0 = some r -> OptP (f r) G -> R (.bool r) h) : CallsA prog 43 [.agg (Ad p0)] h R := by
 obtain ⟨r0, hr, hF⟩ := AZ hF;refine (IX (G := fun r => r = r0) p0 h ⟨r0, hr, rfl⟩).mono ?_;rintro _ _ ⟨r, rfl, rfl, rfl⟩;exact hk _ hr hF
theorem IQ (p0 : Ac) {G : Bool -> Prop} (h : Heap) (hF : OptP (Cl p0) G) : CallsA prog 44 [.agg (Ad p0)] h fun d h' => ∃ r, G r /\ d = .bool r /\ h' = h := by
 refine CallsA.ret ?_;refine AO func44 rfl Ahb ntmps44 rfl (fun ok => ?_);rw [Cl] at hF;refine Bm ?_;refine Cc (v := .agg (Ad p0)) (cs := Ad p0) rfl rfl rfl rfl ?_;refine Fm ?_;refine AF hF (fun (_ : Unit) s' => Zs h [] 27 [(1, .iptr (Ad p0))] s') (fun J6 hF => ?_) ?_
 ·refine Bm ?_;refine AS rfl Bu A0 (by rw [Ab]; rfl) ?_;refine AE rfl (AJ C6 A0 (congrArg (List.drop 3) (Ab p0))) ?_;refine Z0 ?_;refine Bq (σ := Int) hF (fun (a7 : Int) s' => Zs h [] 27 [(1, .iptr (Ad p0)), (6, .sl 3 (List.map Ao p0.Attrs) 0), (7, .int .i64 (p0.Attrs.length : Int)), (8, .int .i64 a7)] s') ?_ ?_
  ·exact ⟨oy ok, wy ok⟩
  ·rintro G8 hG9 rec10 a7 s' ih11 hF ⟨ok, hws⟩;refine AC hws ?_;rw [CV] at hF;refine Iq ?_;refine A3 rfl hF (fun hb12 hF => ?_) fun hb12 hF => ?_
   ·refine Ry ?_;refine CB (mdl [(4, 1)]) ?_;refine FJ rfl rfl FF Ds hF (fun x13 _ hF => ?_);refine AE rfl (A6 (vs := Ao x13) KD Ds rfl rfl) ?_;refine Ca ok rfl Jo ?_;intro i14 hi14 ok;refine Gd (j := 0) (cs' := [.str x13.Name.URI, .str x13.Name.Local, .str x13.Value]) ok rfl rfl rfl hi14 rfl Ds rfl rfl (fun ok => ?_);refine FL ?_;refine DF rfl HM Ax ?_;refine Y0 ?_;refine Aab ?_;refine A3 rfl hF (fun hb15 hF => ?_) fun hb15 hF => ?_
    ·refine Hj ?_;replace hF := hG9 _ (Aq hF);exact rt
    ·refine Qi ?_;refine ih11 (IntKind.wrap .i64 (a7 + 1)) _ hF ?_;exact ⟨oy ok, wy ok⟩
   ·refine E9 ?_;replace hF := hG9 _ (Aq hF);exact ⟨(), hF, oy ok, wy ok⟩
 ·rintro ⟨⟩ s' hF ⟨ok, hws⟩;refine AC hws ?_;refine Bm ?_;refine AS rfl Bu A0 (by rw [Ab]; rfl) ?_;refine AE rfl (AJ C6 A0 (congrArg (List.drop 3) (Ab p0))) ?_;refine XG ?_;refine S8 ?_;refine CZ ?_;refine A1 (b := (decide ((p0.Attrs.length : Int) <= 64))) 5 26 (.bool ((decide ((p0.Attrs.length : Int) <= 64)) && (decide ((p0.Text.length : Int) <= 8192)))) (fun hb16 => ?_) (fun hb16 => ?_) ?_
  ·refine DZ ?_;refine AS rfl Cu Ax (by rw [Ab]; rfl) ?_;refine Bj ?_;refine AE rfl (AJ Bw Ax (congrArg (List.drop 5) (Ab p0))) ?_;refine Bj ?_;refine Wc ?_;refine S8 ?_;refine Gn ?_;exact th
  ·refine Vo ?_;exact th
  refine Ft ?_;exact rt
theorem Ie {β : Type} {f : Bool -> Option β} {G : β -> Prop} {R : D -> Heap -> Prop} {p0 : Ac} (h : Heap) (hF : OptP ((Cl p0).bind f) G) (hk : ∀ r, Cl p0 = some r -> OptP (f r) G -> R (.bool r) h) : CallsA prog 44 [.agg (Ad p0)] h R := by
 obtain ⟨r0, hr, hF⟩ := AZ hF;refine (IQ (G := fun r => r = r0) p0 h ⟨r0, hr, rfl⟩).mono ?_;rintro _ _ ⟨r, rfl, rfl, rfl⟩;exact hk _ hr hF
theorem Jg (p0 : List By8) (p1 : Int) {G : Int × Int -> Prop} (h : Heap) (hF : OptP (BJ p0 p1) G) : CallsA prog 61 [.sl 1 (List.map OX p0) 0, .int .i64 p1] h fun d h' => ∃ r, G r /\ d = .tup [.int .i64 r.1, .int .i64 r.2] /\ h' = h := by
 refine CallsA.ret ?_;refine AO func61 rfl Afe ntmps61 rfl (fun ok => ?_);rw [BJ] at hF;refine Bm ?_;refine Rg ?_;refine Z1 ?_;refine FJ rfl rfl Hv Hi hF (fun x1 _ hF => ?_);refine Afo ?_;refine Ld rfl (Aeg Qo Qq) ?_;refine Jj ?_;refine Gq ?_;refine V4 ?_;refine AF hF (fun (v : Int × Int × Int) s' => match v with | (a9, a10, a11) => Zs h [] 95 [(0, .sl 1 (List.map OX p0) 0), (1, .int .i64 p1), (7, .int .i64 a9), (8, .int .i64 a10), (9, .int .i64 a11)] s') (fun J12 hF => ?_) ?_
 ·refine Lw ?_;refine Gq ?_;refine Ys ?_;refine Fm ?_;refine A3 rfl hF (fun hb13 hF => ?_) fun hb13 hF => ?_
  ·refine Gq ?_;refine OW ?_;exact rt
  ·refine Tj ?_;refine A1 (b := (decide (192 <= (IntKind.wrap .i64 (x1.toNat : Int))))) 3 28 (.bool ((decide (192 <= (IntKind.wrap .i64 (x1.toNat : Int)))) && (decide ((IntKind.wrap .i64 (x1.toNat : Int)) < 224)))) (fun hb14 => ?_) (fun hb14 => ?_) ?_
   ·refine ZK ?_;refine Gn ?_;exact th
   ·refine HI ?_;exact th
   refine Fm ?_;refine A3 rfl hF (fun hb15 hF => ?_) fun hb15 hF => ?_
   ·refine SN ?_;refine MU ?_;refine V4 ?_;exact ⟨(2, (IntKind.wrap .i64 ((IntKind.wrap .i64 (x1.toNat : Int)) - 192)), 128), hF, oy ok, wy ok⟩
   ·refine Tj ?_;refine A1 (b := (decide (224 <= (IntKind.wrap .i64 (x1.toNat : Int))))) 3 37 (.bool ((decide (224 <= (IntKind.wrap .i64 (x1.toNat : Int)))) && (decide ((IntKind.wrap .i64 (x1.toNat : Int)) < 240)))) (fun hb16 => ?_) (fun hb16 => ?_) ?_
    ·refine ZK ?_;refine Gn ?_;exact th
    ·refine HI ?_;exact th
    refine Fm ?_;refine A3 rfl hF (fun hb17 hF => ?_) fun hb17 hF => ?_
    ·refine SN ?_;refine MU ?_;refine V4 ?_;exact ⟨(3, (IntKind.wrap .i64 ((IntKind.wrap .i64 (x1.toNat : Int)) - 224)), 2048), hF, oy ok, wy ok⟩
    ·refine Tj ?_;refine A1 (b := (decide (240 <= (IntKind.wrap .i64 (x1.toNat : Int))))) 3 46 (.bool ((decide (240 <= (IntKind.wrap .i64 (x1.toNat : Int)))) && (decide ((IntKind.wrap .i64 (x1.toNat : Int)) < 248)))) (fun hb18 => ?_) (fun hb18 => ?_) ?_
     ·refine ZK ?_;refine Gn ?_;exact th
     ·refine HI ?_;exact th
     refine Fm ?_;refine A3 rfl hF (fun hb19 hF => ?_) fun hb19 hF => ?_
     ·refine SN ?_;refine MU ?_;refine V4 ?_;exact ⟨(4, (IntKind.wrap .i64 ((IntKind.wrap .i64 (x1.toNat : Int)) - 240)), 65536), hF, oy ok, wy ok⟩
     ·refine Zy ?_;exact rt
 ·rintro ⟨a9, a10, a11⟩ s' hF ⟨ok, hws⟩;refine AC hws ?_;refine JE ?_;refine V3 ?_;refine M8 ?_;refine Yy ?_;refine Aab ?_;refine A3 rfl hF (fun hb20 hF => ?_) fun hb20 hF => ?_
  ·refine Zy ?_;exact rt
  ·refine Dx ?_;refine AF hF (fun (a27 : Int) s' => Zs h [] 95 [(7, .int .i64 a9), (8, .int .i64 a27), (9, .int .i64 a11)] s') (fun J28 hF => ?_) ?_
   ·refine YG ?_;refine Bq (σ := Int × Int) hF (fun (v : Int × Int) s' => match v with | (a29, a30) => Zs h [] 95 [(0, .sl 1 (List.map OX p0) 0), (1, .int .i64 p1), (7, .int .i64 a9), (8, .int .i64 a29), (9, .int .i64 a11), (10, .int .i64 a30)] s') ?_ ?_
    ·exact ⟨oy ok, wy ok⟩
    ·rintro G31 hG32 rec33 ⟨a29, a30⟩ s' ih34 hF ⟨ok, hws⟩;refine AC hws ?_;rw [Au] at hF;refine Ye ?_;refine Ps ?_;refine A3 rfl hF (fun hb35 hF => ?_) fun hb35 hF => ?_
     ·refine X1 ?_;refine Z1 ?_;refine V3 ?_;refine FJ rfl rfl Hv Hi hF (fun x36 _ hF => ?_);refine Afo ?_;refine Ld rfl (Aeg Qo Qq) ?_;refine Jj ?_;refine JE ?_;refine WV ?_;refine A1 (b := (decide ((IntKind.wrap .i64 (x36.toNat : Int)) < 128))) 3 72 (.bool ((decide ((IntKind.wrap .i64 (x36.toNat : Int)) < 128)) || (decide (191 < (IntKind.wrap .i64 (x36.toNat : Int)))))) (fun hb37 => ?_) (fun hb37 => ?_) ?_
      ·refine LD ?_;exact th
      ·refine MZ ?_;refine W2 ?_;exact th
      refine A8 ?_;refine A3 rfl hF (fun hb38 hF => ?_) fun hb38 hF => ?_
      ·refine Zy ?_;replace hF := hG32 _ (Aq hF);exact rt
      ·refine ZQ ?_;refine DG rfl rfl (XB ..) ?_;refine V3 ?_;refine MU ?_;refine Jj ?_;refine S9 ?_;refine ih34 ((IntKind.wrap .i64 ((IntKind.wrap .i64 ((IntKind.wrap .i64 (64 * a29)) + (IntKind.wrap .i64 (x36.toNat : Int)))) - 128)), (IntKind.wrap .i64 (a30 + 1))) _ hF ?_;exact ⟨oy ok, wy ok⟩
     ·refine E9 ?_;replace hF := hG32 _ (Aq hF);exact ⟨a29, hF, oy ok, wy ok⟩
   ·rintro a27 s' hF ⟨ok, hws⟩;refine AC hws ?_;refine Ye ?_;refine WV ?_;refine A1 (b := (decide (a27 < a11))) 3 84 (.bool ((decide (a27 < a11)) || (decide (1114111 < a27)))) (fun hb39 => ?_) (fun hb39 => ?_) ?_
    ·refine LD ?_;exact th
    ·refine MZ ?_;refine W2 ?_;exact th
    refine CZ ?_;refine A1 (b := ((decide (a27 < a11)) || (decide (1114111 < a27)))) 7 92 (.bool (((decide (a27 < a11)) || (decide (1114111 < a27))) || ((decide (55296 <= a27)) && (decide (a27 <= 57343))))) (fun hb40 => ?_) (fun hb40 => ?_) ?_
    ·refine X2 ?_;exact th
    ·refine XF ?_;refine A1 (b := (decide (55296 <= a27))) 3 91 (.bool ((decide (55296 <= a27)) && (decide (a27 <= 57343)))) (fun hb42 => ?_) (fun hb42 => ?_) ?_
     ·refine XA ?_;exact th
     ·refine We ?_;exact th
     refine M0 ?_;exact th
    refine A8 ?_;refine A3 rfl hF (fun hb43 hF => ?_) fun hb43 hF => ?_
    ·refine Zy ?_;exact rt
    ·refine Dx ?_;refine Qf ?_;refine OW ?_;exact rt
theorem FK {β : Type} {f : Int × Int -> Option β} {G : β -> Prop} {R : D -> Heap -> Prop} {p0 : List By8} {p1 : Int} (h : Heap) (hF : OptP ((BJ p0 p1).bind f) G) (hk : ∀ r, BJ p0 p1 = some r -> OptP (f r) G -> R (.tup [.int .i64 r.1, .int .i64 r.2]) h) : CallsA prog 61 [.sl 1 (List.map OX p0) 0, .int .i64 p1] h R := by
 obtain ⟨r0, hr, hF⟩ := AZ hF;refine (Jg (G := fun r => r = r0) p0 p1 h ⟨r0, hr, rfl⟩).mono ?_;rintro _ _ ⟨r, rfl, rfl, rfl⟩;exact hk _ hr hF
theorem If (p0 : Int) {G : Bool -> Prop} (h : Heap) (hF : OptP (BO p0) G) : CallsA prog 63 [.int .i64 p0] h fun d h' => ∃ r, G r /\ d = .bool r /\ h' = h := by
 refine CallsA.ret ?_;refine AO func63 rfl Ahf ntmps63 rfl (fun ok => ?_);rw [BO] at hF;refine Aad ?_;refine Lw ?_;refine AF hF (fun (a5 : Bool) s' => Zs h [] 83 [(0, .int .i64 p0), (3, .bool a5)] s') (fun J6 hF => ?_) ?_
 ·refine Tj ?_;refine A1 (b := (decide (65 <= p0))) 3 9 (.bool ((decide (65 <= p0)) && (decide (p0 <= 90)))) (fun hb7 => ?_) (fun hb7 => ?_) ?_
  ·refine Ss ?_;exact th
  ·refine HI ?_;exact th
  refine Fm ?_;refine A3 rfl hF (fun hb8 hF => ?_) fun hb8 hF => ?_
  ·refine Dx ?_;exact ⟨((decide (65 <= p0)) && (decide (p0 <= 90))), hF, oy ok, wy ok⟩
  ·refine Gq ?_;refine Acb ?_;refine A3 rfl hF (fun hb9 hF => ?_) fun hb9 hF => ?_
   ·refine Dx ?_;exact ⟨(p0 == 95), hF, oy ok, wy ok⟩
   ·refine SN ?_;refine Ael ?_;refine A1 (b := (decide (97 <= p0))) 3 17 (.bool ((decide (97 <= p0)) && (decide (p0 <= 122)))) (fun hb10 => ?_) (fun hb10 => ?_) ?_
    ·refine Ss ?_;exact th
    ·refine HI ?_;exact th
    refine Fm ?_;exact ⟨((decide (97 <= p0)) && (decide (p0 <= 122))), hF, oy ok, wy ok⟩
 ·rintro a5 s' hF ⟨ok, hws⟩;refine AC hws ?_;refine A3 rfl hF (fun hb11 hF => ?_) fun hb11 hF => ?_
  ·refine Hj ?_;exact rt
  ·refine Tj ?_;refine A1 (b := (decide (192 <= p0))) 3 24 (.bool ((decide (192 <= p0)) && (decide (p0 <= 767)))) (fun hb12 => ?_) (fun hb12 => ?_) ?_
   ·refine Ss ?_;exact th
   ·refine HI ?_;exact th
   refine Fm ?_;refine A3 rfl hF (fun hb13 hF => ?_) fun hb13 hF => ?_
   ·refine Gq ?_;refine Xc ?_;refine A1 (b := (p0 != 215)) 3 30 (.bool ((p0 != 215) && (p0 != 247))) (fun hb14 => ?_) (fun hb14 => ?_) ?_
    ·refine MZ ?_;refine Xw ?_;refine Gn ?_;exact th
    ·refine HI ?_;exact th
    refine Ft ?_;exact rt
   ·refine Tj ?_;refine A1 (b := (decide (880 <= p0))) 3 37 (.bool ((decide (880 <= p0)) && (decide (p0 <= 8191)))) (fun hb15 => ?_) (fun hb15 => ?_) ?_
    ·refine Ss ?_;exact th
    ·refine HI ?_;exact th
    refine Fm ?_;refine A3 rfl hF (fun hb16 hF => ?_) fun hb16 hF => ?_
    ·refine Gq ?_;refine Xw ?_;refine Ft ?_;exact rt
    ·refine AF hF (fun (a18 : Bool) s' => Zs h [] 83 [(0, .int .i64 p0), (40, .bool a18)] s') (fun J19 hF => ?_) ?_
     ·refine Gq ?_;refine Acb ?_;refine A3 rfl hF (fun hb20 hF => ?_) fun hb20 hF => ?_
      ·refine Dx ?_;exact ⟨(p0 == 8204), hF, oy ok, wy ok⟩
      ·refine SN ?_;refine Acb ?_;exact ⟨(p0 == 8205), hF, oy ok, wy ok⟩
     ·rintro a18 s' hF ⟨ok, hws⟩;refine AC hws ?_;refine A3 rfl hF (fun hb21 hF => ?_) fun hb21 hF => ?_
      ·refine Hj ?_;exact rt
      ·refine AF hF (fun (a27 : Bool) s' => Zs h [] 83 [(0, .int .i64 p0), (45, .bool a27)] s') (fun J28 hF => ?_) ?_
       ·refine Tj ?_;refine A1 (b := (decide (8304 <= p0))) 3 51 (.bool ((decide (8304 <= p0)) && (decide (p0 <= 8591)))) (fun hb29 => ?_) (fun hb29 => ?_) ?_
        ·refine Ss ?_;exact th
        ·refine HI ?_;exact th
        refine Fm ?_;refine A3 rfl hF (fun hb30 hF => ?_) fun hb30 hF => ?_
        ·refine Dx ?_;exact ⟨((decide (8304 <= p0)) && (decide (p0 <= 8591))), hF, oy ok, wy ok⟩
        ·refine Tj ?_;refine A1 (b := (decide (11264 <= p0))) 3 57 (.bool ((decide (11264 <= p0)) && (decide (p0 <= 12271)))) (fun hb31 => ?_) (fun hb31 => ?_) ?_
         ·refine Ss ?_;exact th
         ·refine HI ?_;exact th
         refine Fm ?_;refine A3 rfl hF (fun hb32 hF => ?_) fun hb32 hF => ?_
         ·refine Dx ?_;exact ⟨((decide (11264 <= p0)) && (decide (p0 <= 12271))), hF, oy ok, wy ok⟩
         ·refine SN ?_;refine Ael ?_;refine A1 (b := (decide (12289 <= p0))) 3 63 (.bool ((decide (12289 <= p0)) && (decide (p0 <= 55295)))) (fun hb33 => ?_) (fun hb33 => ?_) ?_
          ·refine Ss ?_;exact th
          ·refine HI ?_;exact th
          refine Fm ?_;exact ⟨((decide (12289 <= p0)) && (decide (p0 <= 55295))), hF, oy ok, wy ok⟩
       ·rintro a27 s' hF ⟨ok, hws⟩;refine AC hws ?_;refine A3 rfl hF (fun hb34 hF => ?_) fun hb34 hF => ?_
        ·refine Hj ?_;exact rt
        ·refine Tj ?_;refine A1 (b := (decide (63744 <= p0))) 3 70 (.bool ((decide (63744 <= p0)) && (decide (p0 <= 65533)))) (fun hb35 => ?_) (fun hb35 => ?_) ?_
         ·refine Ss ?_;exact th
         ·refine HI ?_;exact th
         refine Fm ?_;refine A3 rfl hF (fun hb36 hF => ?_) fun hb36 hF => ?_
         ·refine Gq ?_;refine WV ?_;refine A1 (b := (decide (p0 < 64976))) 3 76 (.bool ((decide (p0 < 64976)) || (decide (65008 <= p0)))) (fun hb37 => ?_) (fun hb37 => ?_) ?_
          ·refine LD ?_;exact th
          ·refine Ah8 ?_;refine Jv ?_;exact th
          refine Ft ?_;exact rt
         ·refine Dx ?_;refine Tj ?_;refine A1 (b := (decide (65536 <= p0))) 3 82 (.bool ((decide (65536 <= p0)) && (decide (p0 <= 983039)))) (fun hb38 => ?_) (fun hb38 => ?_) ?_
          ·refine Ss ?_;exact th
          ·refine HI ?_;exact th
          refine Ft ?_;exact rt
theorem Fv {β : Type} {f : Bool -> Option β} {G : β -> Prop} {R : D -> Heap -> Prop} {p0 : Int} (h : Heap) (hF : OptP ((BO p0).bind f) G) (hk : ∀ r, BO p0 = some r -> OptP (f r) G -> R (.bool r) h) : CallsA prog 63 [.int .i64 p0] h R := by
 obtain ⟨r0, hr, hF⟩ := AZ hF;refine (If (G := fun r => r = r0) p0 h ⟨r0, hr, rfl⟩).mono ?_;rintro _ _ ⟨r, rfl, rfl, rfl⟩;exact hk _ hr hF
theorem I0 (p0 : Int) {G : Bool -> Prop} (h : Heap) (hF : OptP (Co p0) G) : CallsA prog 62 [.int .i64 p0] h fun d h' => ∃ r, G r /\ d = .bool r /\ h' = h := by
 refine CallsA.ret ?_;refine AO func62 rfl Af7 ntmps62 rfl (fun ok => ?_);rw [Co] at hF;refine Nr ?_;refine Gq ?_;refine cl (Fv _ hF fun x1 _ hF => ?_);refine CZ ?_;refine A1 (b := x1) 3 8 (.bool (x1 || (p0 == 45))) (fun hb2 => ?_) (fun hb2 => ?_) ?_
 ·refine LD ?_;exact th
 ·refine PS ?_;exact th
 refine CZ ?_;refine A1 (b := (x1 || (p0 == 45))) 3 12 (.bool ((x1 || (p0 == 45)) || (p0 == 46))) (fun hb3 => ?_) (fun hb3 => ?_) ?_
 ·refine LD ?_;exact th
 ·refine PS ?_;exact th
 refine CZ ?_;refine A1 (b := ((x1 || (p0 == 45)) || (p0 == 46))) 7 20 (.bool (((x1 || (p0 == 45)) || (p0 == 46)) || ((decide (48 <= p0)) && (decide (p0 <= 57))))) (fun hb4 => ?_) (fun hb4 => ?_) ?_
 ·refine X2 ?_;exact th
 ·refine XF ?_;refine A1 (b := (decide (48 <= p0))) 3 19 (.bool ((decide (48 <= p0)) && (decide (p0 <= 57)))) (fun hb6 => ?_) (fun hb6 => ?_) ?_
  ·refine XA ?_;exact th
  ·refine We ?_;exact th
  refine M0 ?_;exact th
 refine CZ ?_;refine A1 (b := (((x1 || (p0 == 45)) || (p0 == 46)) || ((decide (48 <= p0)) && (decide (p0 <= 57))))) 3 24 (.bool ((((x1 || (p0 == 45)) || (p0 == 46)) || ((decide (48 <= p0)) && (decide (p0 <= 57)))) || (p0 == 183))) (fun hb7 => ?_) (fun hb7 => ?_) ?_
 ·refine LD ?_;exact th
 ·refine PS ?_;exact th
 refine CZ ?_;refine A1 (b := ((((x1 || (p0 == 45)) || (p0 == 46)) || ((decide (48 <= p0)) && (decide (p0 <= 57)))) || (p0 == 183))) 7 32 (.bool (((((x1 || (p0 == 45)) || (p0 == 46)) || ((decide (48 <= p0)) && (decide (p0 <= 57)))) || (p0 == 183)) || ((decide (768 <= p0)) && (decide (p0 <= 879))))) (fun hb8 => ?_) (fun hb8 => ?_) ?_
 ·refine X2 ?_;exact th
 ·refine XF ?_;refine A1 (b := (decide (768 <= p0))) 3 31 (.bool ((decide (768 <= p0)) && (decide (p0 <= 879)))) (fun hb10 => ?_) (fun hb10 => ?_) ?_
  ·refine XA ?_;exact th
  ·refine We ?_;exact th
  refine M0 ?_;exact th
 refine CZ ?_;refine A1 (b := (((((x1 || (p0 == 45)) || (p0 == 46)) || ((decide (48 <= p0)) && (decide (p0 <= 57)))) || (p0 == 183)) || ((decide (768 <= p0)) && (decide (p0 <= 879))))) 3 36 (.bool ((((((x1 || (p0 == 45)) || (p0 == 46)) || ((decide (48 <= p0)) && (decide (p0 <= 57)))) || (p0 == 183)) || ((decide (768 <= p0)) && (decide (p0 <= 879)))) || (p0 == 8255))) (fun hb11 => ?_) (fun hb11 => ?_) ?_
 ·refine LD ?_;exact th
 ·refine PS ?_;exact th
 refine CZ ?_;refine A1 (b := ((((((x1 || (p0 == 45)) || (p0 == 46)) || ((decide (48 <= p0)) && (decide (p0 <= 57)))) || (p0 == 183)) || ((decide (768 <= p0)) && (decide (p0 <= 879)))) || (p0 == 8255))) 3 40 (.bool (((((((x1 || (p0 == 45)) || (p0 == 46)) || ((decide (48 <= p0)) && (decide (p0 <= 57)))) || (p0 == 183)) || ((decide (768 <= p0)) && (decide (p0 <= 879)))) || (p0 == 8255)) || (p0 == 8256))) (fun hb12 => ?_) (fun hb12 => ?_) ?_
 ·refine LD ?_;exact th
 ·refine PS ?_;exact th
 refine Ft ?_;exact rt
theorem Ig {β : Type} {f : Bool -> Option β} {G : β -> Prop} {R : D -> Heap -> Prop} {p0 : Int} (h : Heap) (hF : OptP ((Co p0).bind f) G) (hk : ∀ r, Co p0 = some r -> OptP (f r) G -> R (.bool r) h) : CallsA prog 62 [.int .i64 p0] h R := by
 obtain ⟨r0, hr, hF⟩ := AZ hF;refine (I0 (G := fun r => r = r0) p0 h ⟨r0, hr, rfl⟩).mono ?_;rintro _ _ ⟨r, rfl, rfl, rfl⟩;exact hk _ hr hF
theorem IL (p0 : List By8) {G : Bool -> Prop} (h : Heap) (hF : OptP (BY p0) G) : CallsA prog 28 [.str p0] h fun d h' => ∃ r, G r /\ d = .bool r /\ h' = h := by
 refine CallsA.ret ?_;refine AO func28 rfl Agv ntmps28 rfl (fun ok => ?_);rw [BY] at hF;refine Z4 ?_;refine Agb ?_;refine WK ?_;refine IM ?_;refine Kd ?_;refine Yy ?_;refine Qj ?_;refine A1 (b := ((p0.length : Int) == 0)) 4 16 (.bool (((p0.length : Int) == 0) || (decide (100 < (p0.length : Int))))) (fun hb1 => ?_) (fun hb1 => ?_) ?_
 ·refine L0 ?_;exact th
 ·refine Sj ?_;refine Yy ?_;refine Bj ?_;refine W2 ?_;exact th
 refine A8 ?_;refine A3 rfl hF (fun hb2 hF => ?_) fun hb2 hF => ?_
 ·refine Hj ?_;exact rt
 ·refine Dx ?_;refine AF hF (fun (_ : Unit) s' => Zs h [] 46 [] s') (fun J18 hF => ?_) ?_
  ·refine YG ?_;refine Bq (σ := Int) hF (fun (a19 : Int) s' => Zs h [] 46 [(3, .sl 1 (List.map OX p0) 0), (4, .int .i64 a19)] s') ?_ ?_
   ·exact ⟨oy ok, wy ok⟩
   ·rintro G20 hG21 rec22 a19 s' ih23 hF ⟨ok, hws⟩;refine AC hws ?_;rw [CY] at hF;refine JE ?_;refine M8 ?_;refine Yy ?_;refine Ps ?_;refine A3 rfl hF (fun hb24 hF => ?_) fun hb24 hF => ?_
    ·refine U2 ?_;refine Z1 ?_;refine cl (FK _ hF fun x25 _ hF => ?_);refine Vz ?_;refine JE ?_;refine Qj ?_;refine Bd 4 33 hF (fun J27 hb26 hF => ?_) (fun J27 hb26 hF => ?_) (fun v28 hF => ?_)
     ·refine L0 ?_;exact tw
     ·refine MZ ?_;refine cl (Ig _ hF fun x29 _ hF => ?_);refine XN ?_;exact tw
     ·refine CZ ?_;refine Bd 8 42 hF (fun J31 hb30 hF => ?_) (fun J31 hb30 hF => ?_) (fun v32 hF => ?_)
      ·refine Aer ?_;refine Zo ?_;refine VA ?_;exact tw
      ·refine Xi ?_;refine N4 ?_;refine Bd 4 41 hF (fun J34 hb33 hF => ?_) (fun J34 hb33 hF => ?_) (fun v35 hF => ?_)
       ·refine MZ ?_;refine cl (Fv _ hF fun x36 _ hF => ?_);refine Aet ?_;refine Xz ?_;exact tw
       ·refine Rw ?_;refine Tu ?_;exact tw
       ·refine M0 ?_;exact tw
      ·refine A8 ?_;refine A3 rfl hF (fun hb37 hF => ?_) fun hb37 hF => ?_
       ·refine Hj ?_;replace hF := hG21 _ (Aq hF);exact rt
       ·refine ZQ ?_;refine FI ?_;refine ZS ?_;refine ih23 (IntKind.wrap .i64 (a19 + x25.2)) _ hF ?_;exact ⟨oy ok, wy ok⟩
    ·refine E9 ?_;replace hF := hG21 _ (Aq hF);exact ⟨(), hF, oy ok, wy ok⟩
  ·rintro ⟨⟩ s' hF ⟨ok, hws⟩;refine AC hws ?_;refine Hj ?_;exact rt
theorem FQ {β : Type} {f : Bool -> Option β} {G : β -> Prop} {R : D -> Heap -> Prop} {p0 : List By8} (h : Heap) (hF : OptP ((BY p0).bind f) G) (hk : ∀ r, BY p0 = some r -> OptP (f r) G -> R (.bool r) h) : CallsA prog 28 [.str p0] h R := by
 obtain ⟨r0, hr, hF⟩ := AZ hF;refine (IL (G := fun r => r = r0) p0 h ⟨r0, hr, rfl⟩).mono ?_;rintro _ _ ⟨r, rfl, rfl, rfl⟩;exact hk _ hr hF
theorem I3 (p0 : Int) {G : Bool -> Prop} (h : Heap) (hF : OptP (Ci p0) G) : CallsA prog 165 [.int .i64 p0] h fun d h' => ∃ r, G r /\ d = .bool r /\ h' = h := by
 refine CallsA.ret ?_;refine AO func165 rfl Ab0 ntmps165 rfl (fun ok => ?_);rw [Ci] at hF;refine Nr ?_;refine Ws ?_;refine A1 (b := (p0 == 9)) 3 8 (.bool ((p0 == 9) || (p0 == 10))) (fun hb1 => ?_) (fun hb1 => ?_) ?_
 ·refine LD ?_;exact th
 ·refine PS ?_;exact th
 refine CZ ?_;refine A1 (b := ((p0 == 9) || (p0 == 10))) 3 12 (.bool (((p0 == 9) || (p0 == 10)) || (p0 == 13))) (fun hb2 => ?_) (fun hb2 => ?_) ?_
 ·refine LD ?_;exact th
 ·refine PS ?_;exact th
 refine CZ ?_;refine A1 (b := (((p0 == 9) || (p0 == 10)) || (p0 == 13))) 7 20 (.bool ((((p0 == 9) || (p0 == 10)) || (p0 == 13)) || ((decide (32 <= p0)) && (decide (p0 <= 55295))))) (fun hb3 => ?_) (fun hb3 => ?_) ?_
 ·refine X2 ?_;exact th
 ·refine XF ?_;refine A1 (b := (decide (32 <= p0))) 3 19 (.bool ((decide (32 <= p0)) && (decide (p0 <= 55295)))) (fun hb5 => ?_) (fun hb5 => ?_) ?_
  ·refine XA ?_;exact th
  ·refine We ?_;exact th
  refine M0 ?_;exact th
 refine CZ ?_;refine A1 (b := ((((p0 == 9) || (p0 == 10)) || (p0 == 13)) || ((decide (32 <= p0)) && (decide (p0 <= 55295))))) 7 28 (.bool (((((p0 == 9) || (p0 == 10)) || (p0 == 13)) || ((decide (32 <= p0)) && (decide (p0 <= 55295)))) || ((decide (57344 <= p0)) && (decide (p0 <= 65533))))) (fun hb6 => ?_) (fun hb6 => ?_) ?_
 ·refine X2 ?_;exact th
 ·refine XF ?_;refine A1 (b := (decide (57344 <= p0))) 3 27 (.bool ((decide (57344 <= p0)) && (decide (p0 <= 65533)))) (fun hb8 => ?_) (fun hb8 => ?_) ?_
  ·refine XA ?_;exact th
  ·refine We ?_;exact th
  refine M0 ?_;exact th
 refine CZ ?_;refine A1 (b := (((((p0 == 9) || (p0 == 10)) || (p0 == 13)) || ((decide (32 <= p0)) && (decide (p0 <= 55295)))) || ((decide (57344 <= p0)) && (decide (p0 <= 65533))))) 7 36 (.bool ((((((p0 == 9) || (p0 == 10)) || (p0 == 13)) || ((decide (32 <= p0)) && (decide (p0 <= 55295)))) || ((decide (57344 <= p0)) && (decide (p0 <= 65533)))) || ((decide (65536 <= p0)) && (decide (p0 <= 1114111))))) (fun hb9 => ?_) (fun hb9 => ?_) ?_
 ·refine X2 ?_;exact th
 ·refine XF ?_;refine A1 (b := (decide (65536 <= p0))) 3 35 (.bool ((decide (65536 <= p0)) && (decide (p0 <= 1114111)))) (fun hb11 => ?_) (fun hb11 => ?_) ?_
  ·refine XA ?_;exact th
  ·refine We ?_;exact th
  refine M0 ?_;exact th
 refine Ft ?_;exact rt
theorem It {β : Type} {f : Bool -> Option β} {G : β -> Prop} {R : D -> Heap -> Prop} {p0 : Int} (h : Heap) (hF : OptP ((Ci p0).bind f) G) (hk : ∀ r, Ci p0 = some r -> OptP (f r) G -> R (.bool r) h) : CallsA prog 165 [.int .i64 p0] h R := by
 obtain ⟨r0, hr, hF⟩ := AZ hF;refine (I3 (G := fun r => r = r0) p0 h ⟨r0, hr, rfl⟩).mono ?_;rintro _ _ ⟨r, rfl, rfl, rfl⟩;exact hk _ hr hF
theorem Iv (p0 : List By8) {G : Int × Int -> Prop} (h : Heap) (hF : OptP (B5 p0) G) : CallsA prog 136 [.sl 1 (List.map OX p0) 0] h fun d h' => ∃ r, G r /\ d = .tup [.int .i64 r.1, .int .i64 r.2] /\ h' = h := by
 refine CallsA.ret ?_;refine AO func136 rfl Aay ntmps136 rfl (fun ok => ?_);rw [B5] at hF;refine Bm ?_;refine Rg ?_;refine AF hF (fun (_ : Unit) s' => Zs h [] 27 [] s') (fun J7 hF => ?_) ?_
 ·refine YG ?_;refine Bq (σ := Int) hF (fun (a8 : Int) s' => Zs h [] 27 [(0, .sl 1 (List.map OX p0) 0), (4, .int .i64 a8)] s') ?_ ?_
  ·exact ⟨oy ok, wy ok⟩
  ·rintro G9 hG10 rec11 a8 s' ih12 hF ⟨ok, hws⟩;refine AC hws ?_;rw [Dq] at hF;refine JE ?_;refine M8 ?_;refine Yy ?_;refine Ps ?_;refine A3 rfl hF (fun hb13 hF => ?_) fun hb13 hF => ?_
   ·refine U2 ?_;refine Z1 ?_;refine cl (FK _ hF fun x14 _ hF => ?_);refine Vz ?_;refine JE ?_;refine Q8 ?_;refine A3 rfl hF (fun hb15 hF => ?_) fun hb15 hF => ?_
    ·refine Gq ?_;refine OW ?_;replace hF := hG10 _ (Aq hF);exact rt
    ·refine PL ?_;refine Gq ?_;refine cl (It _ hF fun x16 _ hF => ?_);refine Vh ?_;refine A3 rfl hF (fun hb17 hF => ?_) fun hb17 hF => ?_
     ·refine Gq ?_;refine OW ?_;replace hF := hG10 _ (Aq hF);exact rt
     ·refine ZQ ?_;refine FI ?_;refine ZS ?_;refine ih12 (IntKind.wrap .i64 (a8 + x14.2)) _ hF ?_;exact ⟨oy ok, wy ok⟩
   ·refine E9 ?_;replace hF := hG10 _ (Aq hF);exact ⟨(), hF, oy ok, wy ok⟩
 ·rintro ⟨⟩ s' hF ⟨ok, hws⟩;refine AC hws ?_;refine Zy ?_;exact rt
theorem H7 {β : Type} {f : Int × Int -> Option β} {G : β -> Prop} {R : D -> Heap -> Prop} {p0 : List By8} (h : Heap) (hF : OptP ((B5 p0).bind f) G) (hk : ∀ r, B5 p0 = some r -> OptP (f r) G -> R (.tup [.int .i64 r.1, .int .i64 r.2]) h) : CallsA prog 136 [.sl 1 (List.map OX p0) 0] h R := by
 obtain ⟨r0, hr, hF⟩ := AZ hF;refine (Iv (G := fun r => r = r0) p0 h ⟨r0, hr, rfl⟩).mono ?_;rintro _ _ ⟨r, rfl, rfl, rfl⟩;exact hk _ hr hF
theorem I4 (p0 : List By8) {G : Bool -> Prop} (h : Heap) (hF : OptP (BK p0) G) : CallsA prog 88 [.str p0] h fun d h' => ∃ r, G r /\ d = .bool r /\ h' = h := by
 refine CallsA.ret ?_;refine AO func88 rfl Afa ntmps88 rfl (fun ok => ?_);rw [BK] at hF;refine Z4 ?_;refine Agb ?_;refine cl (H7 _ hF fun x1 _ hF => ?_);refine Vz ?_;refine Gq ?_;refine Aaf ?_;exact rt
theorem Eu {β : Type} {f : Bool -> Option β} {G : β -> Prop} {R : D -> Heap -> Prop} {p0 : List By8} (h : Heap) (hF : OptP ((BK p0).bind f) G) (hk : ∀ r, BK p0 = some r -> OptP (f r) G -> R (.bool r) h) : CallsA prog 88 [.str p0] h R := by
 obtain ⟨r0, hr, hF⟩ := AZ hF;refine (I4 (G := fun r => r = r0) p0 h ⟨r0, hr, rfl⟩).mono ?_;rintro _ _ ⟨r, rfl, rfl, rfl⟩;exact hk _ hr hF
theorem H0 (p0 : Aa) {G : Bool -> Prop} (h : Heap) (hF : OptP (BG p0) G) : CallsA prog 87 [.agg (Ar p0)] h fun d h' => ∃ r, G r /\ d = .bool r /\ h' = h := by
 refine CallsA.ret ?_;refine AO func87 rfl Agk ntmps87 rfl (fun ok => ?_);rw [BG] at hF;refine Bm ?_;refine Cc rfl rfl rfl rfl ?_;refine OY ?_;refine ZI ?_;refine Q7 ?_;refine cl (FQ _ hF fun x1 _ hF => ?_);refine CZ ?_;refine A1 (b := x1) 5 11 (.bool (x1 && (decide ((p0.URI.length : Int) <= 100)))) (fun hb2 => ?_) (fun hb2 => ?_) ?_
 ·refine Yr ?_;refine Wc ?_;refine S8 ?_;refine Gn ?_;exact th
 ·refine Vo ?_;exact th
 refine CZ ?_;refine Bd 4 16 hF (fun J4 hb3 hF => ?_) (fun J4 hb3 hF => ?_) (fun v5 hF => ?_)
 ·refine Yr ?_;refine cl (Eu _ hF fun x6 _ hF => ?_);refine Gn ?_;exact tw
 ·refine OZ ?_;exact tw
 ·refine CZ ?_;refine A1 (b := v5) 4 21 (.bool (v5 && (!(p0.URI == [104, 116, 116, 112, 58, 47, 47, 119, 119, 119, 46, 119, 51, 46, 111, 114, 103, 47, 50, 48, 48, 48, 47, 120, 109, 108, 110, 115, 47])))) (fun hb7 => ?_) (fun hb7 => ?_) ?_
  ·refine Yr ?_;refine YW ?_;refine Gn ?_;exact th
  ·refine OZ ?_;exact th
  refine Ft ?_;exact rt
theorem Fk {β : Type} {f : Bool -> Option β} {G : β -> Prop} {R : D -> Heap -> Prop} {p0 : Aa} (h : Heap) (hF : OptP ((BG p0).bind f) G) (hk : ∀ r, BG p0 = some r -> OptP (f r) G -> R (.bool r) h) : CallsA prog 87 [.agg (Ar p0)] h R := by
 obtain ⟨r0, hr, hF⟩ := AZ hF;refine (H0 (G := fun r => r = r0) p0 h ⟨r0, hr, rfl⟩).mono ?_;rintro _ _ ⟨r, rfl, rfl, rfl⟩;exact hk _ hr hF
theorem I1 (p0 : Ac) {G : Bool -> Prop} (h : Heap) (hF : OptP (Cr p0) G) : CallsA prog 45 [.agg (Ad p0)] h fun d h' => ∃ r, G r /\ d = .bool r /\ h' = h := by
 refine CallsA.ret ?_;refine AO func45 rfl Age ntmps45 rfl (fun ok => ?_);rw [Cr] at hF;refine Bm ?_;refine Cc (v := .agg (Ad p0)) (cs := Ad p0) rfl rfl rfl rfl ?_;refine ZU ?_;refine AS rfl Bn Av (by rw [Ab]; rfl) ?_;refine AE rfl (AJ BZ Av (congrArg (List.drop 0) (Ab p0))) ?_;refine Qj ?_;refine Bd 5 14 hF (fun J2 hb1 hF => ?_) (fun J2 hb1 hF => ?_) (fun v3 hF => ?_)
 ·refine DZ ?_;refine AS rfl D5 AA (by rw [Ab]; rfl) ?_;refine Bj ?_;refine AE rfl (A6 (vs := Ar p0.Name) BI AA (by rw [Ab]; rfl) (by rw [Ab]; rfl)) ?_;refine Bj ?_;refine cl (Fk _ hF fun x4 _ hF => ?_);refine Z8 ?_;exact tw
 ·refine Vo ?_;exact tw
 ·refine A8 ?_;refine A3 rfl hF (fun hb5 hF => ?_) fun hb5 hF => ?_
  ·refine Hj ?_;exact rt
  ·refine Dx ?_;refine AF hF (fun (_ : Unit) s' => Zs h [] 85 [(1, .iptr (Ad p0))] s') (fun J15 hF => ?_) ?_
   ·refine Bm ?_;refine AS rfl Bu A0 (by rw [Ab]; rfl) ?_;refine AE rfl (AJ C6 A0 (congrArg (List.drop 3) (Ab p0))) ?_;refine Z0 ?_;refine Bq (σ := Int) hF (fun (a16 : Int) s' => Zs h [] 85 [(1, .iptr (Ad p0)), (16, .sl 3 (List.map Ao p0.Attrs) 0), (17, .int .i64 (p0.Attrs.length : Int)), (18, .int .i64 a16)] s') ?_ ?_
    ·exact ⟨oy ok, wy ok⟩
    ·rintro G17 hG18 rec19 a16 s' ih20 hF ⟨ok, hws⟩;refine AC hws ?_;rw [CU] at hF;refine Iq ?_;refine A3 rfl hF (fun hb21 hF => ?_) fun hb21 hF => ?_
     ·refine Ry ?_;refine CB (mdl [(4, 1)]) ?_;refine FJ rfl rfl FF Ds hF (fun x22 _ hF => ?_);refine AE rfl (A6 (vs := Ao x22) KD Ds rfl rfl) ?_;refine Ca ok rfl Jo ?_;intro i23 hi23 ok;refine Gd (j := 0) (cs' := [.str x22.Name.URI, .str x22.Name.Local, .str x22.Value]) ok rfl rfl rfl hi23 rfl Ds rfl rfl (fun ok => ?_);refine FL ?_;refine Aeu ?_;refine Cx (j := 0) ok rfl rfl rfl hi23 (A6 (vs := Ar x22.Name) BI AA rfl rfl) ?_;refine cl (Fk _ hF fun x24 _ hF => ?_);refine Vi ?_;refine A1 (b := (!x24)) 11 37 (.bool ((!x24) || ((x22.Name.URI == []) && (x22.Name.Local == [120, 109, 108, 110, 115])))) (fun hb25 => ?_) (fun hb25 => ?_) ?_
      ·refine Ih ?_;refine Tn ?_;refine Yz ?_;refine VA ?_;exact th
      ·refine DZ ?_;refine Aeu ?_;refine Bj ?_;refine TB ?_;refine SB ?_;refine Mg ?_;refine N4 ?_;refine A1 (b := (x22.Name.URI == [])) 5 36 (.bool ((x22.Name.URI == []) && (x22.Name.Local == [120, 109, 108, 110, 115]))) (fun hb27 => ?_) (fun hb27 => ?_) ?_
       ·refine DZ ?_;refine Aeu ?_;refine Bj ?_;refine ZY ?_;refine SB ?_;refine Mg ?_;refine Xz ?_;exact th
       ·refine Ih ?_;refine Tu ?_;exact th
       refine M0 ?_;exact th
      refine A8 ?_;refine A3 rfl hF (fun hb28 hF => ?_) fun hb28 hF => ?_
      ·refine Hj ?_;replace hF := hG18 _ (Aq hF);exact rt
      ·refine Qi ?_;refine ih20 (IntKind.wrap .i64 (a16 + 1)) _ hF ?_;exact ⟨oy ok, wy ok⟩
     ·refine E9 ?_;replace hF := hG18 _ (Aq hF);exact ⟨(), hF, oy ok, wy ok⟩
   ·rintro ⟨⟩ s' hF ⟨ok, hws⟩;refine AC hws ?_;refine Bm ?_;refine AS rfl D5 AA (by rw [Ab]; rfl) ?_;refine AS rfl HA Ax (by rw [Ab]; rfl) ?_;refine AE rfl (AJ Bw Ax (congrArg (List.drop 1) (congrArg (List.drop 1) (Ab p0)))) ?_;refine Tw ?_;refine FL ?_;refine AS rfl Bn Av (by rw [Ab]; rfl) ?_;refine AE rfl (AJ BZ Av (congrArg (List.drop 0) (Ab p0))) ?_;refine Xc ?_;refine Bd 39 84 hF (fun J30 hb29 hF => ?_) (fun J30 hb29 hF => ?_) (fun v31 hF => ?_)
    ·refine Rw ?_;refine Xp ?_;refine Xp ?_;refine Xp ?_;refine Xp ?_;refine Wm ?_;refine VA ?_;exact tw
    ·refine N1 ?_;refine cl (FQ _ hF fun x32 _ hF => ?_);refine N4 ?_;refine Bd 35 83 hF (fun J34 hb33 hF => ?_) (fun J34 hb33 hF => ?_) (fun v35 hF => ?_)
     ·refine N1 ?_;refine Ue ?_;refine QI ?_;refine N4 ?_;refine Bd 9 61 hF (fun J37 hb36 hF => ?_) (fun J37 hb36 hF => ?_) (fun v38 hF => ?_)
      ·refine N1 ?_;refine Gt rfl rfl AQ hF (fun x39 _ hF => ?_);refine QI ?_;refine N4 ?_;refine Bd 4 60 hF (fun J41 hb40 hF => ?_) (fun J41 hb40 hF => ?_) (fun v42 hF => ?_)
       ·refine ZR ?_;exact tw
       ·refine N1 ?_;refine Gt rfl rfl AQ hF (fun x43 _ hF => ?_);refine QI ?_;refine Vn ?_;exact tw
       ·refine Vt ?_;exact tw
      ·refine Ih ?_;refine Xq ?_;refine Tn ?_;refine Tu ?_;exact tw
      ·refine DZ ?_;refine XT ?_;refine Bd 9 71 hF (fun J45 hb44 hF => ?_) (fun J45 hb44 hF => ?_) (fun v46 hF => ?_)
       ·refine N1 ?_;refine Gt rfl rfl AQ hF (fun x47 _ hF => ?_);refine QI ?_;refine N4 ?_;refine Bd 4 70 hF (fun J49 hb48 hF => ?_) (fun J49 hb48 hF => ?_) (fun v50 hF => ?_)
        ·refine ZR ?_;exact tw
        ·refine N1 ?_;refine Gt rfl rfl AQ hF (fun x51 _ hF => ?_);refine QI ?_;refine Vn ?_;exact tw
        ·refine Vt ?_;exact tw
       ·refine Ih ?_;refine Xq ?_;refine Tn ?_;refine Tu ?_;exact tw
       ·refine DZ ?_;refine XT ?_;refine Bd 9 81 hF (fun J53 hb52 hF => ?_) (fun J53 hb52 hF => ?_) (fun v54 hF => ?_)
        ·refine N1 ?_;refine Gt rfl rfl AQ hF (fun x55 _ hF => ?_);refine QI ?_;refine N4 ?_;refine Bd 4 80 hF (fun J57 hb56 hF => ?_) (fun J57 hb56 hF => ?_) (fun v58 hF => ?_)
         ·refine ZR ?_;exact tw
         ·refine N1 ?_;refine Gt rfl rfl AQ hF (fun x59 _ hF => ?_);refine QI ?_;refine Vn ?_;exact tw
         ·refine Vt ?_;exact tw
        ·refine Ih ?_;refine Xq ?_;refine Tn ?_;refine Tu ?_;exact tw
        ·refine DZ ?_;refine TS ?_;refine Xz ?_;exact tw
     ·refine Ih ?_;refine Xp ?_;refine Nj ?_;refine Xp ?_;refine Nj ?_;refine Xp ?_;refine We ?_;exact tw
     ·refine M0 ?_;exact tw
    ·refine Ft ?_;exact rt
theorem Ij {β : Type} {f : Bool -> Option β} {G : β -> Prop} {R : D -> Heap -> Prop} {p0 : Ac} (h : Heap) (hF : OptP ((Cr p0).bind f) G) (hk : ∀ r, Cr p0 = some r -> OptP (f r) G -> R (.bool r) h) : CallsA prog 45 [.agg (Ad p0)] h R := by
 obtain ⟨r0, hr, hF⟩ := AZ hF;refine (I1 (G := fun r => r = r0) p0 h ⟨r0, hr, rfl⟩).mono ?_;rintro _ _ ⟨r, rfl, rfl, rfl⟩;exact hk _ hr hF
theorem In (p0 : Ac) {G : Bool -> Prop} (h : Heap) (hF : OptP (B6 p0) G) : CallsA prog 46 [.agg (Ad p0)] h fun d h' => ∃ r, G r /\ d = .bool r /\ h' = h := by
 refine CallsA.ret ?_;refine AO func46 rfl Afp ntmps46 rfl (fun ok => ?_);rw [B6] at hF;refine Bm ?_;refine Cc (v := .agg (Ad p0)) (cs := Ad p0) rfl rfl rfl rfl ?_;refine Fm ?_;refine AF hF (fun (_ : Unit) s' => Zs h [] 20 [(1, .iptr (Ad p0))] s') (fun J7 hF => ?_) ?_
 ·refine Bm ?_;refine AS rfl Bu A0 (by rw [Ab]; rfl) ?_;refine AE rfl (AJ C6 A0 (congrArg (List.drop 3) (Ab p0))) ?_;refine Z0 ?_;refine Bq (σ := Int) hF (fun (a8 : Int) s' => Zs h [] 20 [(1, .iptr (Ad p0)), (6, .sl 3 (List.map Ao p0.Attrs) 0), (7, .int .i64 (p0.Attrs.length : Int)), (8, .int .i64 a8)] s') ?_ ?_
  ·exact ⟨oy ok, wy ok⟩
  ·rintro G9 hG10 rec11 a8 s' ih12 hF ⟨ok, hws⟩;refine AC hws ?_;rw [CG] at hF;refine Iq ?_;refine A3 rfl hF (fun hb13 hF => ?_) fun hb13 hF => ?_
   ·refine Ry ?_;refine CB (mdl [(4, 1)]) ?_;refine FJ rfl rfl FF Ds hF (fun x14 _ hF => ?_);refine AE rfl (A6 (vs := Ao x14) KD Ds rfl rfl) ?_;refine Ca ok rfl Jo ?_;intro i15 hi15 ok;refine Gd (j := 0) (cs' := [.str x14.Name.URI, .str x14.Name.Local, .str x14.Value]) ok rfl rfl rfl hi15 rfl Ds rfl rfl (fun ok => ?_);refine FL ?_;refine DF rfl HM Ax ?_;refine Td ?_;refine cl (Eu _ hF fun x16 _ hF => ?_);refine Vh ?_;refine A3 rfl hF (fun hb17 hF => ?_) fun hb17 hF => ?_
    ·refine Hj ?_;replace hF := hG10 _ (Aq hF);exact rt
    ·refine Qi ?_;refine ih12 (IntKind.wrap .i64 (a8 + 1)) _ hF ?_;exact ⟨oy ok, wy ok⟩
   ·refine E9 ?_;replace hF := hG10 _ (Aq hF);exact ⟨(), hF, oy ok, wy ok⟩
 ·rintro ⟨⟩ s' hF ⟨ok, hws⟩;refine AC hws ?_;refine Bm ?_;refine AS rfl Cu Ax (by rw [Ab]; rfl) ?_;refine AE rfl (AJ Bw Ax (congrArg (List.drop 5) (Ab p0))) ?_;refine cl (Eu _ hF fun x18 _ hF => ?_);refine Ft ?_;exact rt
theorem HQ {β : Type} {f : Bool -> Option β} {G : β -> Prop} {R : D -> Heap -> Prop} {p0 : Ac} (h : Heap) (hF : OptP ((B6 p0).bind f) G) (hk : ∀ r, B6 p0 = some r -> OptP (f r) G -> R (.bool r) h) : CallsA prog 46 [.agg (Ad p0)] h R := by
 obtain ⟨r0, hr, hF⟩ := AZ hF;refine (In (G := fun r => r = r0) p0 h ⟨r0, hr, rfl⟩).mono ?_;rintro _ _ ⟨r, rfl, rfl, rfl⟩;exact hk _ hr hF
theorem HX (p0 : Aa) (p1 : Aa) {G : Bool -> Prop} (h : Heap) (hF : OptP (Dc p0 p1) G) : CallsA prog 89 [.agg (Ar p0), .agg (Ar p1)] h fun d h' => ∃ r, G r /\ d = .bool r /\ h' = h := by
 refine CallsA.ret ?_;refine AO func89 rfl Afs ntmps89 rfl (fun ok => ?_);rw [Dc] at hF;refine Bm ?_;refine Cc rfl rfl rfl rfl ?_;refine Cc rfl rfl rfl rfl ?_;refine OY ?_;refine Acy ?_;refine Q7 ?_;refine Acy ?_;refine Q7 ?_;refine DG rfl rfl T5 ?_;refine CZ ?_;refine A1 (b := (Op.bytesLess p0.URI p1.URI)) 13 23 (.bool ((Op.bytesLess p0.URI p1.URI) || ((p0.URI == p1.URI) && (Op.bytesLess p0.Local p1.Local)))) (fun hb1 => ?_) (fun hb1 => ?_) ?_
 ·refine Ih ?_;refine Nj ?_;refine Yz ?_;refine Zo ?_;refine VA ?_;exact th
 ·refine Yr ?_;refine Ah5 ?_;refine Mg ?_;refine N4 ?_;refine A1 (b := (p0.URI == p1.URI)) 6 22 (.bool ((p0.URI == p1.URI) && (Op.bytesLess p0.Local p1.Local))) (fun hb3 => ?_) (fun hb3 => ?_) ?_
  ·refine DZ ?_;refine ZI ?_;refine Ad9 ?_;refine ZI ?_;refine Ad9 ?_;refine DG rfl rfl T5 ?_;refine Xz ?_;exact th
  ·refine Ih ?_;refine Tn ?_;refine Tu ?_;exact th
  refine M0 ?_;exact th
 refine Ft ?_;exact rt
theorem HD {β : Type} {f : Bool -> Option β} {G : β -> Prop} {R : D -> Heap -> Prop} {p0 : Aa} {p1 : Aa} (h : Heap) (hF : OptP ((Dc p0 p1).bind f) G) (hk : ∀ r, Dc p0 p1 = some r -> OptP (f r) G -> R (.bool r) h) : CallsA prog 89 [.agg (Ar p0), .agg (Ar p1)] h R := by
 obtain ⟨r0, hr, hF⟩ := AZ hF;refine (HX (G := fun r => r = r0) p0 p1 h ⟨r0, hr, rfl⟩).mono ?_;rintro _ _ ⟨r, rfl, rfl, rfl⟩;exact hk _ hr hF
theorem Is (p0 : Ac) {G : Bool -> Prop} (h : Heap) (hF : OptP (B8 p0) G) : CallsA prog 47 [.agg (Ad p0)] h fun d h' => ∃ r, G r /\ d = .bool r /\ h' = h := by
 refine CallsA.ret ?_;refine AO func47 rfl Af5 ntmps47 rfl (fun ok => ?_);rw [B8] at hF;refine Bm ?_;refine Cc (v := .agg (Ad p0)) (cs := Ad p0) rfl rfl rfl rfl ?_;refine Fm ?_;refine AF hF (fun (_ : Unit) s' => Zs h [] 26 [] s') (fun J7 hF => ?_) ?_
 ·refine YG ?_;refine Bq (σ := Int) hF (fun (a8 : Int) s' => Zs h [] 26 [(1, .iptr (Ad p0)), (3, .int .i64 a8)] s') ?_ ?_
  ·exact ⟨oy ok, wy ok⟩
  ·rintro G9 hG10 rec11 a8 s' ih12 hF ⟨ok, hws⟩;refine AC hws ?_;rw [CI] at hF;refine JE ?_;refine AS rfl Bu A0 (by rw [Ab]; rfl) ?_;refine AE rfl (AJ C6 A0 (congrArg (List.drop 3) (Ab p0))) ?_;refine XG ?_;refine Ps ?_;refine A3 rfl hF (fun hb13 hF => ?_) fun hb13 hF => ?_
   ·refine Ry ?_;refine H8 (mdl [(12, 3), (17, 3), (19, 3), (23, 3)]) (by kernel_rfl) (by kernel_rfl) ?_;refine AS rfl Bu A0 (by rw [Ab]; rfl) ?_;refine AE rfl (AJ C6 A0 (congrArg (List.drop 3) (Ab p0))) ?_;refine FI ?_;refine MU ?_;refine FJ rfl rfl FF Ds hF (fun x14 _ hF => ?_);refine Xy ?_;refine AE rfl (A6 (vs := Ar x14.Name) BI AA rfl rfl) ?_;refine AS rfl Bu A0 (by rw [Ab]; rfl) ?_;refine AE rfl (AJ C6 A0 (congrArg (List.drop 3) (Ab p0))) ?_;refine FI ?_;refine FJ rfl rfl FF Ds hF (fun x15 _ hF => ?_);refine Xy ?_;refine AE rfl (A6 (vs := Ar x15.Name) BI AA rfl rfl) ?_;refine cl (HD _ hF fun x16 _ hF => ?_);refine Vh ?_;refine A3 rfl hF (fun hb17 hF => ?_) fun hb17 hF => ?_
    ·refine Hj ?_;replace hF := hG10 _ (Aq hF);exact rt
    ·refine Dx ?_;refine S9 ?_;refine ih12 (IntKind.wrap .i64 (a8 + 1)) _ hF ?_;exact ⟨oy ok, wy ok⟩
   ·refine E9 ?_;replace hF := hG10 _ (Aq hF);exact ⟨(), hF, oy ok, wy ok⟩
 ·rintro ⟨⟩ s' hF ⟨ok, hws⟩;refine AC hws ?_;refine Hj ?_;exact rt
theorem HV {β : Type} {f : Bool -> Option β} {G : β -> Prop} {R : D -> Heap -> Prop} {p0 : Ac} (h : Heap) (hF : OptP ((B8 p0).bind f) G) (hk : ∀ r, B8 p0 = some r -> OptP (f r) G -> R (.bool r) h) : CallsA prog 47 [.agg (Ad p0)] h R := by
 obtain ⟨r0, hr, hF⟩ := AZ hF;refine (Is (G := fun r => r = r0) p0 h ⟨r0, hr, rfl⟩).mono ?_;rintro _ _ ⟨r, rfl, rfl, rfl⟩;exact hk _ hr hF
theorem JC (p0 : List By8) (p1 : List By8) {G : Bool -> Prop} (h : Heap) (hF : OptP (BA p0 p1) G) : CallsA prog 90 [.str p0, .str p1] h fun d h' => ∃ r, G r /\ d = .bool r /\ h' = h := by
 refine CallsA.ret ?_;refine AO func90 rfl Af8 ntmps90 rfl (fun ok => ?_);rw [BA] at hF;refine Nr ?_;refine AF hF (fun (_ : Unit) s' => Zs h [] 24 [] s') (fun J5 hF => ?_) ?_
 ·refine YG ?_;refine Bq (σ := Int) hF (fun (a6 : Int) s' => Zs h [] 24 [(0, .str p0), (1, .str p1), (5, .int .i64 a6)] s') ?_ ?_
  ·exact ⟨oy ok, wy ok⟩
  ·rintro G7 hG8 rec9 a6 s' ih10 hF ⟨ok, hws⟩;refine AC hws ?_;rw [C9] at hF;refine JE ?_;refine ZN ?_;refine P1 ?_;refine ZN ?_;refine S8 ?_;refine A8 ?_;refine A3 rfl hF (fun hb11 hF => ?_) fun hb11 hF => ?_
   ·refine X1 ?_;refine ZO ?_;refine FI ?_;refine ZN ?_;refine P1 ?_;refine Kj rfl AQ (FY rfl) (FY rfl) hF (fun x12 _ hF => ?_);refine RQ ?_;refine Aag ?_;refine A3 rfl hF (fun hb13 hF => ?_) fun hb13 hF => ?_
    ·refine Hj ?_;replace hF := hG8 _ (Aq hF);exact rt
    ·refine Dx ?_;refine S9 ?_;refine ih10 (IntKind.wrap .i64 (a6 + 1)) _ hF ?_;exact ⟨oy ok, wy ok⟩
   ·refine E9 ?_;replace hF := hG8 _ (Aq hF);exact ⟨(), hF, oy ok, wy ok⟩
 ·rintro ⟨⟩ s' hF ⟨ok, hws⟩;refine AC hws ?_;refine Hj ?_;exact rt
theorem DP {β : Type} {f : Bool -> Option β} {G : β -> Prop} {R : D -> Heap -> Prop} {p0 : List By8} {p1 : List By8} (h : Heap) (hF : OptP ((BA p0 p1).bind f) G) (hk : ∀ r, BA p0 p1 = some r -> OptP (f r) G -> R (.bool r) h) : CallsA prog 90 [.str p0, .str p1] h R := by
 obtain ⟨r0, hr, hF⟩ := AZ hF;refine (JC (G := fun r => r = r0) p0 p1 h ⟨r0, hr, rfl⟩).mono ?_;rintro _ _ ⟨r, rfl, rfl, rfl⟩;exact hk _ hr hF
theorem IT (p0 : Ac) {G : Bool -> Prop} (h : Heap) (hF : OptP (Cq p0) G) : CallsA prog 48 [.agg (Ad p0)] h fun d h' => ∃ r, G r /\ d = .bool r /\ h' = h := by
 refine CallsA.ret ?_;refine AO func48 rfl Ago ntmps48 rfl (fun ok => ?_);rw [Cq] at hF;refine Bm ?_;refine Cc (v := .agg (Ad p0)) (cs := Ad p0) rfl rfl rfl rfl ?_;refine Fm ?_;refine AF hF (fun (_ : Unit) s' => Zs h [] 88 [(1, .iptr (Ad p0))] s') (fun J9 hF => ?_) ?_
 ·refine YG ?_;refine Bq (σ := Int) hF (fun (a10 : Int) s' => Zs h [] 88 [(1, .iptr (Ad p0)), (3, .int .i64 a10)] s') ?_ ?_
  ·exact ⟨oy ok, wy ok⟩
  ·rintro G11 hG12 rec13 a10 s' ih14 hF ⟨ok, hws⟩;refine AC hws ?_;rw [CO] at hF;refine JE ?_;refine AS rfl BS Bg (by rw [Ab]; rfl) ?_;refine AE rfl (AJ Do Bg (congrArg (List.drop 4) (Ab p0))) ?_;refine YP ?_;refine Ps ?_;refine A3 rfl hF (fun hb15 hF => ?_) fun hb15 hF => ?_
   ·refine X1 ?_;refine Bm ?_;refine AS rfl BS Bg (by rw [Ab]; rfl) ?_;refine AE rfl (AJ Do Bg (congrArg (List.drop 4) (Ab p0))) ?_;refine FI ?_;refine FJ rfl rfl DE Aw hF (fun x16 _ hF => ?_);refine AS rfl Bn Av (by rw [Ab]; rfl) ?_;refine AE rfl (AJ BZ Av (congrArg (List.drop 0) (Ab x16))) ?_;refine Qj ?_;refine Bd 9 28 hF (fun J18 hb17 hF => ?_) (fun J18 hb17 hF => ?_) (fun v19 hF => ?_)
    ·refine DZ ?_;refine AS rfl BS Bg (by rw [Ab]; rfl) ?_;refine Bj ?_;refine AE rfl (AJ Do Bg (congrArg (List.drop 4) (Ab p0))) ?_;refine YK ?_;refine VO ?_;refine FJ rfl rfl DE Aw hF (fun x20 _ hF => ?_);refine Bj ?_;refine AS rfl Bn Av (by rw [Ab]; rfl) ?_;refine Bj ?_;refine AE rfl (AJ BZ Av (congrArg (List.drop 0) (Ab x20))) ?_;refine Tt ?_;exact tw
    ·refine S6 ?_;refine M0 ?_;exact tw
    ·refine A8 ?_;refine A3 rfl hF (fun hb21 hF => ?_) fun hb21 hF => ?_
     ·refine Hj ?_;replace hF := hG12 _ (Aq hF);exact rt
     ·refine Dx ?_;refine S9 ?_;refine ih14 (IntKind.wrap .i64 (a10 + 1)) _ hF ?_;exact ⟨oy ok, wy ok⟩
   ·refine E9 ?_;replace hF := hG12 _ (Aq hF);exact ⟨(), hF, oy ok, wy ok⟩
 ·rintro ⟨⟩ s' hF ⟨ok, hws⟩;refine AC hws ?_;refine Bm ?_;refine AS rfl Cu Ax (by rw [Ab]; rfl) ?_;refine AE rfl (AJ Bw Ax (congrArg (List.drop 5) (Ab p0))) ?_;refine Tw ?_;refine Zz ?_;refine AS rfl Bn Av (by rw [Ab]; rfl) ?_;refine AE rfl (AJ BZ Av (congrArg (List.drop 0) (Ab p0))) ?_;refine W5 ?_;refine A3 rfl hF (fun hb22 hF => ?_) fun hb22 hF => ?_
  ·refine Mm ?_;refine YW ?_;refine Ft ?_;exact rt
  ·refine Qh ?_;refine A3 rfl hF (fun hb23 hF => ?_) fun hb23 hF => ?_
   ·refine Mm ?_;refine cl (DP _ hF fun x24 _ hF => ?_);refine Vi ?_;refine Bd 4 46 hF (fun J26 hb25 hF => ?_) (fun J26 hb25 hF => ?_) (fun v27 hF => ?_)
    ·refine N1 ?_;refine cl (DP _ hF fun x28 _ hF => ?_);refine Z8 ?_;exact tw
    ·refine OZ ?_;exact tw
    ·refine CZ ?_;refine Bd 11 58 hF (fun J30 hb29 hF => ?_) (fun J30 hb29 hF => ?_) (fun v31 hF => ?_)
     ·refine N1 ?_;refine Mg ?_;refine N4 ?_;refine Bd 7 57 hF (fun J33 hb32 hF => ?_) (fun J33 hb32 hF => ?_) (fun v34 hF => ?_)
      ·refine Ih ?_;refine Nj ?_;refine Vt ?_;exact tw
      ·refine N1 ?_;refine Aaa ?_;refine Wc ?_;refine VO ?_;refine Gt rfl rfl AQ hF (fun x35 _ hF => ?_);refine ZZ ?_;refine Vn ?_;exact tw
      ·refine Tr ?_;exact tw
     ·refine Rw ?_;refine Yz ?_;refine Wm ?_;refine Ti ?_;exact tw
     ·refine Ft ?_;exact rt
   ·refine Qh ?_;refine A3 rfl hF (fun hb36 hF => ?_) fun hb36 hF => ?_
    ·refine Mm ?_;refine cl (DP _ hF fun x37 _ hF => ?_);refine Vi ?_;refine Bd 4 68 hF (fun J39 hb38 hF => ?_) (fun J39 hb38 hF => ?_) (fun v40 hF => ?_)
     ·refine N1 ?_;refine cl (DP _ hF fun x41 _ hF => ?_);refine Z8 ?_;exact tw
     ·refine OZ ?_;exact tw
     ·refine CZ ?_;refine Bd 18 87 hF (fun J43 hb42 hF => ?_) (fun J43 hb42 hF => ?_) (fun v44 hF => ?_)
      ·refine N1 ?_;refine Mg ?_;refine N4 ?_;refine Bd 14 86 hF (fun J46 hb45 hF => ?_) (fun J46 hb45 hF => ?_) (fun v47 hF => ?_)
       ·refine Ih ?_;refine Xq ?_;refine Nj ?_;refine Xq ?_;refine Tn ?_;refine Vt ?_;exact tw
       ·refine N1 ?_;refine Gt rfl rfl AQ hF (fun x48 _ hF => ?_);refine ZZ ?_;refine N4 ?_;refine Bd 4 80 hF (fun J50 hb49 hF => ?_) (fun J50 hb49 hF => ?_) (fun v51 hF => ?_)
        ·refine N1 ?_;refine Gt rfl rfl AQ hF (fun x52 _ hF => ?_);refine ZZ ?_;refine Xz ?_;exact tw
        ·refine Rw ?_;refine Tu ?_;exact tw
        ·refine DZ ?_;refine XT ?_;refine Bd 4 85 hF (fun J54 hb53 hF => ?_) (fun J54 hb53 hF => ?_) (fun v55 hF => ?_)
         ·refine N1 ?_;refine Gt rfl rfl AQ hF (fun x56 _ hF => ?_);refine ZZ ?_;refine Xz ?_;exact tw
         ·refine Rw ?_;refine Tu ?_;exact tw
         ·refine Tu ?_;exact tw
       ·refine Tr ?_;exact tw
      ·refine Rw ?_;refine Xp ?_;refine Yz ?_;refine Zo ?_;refine Ti ?_;exact tw
      ·refine Ft ?_;exact rt
    ·refine Vj ?_;exact rt
theorem Il {β : Type} {f : Bool -> Option β} {G : β -> Prop} {R : D -> Heap -> Prop} {p0 : Ac} (h : Heap) (hF : OptP ((Cq p0).bind f) G) (hk : ∀ r, Cq p0 = some r -> OptP (f r) G -> R (.bool r) h) : CallsA prog 48 [.agg (Ad p0)] h R := by
 obtain ⟨r0, hr, hF⟩ := AZ hF;refine (IT (G := fun r => r = r0) p0 h ⟨r0, hr, rfl⟩).mono ?_;rintro _ _ ⟨r, rfl, rfl, rfl⟩;exact hk _ hr hF
theorem Im (p0 : Ac) {G : Int -> Prop} (h : Heap) (hF : OptP (Br p0) G) : CallsA prog 15 [.agg (Ad p0)] h fun d h' => ∃ r, G r /\ d = .int .i64 r /\ h' = h := by
 refine CallsA.ret ?_;refine AO func15 rfl Ag7 ntmps15 rfl (fun ok => ?_);rw [Br] at hF;refine Bm ?_;refine Cc (v := .agg (Ad p0)) (cs := Ad p0) rfl rfl rfl rfl ?_;refine Jj ?_;refine X5 ?_;refine AS rfl Bn Av (by rw [Ab]; rfl) ?_;refine AE rfl (AJ BZ Av (congrArg (List.drop 0) (Ab p0))) ?_;refine QM ?_;refine A3 rfl hF (fun hb1 hF => ?_) fun hb1 hF => ?_
 ·refine OC ?_;exact rt
 ·refine Vr ?_;refine AE rfl (A6 (vs := Ad p0) A7 Aw (by rw [Ab]; rfl) (by rw [Ab]; rfl)) ?_;refine cl (FN _ hF fun x2 _ hF => ?_);refine WK ?_;refine IM ?_;refine CB (mdl [(4, 1)]) ?_;refine AE rfl (A6 (vs := Ad p0) A7 Aw (by rw [Ab]; rfl) (by rw [Ab]; rfl)) ?_;refine cl (Iy _ hF fun x3 _ hF => ?_);refine TS ?_;refine M8 ?_;refine YP ?_;refine S8 ?_;refine DD (v := .agg [.bool true, .bool (!x3), .bool (decide ((x2.length : Int) <= 2001)), .bool true, .bool true, .bool true, .bool true]) (Ad0 Sa Vu EB Bv rfl) ?_;refine Ca ok rfl Sa ?_;intro i4 hi4 ok;refine Gd (j := 0) (cs' := [.bool true, .bool (!x3), .bool (decide ((x2.length : Int) <= 2001)), .bool true, .bool true, .bool true, .bool true]) ok rfl rfl rfl hi4 rfl VZ rfl rfl (fun ok => ?_);refine FL ?_;refine Jj ?_;refine AF hF (fun (v : Bool × Bool × Bool × Bool × Bool × Bool × Bool) s' => match v with | (a40, a41, a42, a43, a44, a45, a46) => Zs h [(i4, .cells [.bool a40, .bool a41, .bool a42, .bool a43, .bool a44, .bool a45, .bool a46])] 98 [(1, .iptr (Ad p0)), (4, .ptr i4 0), (5, .int .i64 0)] s') (fun J47 hF => ?_) ?_
  ·refine Kd ?_;refine Tl ?_;refine Bq (σ := Bool × Bool × Bool × Bool × Bool × Bool × Bool × Int) hF (fun (v : Bool × Bool × Bool × Bool × Bool × Bool × Bool × Int) s' => match v with | (a48, a49, a50, a51, a52, a53, a54, a55) => Zs h [(i4, .cells [.bool a48, .bool a49, .bool a50, .bool a51, .bool a52, .bool a53, .bool a54])] 98 [(1, .iptr (Ad p0)), (4, .ptr i4 0), (5, .int .i64 0), (23, .sl 6 (List.map Ad x2) 0), (24, .int .i64 (x2.length : Int)), (25, .int .i64 a55)] s') ?_ ?_
   ·exact ⟨oy ok, wy ok⟩
   ·rintro G56 hG57 rec58 ⟨a48, a49, a50, a51, a52, a53, a54, a55⟩ s' ih59 hF ⟨ok, hws⟩;refine AC hws ?_;rw [B3] at hF;refine Iq ?_;refine A3 rfl hF (fun hb60 hF => ?_) fun hb60 hF => ?_
    ·refine Ry ?_;refine CB (mdl [(7, 1)]) ?_;refine FJ rfl rfl DE Aw hF (fun x61 _ hF => ?_);refine AE rfl (A6 (vs := Ad x61) A7 Aw (by rw [Ab]; rfl) (by rw [Ab]; rfl)) ?_;refine Ca ok rfl DK ?_;intro i62 hi62 ok;refine Gd (j := 0) (cs' := [.int .i64 x61.Kind, .str x61.Name.URI, .str x61.Name.Local, .sl 3 (List.map Ao x61.Attrs) 0, .sl 6 (List.map Ad x61.Kids) 0, .str x61.Text]) ok rfl (congrArg D.agg (Ab x61)) rfl hi62 rfl Aw rfl rfl (fun ok => ?_);refine FL ?_;refine Lu (i := 0) rfl rfl EB Bv rfl ?_;refine Z6 ?_;refine Bd 3 34 hF (fun J64 hb63 hF => ?_) (fun J64 hb63 hF => ?_) (fun v65 hF => ?_)
     ·refine DZ ?_;refine Cx (j := 0) ok rfl rfl rfl hi62 (A6 (vs := Ad x61) A7 Aw rfl (Ab x61).symm) ?_;refine Bj ?_;refine cl (Ix _ hF fun x66 _ hF => ?_);refine Gn ?_;exact tw
     ·refine HI ?_;exact tw
     ·refine Lu (i := 0) rfl rfl EB Bv rfl ?_;refine st_ 1 ok hi4 Bv (fun ok => ?_);refine FL ?_;refine Lu (i := 2) rfl rfl EB Bv rfl ?_;refine Z6 ?_;refine Bd 3 41 hF (fun J68 hb67 hF => ?_) (fun J68 hb67 hF => ?_) (fun v69 hF => ?_)
      ·refine DZ ?_;refine Cx (j := 0) ok rfl rfl rfl hi62 (A6 (vs := Ad x61) A7 Aw rfl (Ab x61).symm) ?_;refine Bj ?_;refine cl (Ie _ hF fun x70 _ hF => ?_);refine Gn ?_;exact tw
      ·refine HI ?_;exact tw
      ·refine Lu (i := 2) rfl rfl EB Bv rfl ?_;refine st_ 1 ok hi4 Bv (fun ok => ?_);refine FL ?_;refine Lu (i := 3) rfl rfl EB Bv rfl ?_;refine Z6 ?_;refine Bd 3 48 hF (fun J72 hb71 hF => ?_) (fun J72 hb71 hF => ?_) (fun v73 hF => ?_)
       ·refine DZ ?_;refine Cx (j := 0) ok rfl rfl rfl hi62 (A6 (vs := Ad x61) A7 Aw rfl (Ab x61).symm) ?_;refine Bj ?_;refine cl (Ij _ hF fun x74 _ hF => ?_);refine Gn ?_;exact tw
       ·refine HI ?_;exact tw
       ·refine Lu (i := 3) rfl rfl EB Bv rfl ?_;refine st_ 1 ok hi4 Bv (fun ok => ?_);refine FL ?_;refine Lu (i := 4) rfl rfl EB Bv rfl ?_;refine Z6 ?_;refine Bd 3 55 hF (fun J76 hb75 hF => ?_) (fun J76 hb75 hF => ?_) (fun v77 hF => ?_)
        ·refine DZ ?_;refine Cx (j := 0) ok rfl rfl rfl hi62 (A6 (vs := Ad x61) A7 Aw rfl (Ab x61).symm) ?_;refine Bj ?_;refine cl (HQ _ hF fun x78 _ hF => ?_);refine Gn ?_;exact tw
        ·refine HI ?_;exact tw
        ·refine Lu (i := 4) rfl rfl EB Bv rfl ?_;refine st_ 1 ok hi4 Bv (fun ok => ?_);refine FL ?_;refine Lu (i := 5) rfl rfl EB Bv rfl ?_;refine Z6 ?_;refine Bd 3 62 hF (fun J80 hb79 hF => ?_) (fun J80 hb79 hF => ?_) (fun v81 hF => ?_)
         ·refine DZ ?_;refine Cx (j := 0) ok rfl rfl rfl hi62 (A6 (vs := Ad x61) A7 Aw rfl (Ab x61).symm) ?_;refine Bj ?_;refine cl (HV _ hF fun x82 _ hF => ?_);refine Gn ?_;exact tw
         ·refine HI ?_;exact tw
         ·refine Lu (i := 5) rfl rfl EB Bv rfl ?_;refine st_ 1 ok hi4 Bv (fun ok => ?_);refine A8 ?_;refine LZ ?_;refine Lu (i := 6) rfl rfl EB Bv rfl ?_;refine Z6 ?_;refine Bd 3 69 hF (fun J84 hb83 hF => ?_) (fun J84 hb83 hF => ?_) (fun v85 hF => ?_)
          ·refine DZ ?_;refine Cx (j := 0) ok rfl rfl rfl hi62 (A6 (vs := Ad x61) A7 Aw rfl (Ab x61).symm) ?_;refine Bj ?_;refine cl (Il _ hF fun x86 _ hF => ?_);refine Gn ?_;exact tw
          ·refine HI ?_;exact tw
          ·refine Lu (i := 6) rfl rfl EB Bv rfl ?_;refine st_ 1 ok hi4 Bv (fun ok => ?_);refine A8 ?_;refine MX ?_;refine ih59 (v65, a49, v69, v73, v77, v81, v85, (IntKind.wrap .i64 (a55 + 1))) _ hF ?_;exact ⟨oy ok, wy ok⟩
    ·refine E9 ?_;replace hF := hG57 _ (Aq hF);exact ⟨(a48, a49, a50, a51, a52, a53, a54), hF, oy ok, wy ok⟩
  ·rintro ⟨a40, a41, a42, a43, a44, a45, a46⟩ s' hF ⟨ok, hws⟩;refine AC hws ?_;refine AF hF (fun (a97 : Int) s' => Zs h [(i4, .cells [.bool a40, .bool a41, .bool a42, .bool a43, .bool a44, .bool a45, .bool a46])] 98 [(4, .ptr i4 0), (5, .int .i64 a97)] s') (fun J98 hF => ?_) ?_
   ·refine Bm ?_;refine AS rfl BS Bg (by rw [Ab]; rfl) ?_;refine AE rfl (AJ Do Bg (congrArg (List.drop 4) (Ab p0))) ?_;refine Tl ?_;refine Bq (σ := Int × Int) hF (fun (v : Int × Int) s' => match v with | (a99, a100) => Zs h [(i4, .cells [.bool a40, .bool a41, .bool a42, .bool a43, .bool a44, .bool a45, .bool a46])] 98 [(4, .ptr i4 0), (5, .int .i64 a99), (73, .sl 6 (List.map Ad p0.Kids) 0), (74, .int .i64 (p0.Kids.length : Int)), (75, .int .i64 a100)] s') ?_ ?_
    ·exact ⟨oy ok, wy ok⟩
    ·rintro G101 hG102 rec103 ⟨a99, a100⟩ s' ih104 hF ⟨ok, hws⟩;refine AC hws ?_;rw [CH] at hF;refine Iq ?_;refine A3 rfl hF (fun hb105 hF => ?_) fun hb105 hF => ?_
     ·refine Dx ?_;refine AF hF (fun (a109 : Int) s' => Zs h [(i4, .cells [.bool a40, .bool a41, .bool a42, .bool a43, .bool a44, .bool a45, .bool a46])] 98 [(4, .ptr i4 0), (5, .int .i64 a109), (73, .sl 6 (List.map Ad p0.Kids) 0), (74, .int .i64 (p0.Kids.length : Int)), (75, .int .i64 a100)] s') (fun J110 hF => ?_) ?_
      ·refine Rh ?_;refine CB (mdl [(9, 1)]) ?_;refine FJ rfl rfl DE Aw hF (fun x111 _ hF => ?_);refine AE rfl (A6 (vs := Ad x111) A7 Aw (by rw [Ab]; rfl) (by rw [Ab]; rfl)) ?_;refine Ca ok rfl DK ?_;intro i112 hi112 ok;refine Gd (j := 0) (cs' := [.int .i64 x111.Kind, .str x111.Name.URI, .str x111.Name.Local, .sl 3 (List.map Ao x111.Attrs) 0, .sl 6 (List.map Ad x111.Kids) 0, .str x111.Text]) ok rfl (congrArg D.agg (Ab x111)) rfl hi112 rfl Aw rfl rfl (fun ok => ?_);refine FL ?_;refine ZJ ?_;refine SI ?_;refine Q8 ?_;refine A3 rfl hF (fun hb113 hF => ?_) fun hb113 hF => ?_
       ·refine S9 ?_;exact ⟨(IntKind.wrap .i64 (a99 + 1)), hF, oy ok, wy ok⟩
       ·refine Dx ?_;exact ⟨a99, hF, oy ok, wy ok⟩
      ·rintro a109 s' hF ⟨ok, hws⟩;refine AC hws ?_;refine MX ?_;refine ih104 (a109, (IntKind.wrap .i64 (a100 + 1))) _ hF ?_;exact ⟨oy ok, wy ok⟩
     ·refine E9 ?_;replace hF := hG102 _ (Aq hF);exact ⟨a99, hF, oy ok, wy ok⟩
   ·rintro a97 s' hF ⟨ok, hws⟩;refine AC hws ?_;refine AF hF (fun (_ : Unit) s' => Zs h [] 98 [(5, .int .i64 a97)] s') (fun J119 hF => ?_) ?_
    ·refine Gq ?_;refine Aac ?_;refine Bq (σ := Int) hF (fun (a120 : Int) s' => Zs h [(i4, .cells [.bool a40, .bool a41, .bool a42, .bool a43, .bool a44, .bool a45, .bool a46])] 98 [(4, .ptr i4 0), (5, .int .i64 a97), (85, .int .i64 a120)] s') ?_ ?_
     ·exact ⟨oy ok, wy ok⟩
     ·rintro G121 hG122 rec123 a120 s' ih124 hF ⟨ok, hws⟩;refine AC hws ?_;rw [Em] at hF;refine Iq ?_;refine A3 rfl hF (fun hb125 hF => ?_) fun hb125 hF => ?_
      ·refine Xd ?_;refine Gq ?_;refine Aga (a := ([a40, a41, a42, a43, a44, a45, a46] : List Bool)) rfl rfl EB Bv hF (fun x126 hxx126 hF => ?_);refine Cx (j := 0) ok rfl rfl rfl hi4 (Afg (g := D.bool) (a := ([a40, a41, a42, a43, a44, a45, a46] : List Bool)) hxx126 LN Bv) ?_;refine Vh ?_;refine A3 rfl hF (fun hb127 hF => ?_) fun hb127 hF => ?_
       ·refine Bm ?_;refine DD (v := .agg (List.map (D.int .i64) [33, 31, 5, 24, 21, 34, 32])) (Ad0 VN WD R0 Av rfl) ?_;refine FI ?_;refine Af1 (g := (D.int .i64)) rfl rfl R0 Av BZ hF (fun x128 _ hF => ?_);refine XS ?_;replace hF := hG122 _ (Aq hF);exact rt
       ·refine Qi ?_;refine ih124 (IntKind.wrap .i64 (a120 + 1)) _ hF ?_;exact ⟨oy ok, wy ok⟩
      ·refine E9 ?_;replace hF := hG122 _ (Aq hF);exact ⟨(), hF, oy ok, wy ok⟩
    ·rintro ⟨⟩ s' hF ⟨ok, hws⟩;refine AC hws ?_;refine JE ?_;refine QM ?_;refine A3 rfl hF (fun hb129 hF => ?_) fun hb129 hF => ?_
     ·refine OC ?_;exact rt
     ·refine Aec ?_;exact rt
theorem HS {β : Type} {f : Int -> Option β} {G : β -> Prop} {R : D -> Heap -> Prop} {p0 : Ac} (h : Heap) (hF : OptP ((Br p0).bind f) G) (hk : ∀ r, Br p0 = some r -> OptP (f r) G -> R (.int .i64 r) h) : CallsA prog 15 [.agg (Ad p0)] h R := by
 obtain ⟨r0, hr, hF⟩ := AZ hF;refine (Im (G := fun r => r = r0) p0 h ⟨r0, hr, rfl⟩).mono ?_;rintro _ _ ⟨r, rfl, rfl, rfl⟩;exact hk _ hr hF
theorem Iw (p0 : Ac) (p1 : Int) {G : Bool -> Prop} (h : Heap) (hF : OptP (B7 p0 p1) G) : CallsA prog 11 [.agg (Ad p0), .int .i64 p1] h fun d h' => ∃ r, G r /\ d = .bool r /\ h' = h := by
 refine CallsA.ret ?_;refine AO func11 rfl Ae7 ntmps11 rfl (fun ok => ?_);rw [B7] at hF;refine Bm ?_;refine Cc (v := .agg (Ad p0)) (cs := Ad p0) rfl rfl rfl rfl ?_;refine OY ?_;refine AE rfl (A6 (vs := Ad p0) A7 Aw (by rw [Ab]; rfl) (by rw [Ab]; rfl)) ?_;refine cl (FN _ hF fun x1 _ hF => ?_);refine YP ?_;refine FI ?_;refine S8 ?_;refine Ft ?_;exact rt
theorem H9 {β : Type} {f : Bool -> Option β} {G : β -> Prop} {R : D -> Heap -> Prop} {p0 : Ac} {p1 : Int} (h : Heap) (hF : OptP ((B7 p0 p1).bind f) G) (hk : ∀ r, B7 p0 p1 = some r -> OptP (f r) G -> R (.bool r) h) : CallsA prog 11 [.agg (Ad p0), .int .i64 p1] h R := by
 obtain ⟨r0, hr, hF⟩ := AZ hF;refine (Iw (G := fun r => r = r0) p0 p1 h ⟨r0, hr, rfl⟩).mono ?_;rintro _ _ ⟨r, rfl, rfl, rfl⟩;exact hk _ hr hF
theorem Io : ∀ (N : Nat) (v : Ac) (G : (List (List Int)) -> Prop) (h : Heap), OptP (iter Bp N v) G -> CallsA prog 19 [.agg (Ad v)] h fun d h' => ∃ r, G r /\ d = .sl 1 (List.map (Qg 1 B2) r) 0 /\ h' = h := by
 intro N
 induction N with
 | zero => intro v G h hF; exact Lg hF
 | succ N ih0 =>
 intro p0 G h hF;show CallsA prog 19 [.agg (Ad p0)] h fun d h' => ∃ r, G r /\ d = .sl 1 (List.map (Qg 1 B2) r) 0 /\ h' = h;replace hF : OptP (Bp (iter Bp N) p0) G := hF;refine CallsA.ret ?_;refine AO func19 rfl Afx ntmps19 rfl (fun ok => ?_);rw [Bp] at hF;refine Bm ?_;refine Cc (v := .agg (Ad p0)) (cs := Ad p0) rfl rfl rfl rfl ?_;refine S_a (v := .snil) rfl ?_;refine Eg 2 (v := .sl 1 (List.map (Qg 1 B2) []) 0) (.nil _) ?_;refine IM ?_;refine CB (mdl [(9, 2)]) ?_;refine De (cs := []) (es := (List.map B2 ([] : List Int))) rfl ET rfl (by kernel_rfl) (by kernel_rfl) ?_;refine PF (cs := [.sl 1 (List.map B2 ([] : List Int)) 0]) (es := (List.map (Qg 1 B2) [[]])) ok rfl OD rfl (by kernel_rfl) (by kernel_rfl) ?_;intro r1 hr1 ok;refine Ri ?_;refine AF hF (fun (a30 : (List (List Int))) s' => ∃ g31 : Nat, g31 ≠ 0 /\ Zs h [(g31, .room)] 35 [(3, .sl 1 (List.map (Qg 1 B2) a30) g31)] s') (fun J32 hF => ?_) ?_
 ·refine Bm ?_;refine AS rfl BS Bg (by rw [Ab]; rfl) ?_;refine AE rfl (AJ Do Bg (congrArg (List.drop 4) (Ab p0))) ?_;refine Tl ?_;refine Bq (σ := (List (List Int)) × Int) hF (fun (v : (List (List Int)) × Int) s' => match v with | (a33, a35) => ∃ g34 : Nat, g34 ≠ 0 /\ Zs h [(g34, .room)] 35 [(3, .sl 1 (List.map (Qg 1 B2) a33) g34), (11, .sl 6 (List.map Ad p0.Kids) 0), (12, .int .i64 (p0.Kids.length : Int)), (13, .int .i64 a35)] s') ?_ ?_
  ·exact ⟨r1, hr1, oy ok, wy ok⟩
  ·rintro G36 hG37 rec38 ⟨a33, a35⟩ s' ih39 hF ⟨g34, hg34, ok, hws⟩;refine AC hws ?_;rw [CF] at hF;refine Iq ?_;refine A3 rfl hF (fun hb40 hF => ?_) fun hb40 hF => ?_
   ·refine Dx ?_;refine AF hF (fun (a52 : (List (List Int))) s' => ∃ g53 : Nat, g53 ≠ 0 /\ Zs h [(g53, .room)] 35 [(3, .sl 1 (List.map (Qg 1 B2) a52) g53), (11, .sl 6 (List.map Ad p0.Kids) 0), (12, .int .i64 (p0.Kids.length : Int)), (13, .int .i64 a35)] s') (fun J54 hF => ?_) ?_
    ·refine Rh ?_;refine CB (mdl [(5, 1)]) ?_;refine FI ?_;refine FJ rfl rfl DE Aw hF (fun x55 _ hF => ?_);refine AE rfl (A6 (vs := Ad x55) A7 Aw (by rw [Ab]; rfl) (by rw [Ab]; rfl)) ?_;refine Ca ok rfl DK ?_;intro i56 hi56 ok;refine MW ?_;refine Gd (j := 0) (cs' := [.int .i64 x55.Kind, .str x55.Name.URI, .str x55.Name.Local, .sl 3 (List.map Ao x55.Attrs) 0, .sl 6 (List.map Ad x55.Kids) 0, .str x55.Text]) ok rfl (congrArg D.agg (Ab x55)) rfl hi56 rfl Aw rfl rfl (fun ok => ?_);refine FL ?_;refine Cx (j := 0) ok rfl rfl rfl hi56 (A6 (vs := Ad x55) A7 Aw rfl (Ab x55).symm) ?_;refine cl (B1 (enc := fun r => .sl 1 (List.map (Qg 1 B2) r) 0) (fun G h hF => ih0 x55 G h hF) _ hF fun x57 _ hF => ?_);refine EY rfl Lz ?_;refine NS ?_;refine Bq (σ := (List (List Int)) × Int) hF (fun (v : (List (List Int)) × Int) s' => match v with | (a58, a60) => ∃ g59 : Nat, g59 ≠ 0 /\ Zs h [(g59, .room)] 35 [(3, .sl 1 (List.map (Qg 1 B2) a58) g59), (4, .int .i64 a35), (11, .sl 6 (List.map Ad p0.Kids) 0), (12, .int .i64 (p0.Kids.length : Int)), (13, .int .i64 a35), (19, .sl 1 (List.map (Qg 1 B2) x57) 0), (20, .int .i64 (x57.length : Int)), (21, .int .i64 a60)] s') ?_ ?_
     ·exact ⟨g34, hg34, oy ok, wy ok⟩
     ·rintro G61 hG62 rec63 ⟨a58, a60⟩ s' ih64 hF ⟨g59, hg59, ok, hws⟩;refine AC hws ?_;rw [CJ] at hF;refine Iq ?_;refine A3 rfl hF (fun hb65 hF => ?_) fun hb65 hF => ?_
      ·refine X1 ?_;refine Bm ?_;refine FJ rfl rfl Lz GT hF (fun x66 _ hF => ?_);refine ZX ?_;refine Ri ?_;refine CB (mdl [(27, 2), (29, 2), (31, 2)]) ?_;refine XJ ?_;refine PF (cs := [.int .i64 a35]) (es := (List.map B2 [a35])) ok rfl ET rfl (by kernel_rfl) (by kernel_rfl) ?_;intro r67 hr67 ok;refine M8 ?_;refine Gm (j := 0) ok rfl rfl rfl rfl hr67 ET Kv hF ?_;intro r68 hr68 ok hF;refine Eg 29 (v := .sl 1 (List.map B2 ([a35] ++ x66)) 0) (.zero _ _ _) ?_;refine De (cs := [.sl 1 (List.map B2 ([a35] ++ x66)) 0]) (es := (List.map (Qg 1 B2) [([a35] ++ x66)])) rfl OD rfl (by kernel_rfl) (by kernel_rfl) ?_;refine Gm (j := 1) ok rfl rfl rfl rfl hg59 OD Wo hF ?_;intro r69 hr69 ok hF;refine Ri ?_;refine MX ?_;refine ih64 ((a58 ++ [([a35] ++ x66)]), (IntKind.wrap .i64 (a60 + 1))) _ hF ?_;exact ⟨r69, hr69, oy ok, wy ok⟩
      ·refine E9 ?_;replace hF := hG62 _ (Aq hF);exact ⟨a58, hF, g59, hg59, oy ok, wy ok⟩
    ·rintro a52 s' hF ⟨g53, hg53, ok, hws⟩;refine AC hws ?_;refine MX ?_;refine ih39 (a52, (IntKind.wrap .i64 (a35 + 1))) _ hF ?_;exact ⟨g53, hg53, oy ok, wy ok⟩
   ·refine E9 ?_;replace hF := hG37 _ (Aq hF);exact ⟨a33, hF, g34, hg34, oy ok, wy ok⟩
 ·rintro a30 s' hF ⟨g31, hg31, ok, hws⟩;refine AC hws ?_;refine Kd ?_;refine Eg 34 (v := .sl 1 (List.map (Qg 1 B2) a30) 0) (.zero _ _ _) ?_;refine ZT ?_;exact rt
theorem Iu (p0 : Ac) {G : (List (List Int)) -> Prop} (h : Heap) (hF : OptP (Di p0) G) : CallsA prog 19 [.agg (Ad p0)] h fun d h' => ∃ r, G r /\ d = .sl 1 (List.map (Qg 1 B2) r) 0 /\ h' = h := Io FUEL p0 G h hF
theorem H3 {β : Type} {f : (List (List Int)) -> Option β} {G : β -> Prop} {R : D -> Heap -> Prop} {p0 : Ac} (h : Heap) (hF : OptP ((Di p0).bind f) G) (hk : ∀ r, Di p0 = some r -> OptP (f r) G -> R (.sl 1 (List.map (Qg 1 B2) r) 0) h) : CallsA prog 19 [.agg (Ad p0)] h R := by
 obtain ⟨r0, hr, hF⟩ := AZ hF;refine (Iu (G := fun r => r = r0) p0 h ⟨r0, hr, rfl⟩).mono ?_;rintro _ _ ⟨r, rfl, rfl, rfl⟩;exact hk _ hr hF
theorem HU (p0 : Int) {G : (List By8) -> Prop} (h : Heap) (hF : OptP (BD p0) G) : CallsA prog 56 [.int .i64 p0] h fun d h' => ∃ r, G r /\ d = .str r /\ h' = h := by
 refine CallsA.ret ?_;refine AO func56 rfl Ag8 ntmps56 rfl (fun ok => ?_);rw [BD] at hF;refine Bm ?_;refine S_a (v := .str []) rfl ?_;refine FL ?_;refine S_a (v := .str []) rfl ?_;refine A8 ?_;refine AF hF (fun (a5 : (List By8)) s' => Zs h [] 17 [(3, .str a5)] s') (fun J6 hF => ?_) ?_
 ·refine Lw ?_;refine Bq (σ := Int × (List By8)) hF (fun (v : Int × (List By8)) s' => match v with | (a7, a8) => Zs h [] 17 [(0, .int .i64 a7), (3, .str a8)] s') ?_ ?_
  ·exact ⟨oy ok, wy ok⟩
  ·rintro G9 hG10 rec11 ⟨a7, a8⟩ s' ih12 hF ⟨ok, hws⟩;refine AC hws ?_;rw [Fq] at hF;refine JE ?_;refine Aab ?_;refine A3 rfl hF (fun hb13 hF => ?_) fun hb13 hF => ?_
   ·refine U2 ?_;refine Gq ?_;refine DG rfl rfl (Ag0 rfl) ?_;refine P1 ?_;refine Ld rfl (Aeg Rb Ow) ?_;obtain ⟨b14, hb14, hF⟩ := AZ hF;replace hb14 := Yi hb14;refine De (es := List.map OX [b14]) rfl Vd rfl rfl (by simp only [List.map_cons, List.map_nil, OX, hb14]; rfl) ?_;refine Ld rfl (Agu Hv Rb AQ) ?_;refine RQ ?_;refine VY rfl rfl hF (fun hF => ?_);refine Tw ?_;refine A8 ?_;refine SN ?_;refine DG rfl rfl (Ae1 rfl) ?_;refine Jj ?_;refine ih12 ((IntKind.wrap .i64 (Int.tdiv a7 10)), ([b14] ++ a8)) _ hF ?_;exact ⟨oy ok, wy ok⟩
   ·refine E9 ?_;replace hF := hG10 _ (Aq hF);exact ⟨a8, hF, oy ok, wy ok⟩
 ·rintro a5 s' hF ⟨ok, hws⟩;refine AC hws ?_;refine Mm ?_;refine Tw ?_;refine Lq ?_;exact rt
theorem HC {β : Type} {f : (List By8) -> Option β} {G : β -> Prop} {R : D -> Heap -> Prop} {p0 : Int} (h : Heap) (hF : OptP ((BD p0).bind f) G) (hk : ∀ r, BD p0 = some r -> OptP (f r) G -> R (.str r) h) : CallsA prog 56 [.int .i64 p0] h R := by
 obtain ⟨r0, hr, hF⟩ := AZ hF;refine (HU (G := fun r => r = r0) p0 h ⟨r0, hr, rfl⟩).mono ?_;rintro _ _ ⟨r, rfl, rfl, rfl⟩;exact hk _ hr hF
theorem HF (p0 : List Int) {G : (List By8) -> Prop} (h : Heap) (hF : OptP (CS p0) G) : CallsA prog 20 [.sl 1 (List.map B2 p0) 0] h fun d h' => ∃ r, G r /\ d = .str r /\ h' = h := by
 refine CallsA.ret ?_;refine AO func20 rfl Af4 ntmps20 rfl (fun ok => ?_);rw [CS] at hF;refine Bm ?_;refine S_a (v := .str []) rfl ?_;refine FL ?_;refine S_a (v := .str []) rfl ?_;refine A8 ?_;refine AF hF (fun (a6 : (List By8)) s' => Zs h [] 21 [(3, .str a6)] s') (fun J7 hF => ?_) ?_
 ·refine Zi ?_;refine NS ?_;refine Bq (σ := (List By8) × Int) hF (fun (v : (List By8) × Int) s' => match v with | (a8, a9) => Zs h [] 21 [(3, .str a8), (6, .sl 1 (List.map B2 p0) 0), (7, .int .i64 (p0.length : Int)), (8, .int .i64 a9)] s') ?_ ?_
  ·exact ⟨oy ok, wy ok⟩
  ·rintro G10 hG11 rec12 ⟨a8, a9⟩ s' ih13 hF ⟨ok, hws⟩;refine AC hws ?_;rw [Cd] at hF;refine Iq ?_;refine A3 rfl hF (fun hb14 hF => ?_) fun hb14 hF => ?_
   ·refine X1 ?_;refine Bm ?_;refine FJ rfl rfl Fy Av hF (fun x15 _ hF => ?_);refine Zb ?_;refine Jj ?_;refine LZ ?_;refine RQ ?_;refine VY rfl rfl hF (fun hF => ?_);refine V3 ?_;refine cl (HC _ hF fun x16 _ hF => ?_);refine VY rfl rfl hF (fun hF => ?_);refine VY rfl rfl hF (fun hF => ?_);refine Tw ?_;refine A8 ?_;refine MX ?_;refine ih13 ((((a8 ++ [47, 110, 111, 100, 101, 40, 41, 91]) ++ x16) ++ [93]), (IntKind.wrap .i64 (a9 + 1))) _ hF ?_;exact ⟨oy ok, wy ok⟩
   ·refine E9 ?_;replace hF := hG11 _ (Aq hF);exact ⟨a8, hF, oy ok, wy ok⟩
 ·rintro a6 s' hF ⟨ok, hws⟩;refine AC hws ?_;refine Mm ?_;refine Tw ?_;refine Lq ?_;exact rt
theorem GF (p0 : Ac) {G : Bool -> Prop} (h : Heap) (hF : OptP (C3 p0) G) : CallsA prog 4 [.agg (Ad p0)] h fun d h' => ∃ r, G r /\ d = .bool r := by
 refine CallsA.ret ?_;refine AO func4 rfl Ail ntmps4 rfl (fun ok => ?_);rw [C3] at hF;refine Bm ?_;refine Cc (v := .agg (Ad p0)) (cs := Ad p0) rfl rfl rfl rfl ?_;refine ZU ?_;refine cl (B1 (fun _ h hF => Ip h hF) _ hF fun x1 _ hF => ?_);refine Vh ?_;refine A3 rfl hF (fun hb2 hF => ?_) fun hb2 hF => ?_
 ·refine Hj ?_;exact rt
 ·refine PL ?_;refine Bm ?_;refine AE rfl (A6 (vs := Ad p0) A7 Aw (by rw [Ab]; rfl) (by rw [Ab]; rfl)) ?_;refine cl (HS _ hF fun x3 _ hF => ?_);refine Xc ?_;refine Bd 4 17 hF (fun J5 hb4 hF => ?_) (fun J5 hb4 hF => ?_) (fun v6 hF => ?_)
  ·refine L0 ?_;exact tw
  ·refine DZ ?_;refine AE rfl (A6 (vs := Ad p0) A7 Aw (by rw [Ab]; rfl) (by rw [Ab]; rfl)) ?_;refine Bj ?_;refine cl (H9 _ hF fun x7 _ hF => ?_);refine XN ?_;exact tw
  ·refine A8 ?_;refine A3 rfl hF (fun hb8 hF => ?_) fun hb8 hF => ?_
   ·refine Hj ?_;exact rt
   ·refine Dx ?_;refine AF hF (fun (_ : Unit) s' => Zs h [] 64 [] s') (fun J44 hF => ?_) ?_
    ·refine Bm ?_;refine AE rfl (A6 (vs := Ad p0) A7 Aw (by rw [Ab]; rfl) (by rw [Ab]; rfl)) ?_;refine cl (H3 _ hF fun x45 _ hF => ?_);refine EY rfl Lz ?_;refine NS ?_;refine Bq (σ := Int) hF (fun (a46 : Int) s' => Zs h [] 64 [(1, .iptr (Ad p0)), (19, .sl 1 (List.map (Qg 1 B2) x45) 0), (20, .int .i64 (x45.length : Int)), (21, .int .i64 a46)] s') ?_ ?_
     ·exact ⟨oy ok, wy ok⟩
     ·rintro G47 hG48 rec49 a46 s' ih50 hF ⟨ok, hws⟩;refine AC hws ?_;rw [BP] at hF;refine Iq ?_;refine A3 rfl hF (fun hb51 hF => ?_) fun hb51 hF => ?_
      ·refine Dx ?_;refine AF hF (fun (_ : Unit) s' => Zs h [] 64 [(1, .iptr (Ad p0)), (19, .sl 1 (List.map (Qg 1 B2) x45) 0), (20, .int .i64 (x45.length : Int)), (21, .int .i64 a46)] s') (fun J68 hF => ?_) ?_
       ·refine Lw ?_;refine Bm ?_;refine FJ rfl rfl Lz GT hF (fun x69 _ hF => ?_);refine ZX ?_;refine WK ?_;refine IM ?_;refine Zi ?_;refine Qj ?_;refine A1 (b := ((x69.length : Int) == 0)) 4 32 (.bool (((x69.length : Int) == 0) || (decide (20 < (x69.length : Int))))) (fun hb70 => ?_) (fun hb70 => ?_) ?_
        ·refine L0 ?_;exact th
        ·refine Sj ?_;refine YT ?_;refine Bj ?_;refine W2 ?_;exact th
        refine A8 ?_;refine A3 rfl hF (fun hb71 hF => ?_) fun hb71 hF => ?_
        ·refine E9 ?_;exact ⟨(), hF, oy ok, wy ok⟩
        ·refine PL ?_;refine H8 (mdl [(34, 3)]) (by kernel_rfl) (by kernel_rfl) ?_;refine AE rfl (A6 (vs := Ad p0) A7 Aw (by rw [Ab]; rfl) (by rw [Ab]; rfl)) ?_;refine M8 ?_;refine cl (B1 (fun _ h hF => HF _ h hF) _ hF fun x72 _ hF => ?_);refine cl (B1 (fun _ h hF => HW _ _ h hF) _ hF fun x73 _ hF => ?_);refine Z3 ?_;refine Gq ?_;refine Xc ?_;refine A1 (b := (x73.2.2 != 0)) 4 47 (.bool ((x73.2.2 != 0) || ((x73.1.length : Int) != 1))) (fun hb74 => ?_) (fun hb74 => ?_) ?_
         ·refine L0 ?_;exact th
         ·refine Sj ?_;refine EY rfl GV ?_;refine ZZ ?_;refine Jv ?_;exact th
         refine CZ ?_;refine Bd 5 53 hF (fun J76 hb75 hF => ?_) (fun J76 hb75 hF => ?_) (fun v77 hF => ?_)
         ·refine S0 ?_;exact tw
         ·refine Sj ?_;refine FJ rfl rfl GV Ki hF (fun x78 _ hF => ?_);refine Bj ?_;refine AS rfl Nt Bv rfl ?_;refine Bj ?_;refine Agm ?_;refine Jv ?_;exact tw
         ·refine CZ ?_;refine Bd 8 62 hF (fun J80 hb79 hF => ?_) (fun J80 hb79 hF => ?_) (fun v81 hF => ?_)
          ·refine Ih ?_;refine L0 ?_;exact tw
          ·refine Sj ?_;refine FJ rfl rfl GV Ki hF (fun x82 _ hF => ?_);refine Bj ?_;refine AS rfl NQ GT rfl ?_;refine YA ?_;refine Ab9 ?_;refine cl (EZ _ hF fun x83 _ hF => ?_);refine XN ?_;exact tw
          ·refine A8 ?_;refine A3 rfl hF (fun hb84 hF => ?_) fun hb84 hF => ?_
           ·refine Hj ?_;replace hF := hG48 _ (Aq hF);exact rt
           ·refine Dx ?_;exact ⟨(), hF, oy ok, wy ok⟩
       ·rintro ⟨⟩ s' hF ⟨ok, hws⟩;refine AC hws ?_;refine MX ?_;refine ih50 (IntKind.wrap .i64 (a46 + 1)) _ hF ?_;exact ⟨oy ok, wy ok⟩
      ·refine E9 ?_;replace hF := hG48 _ (Aq hF);exact ⟨(), hF, oy ok, wy ok⟩
    ·rintro ⟨⟩ s' hF ⟨ok, hws⟩;refine AC hws ?_;refine Hj ?_;exact rt
end Go.Proofs.YtmnbjcpikllknaaGreatDoor
