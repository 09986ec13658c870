/- The walks. No condition. -/
import Derived.Test.YtmnbjcpikllknaaGreatDoorXR
import Derived.Test.YtmnbjcpikllknaaGreatDoorWkA
set_option linter.unusedVariables false
set_option linter.unusedSimpArgs false
set_option maxRecDepth 20000
set_option maxHeartbeats 8000000
namespace Go.Proofs.YtmnbjcpikllknaaGreatDoor
open Go.Proofs.Tryz
theorem Fe {G : Ab -> Prop} (h : Heap) (hF : OptP (Di) G) : CallsA prog 30 [] h fun d h' => ∃ r, G r /\ d = .agg (Ae r) /\ h' = h := by
 refine CallsA.ret ?_;refine Bb func30 rfl Aek ntmps30 rfl (fun ok => ?_);rw [Di] at hF;refine Gy ?_;refine CD (mdl [(0, 1)]) ?_;refine Cf ok rfl D4 ?_;intro i1 hi1 ok;refine ID ?_;refine CD (mdl [(1, 1)]) ?_;refine Dj (v := .agg (Au (⟨[], [98]⟩ : Aa))) (GF CN Eo rfl) ?_;refine Dj (v := .agg [.int .i64 2, .str (⟨[], [98]⟩ : Aa).URI, .str (⟨[], [98]⟩ : Aa).Local, .snil, .snil, .str []]) (GF D4 Oj rfl) ?_;refine Cf ok rfl D4 ?_;intro i2 hi2 ok;refine PD Ae ok (fun ok => ?_);refine Ga (j := 1) (cs' := [.int .i64 2, .str (⟨[], [98]⟩ : Aa).URI, .str (⟨[], [98]⟩ : Aa).Local, .snil, .snil, .str []]) ok rfl rfl rfl hi2 rfl AJ rfl rfl (fun ok => ?_);refine PD Ae ok (fun ok => ?_);refine ID ?_;refine CD (mdl [(8, 1), (2, 1)]) ?_;refine Dj (v := .agg (Au (⟨[], [97]⟩ : Aa))) (GF CN Eo rfl) ?_;refine Cv (j := 2) ok rfl rfl rfl hi2 (Bj (vs := [.int .i64 2, .str (⟨[], [98]⟩ : Aa).URI, .str (⟨[], [98]⟩ : Aa).Local, .snil, Dv 6 0 ([] : List Ab), .str []]) Bq AJ rfl rfl) ?_;refine DH 6 (v := .agg (Ae (⟨2, (⟨[], [98]⟩ : Aa), [], [], []⟩ : Ab))) (Wd.toE (.aggC (.cons (.refl _) (.cons (.refl _) (.cons (.refl _) (.cons (.nil _) (.cons (.nil _) (.cons (.refl _) (.nil)))))))) (Ac _)) ?_;refine Cv (j := 2) ok rfl rfl rfl hi2 (Bj (vs := [.int .i64 2, .str (⟨[], [98]⟩ : Aa).URI, .str (⟨[], [98]⟩ : Aa).Local, .snil, Dv 6 0 ([] : List Ab), .str []]) Bq AJ rfl rfl) ?_;refine DH 7 (v := .agg (Ae (⟨2, (⟨[], [98]⟩ : Aa), [], [], []⟩ : Ab))) (Wd.toE (.aggC (.cons (.refl _) (.cons (.refl _) (.cons (.refl _) (.cons (.nil _) (.cons (.nil _) (.cons (.refl _) (.nil)))))))) (Ac _)) ?_;refine O6 (d := 6) (v := .agg [.int .i64 (⟨2, (⟨[], [98]⟩ : Aa), [], [], []⟩ : Ab).Kind, .str (⟨2, (⟨[], [98]⟩ : Aa), [], [], []⟩ : Ab).Name.URI, .str (⟨2, (⟨[], [98]⟩ : Aa), [], [], []⟩ : Ab).Name.Local, .sl 3 (List.map Ar (⟨2, (⟨[], [98]⟩ : Aa), [], [], []⟩ : Ab).Attrs) 0, .sl 6 (List.map Ae (⟨2, (⟨[], [98]⟩ : Aa), [], [], []⟩ : Ab).Kids) 0, .str (⟨2, (⟨[], [98]⟩ : Aa), [], [], []⟩ : Ab).Text]) (congrArg D.agg (Ac (⟨2, (⟨[], [98]⟩ : Aa), [], [], []⟩ : Ab))) ?_;refine O6 (d := 7) (v := .agg [.int .i64 (⟨2, (⟨[], [98]⟩ : Aa), [], [], []⟩ : Ab).Kind, .str (⟨2, (⟨[], [98]⟩ : Aa), [], [], []⟩ : Ab).Name.URI, .str (⟨2, (⟨[], [98]⟩ : Aa), [], [], []⟩ : Ab).Name.Local, .sl 3 (List.map Ar (⟨2, (⟨[], [98]⟩ : Aa), [], [], []⟩ : Ab).Attrs) 0, .sl 6 (List.map Ae (⟨2, (⟨[], [98]⟩ : Aa), [], [], []⟩ : Ab).Kids) 0, .str (⟨2, (⟨[], [98]⟩ : Aa), [], [], []⟩ : Ab).Text]) (congrArg D.agg (Ac (⟨2, (⟨[], [98]⟩ : Aa), [], [], []⟩ : Ab))) ?_
 refine X4 (cs := [.int .i64 (⟨2, (⟨[], [98]⟩ : Aa), [], [], []⟩ : Ab).Kind, .str (⟨2, (⟨[], [98]⟩ : Aa), [], [], []⟩ : Ab).Name.URI, .str (⟨2, (⟨[], [98]⟩ : Aa), [], [], []⟩ : Ab).Name.Local, .sl 3 (List.map Ar (⟨2, (⟨[], [98]⟩ : Aa), [], [], []⟩ : Ab).Attrs) 0, .sl 6 (List.map Ae (⟨2, (⟨[], [98]⟩ : Aa), [], [], []⟩ : Ab).Kids) 0, .str (⟨2, (⟨[], [98]⟩ : Aa), [], [], []⟩ : Ab).Text, .int .i64 (⟨2, (⟨[], [98]⟩ : Aa), [], [], []⟩ : Ab).Kind, .str (⟨2, (⟨[], [98]⟩ : Aa), [], [], []⟩ : Ab).Name.URI, .str (⟨2, (⟨[], [98]⟩ : Aa), [], [], []⟩ : Ab).Name.Local, .sl 3 (List.map Ar (⟨2, (⟨[], [98]⟩ : Aa), [], [], []⟩ : Ab).Attrs) 0, .sl 6 (List.map Ae (⟨2, (⟨[], [98]⟩ : Aa), [], [], []⟩ : Ab).Kids) 0, .str (⟨2, (⟨[], [98]⟩ : Aa), [], [], []⟩ : Ab).Text]) (c := Ae) (e := [(⟨2, (⟨[], [98]⟩ : Aa), [], [], []⟩ : Ab), (⟨2, (⟨[], [98]⟩ : Aa), [], [], []⟩ : Ab)]) ok rfl Iv rfl (by kernel_rfl) (by kernel_rfl) ?_;intro u5 zu5 ok;refine Dj (v := .agg [.int .i64 2, .str (⟨[], [97]⟩ : Aa).URI, .str (⟨[], [97]⟩ : Aa).Local, .snil, Dv 6 u5 ([(⟨2, (⟨[], [98]⟩ : Aa), [], [], []⟩ : Ab), (⟨2, (⟨[], [98]⟩ : Aa), [], [], []⟩ : Ab)]), .str []]) (GF D4 Oj (by cases u5 <;> rfl)) ?_;refine DH 9 (v := .agg [.int .i64 2, .str (⟨[], [97]⟩ : Aa).URI, .str (⟨[], [97]⟩ : Aa).Local, .sl 3 (List.map Ar []) 0, Dv 6 u5 ([(⟨2, (⟨[], [98]⟩ : Aa), [], [], []⟩ : Ab), (⟨2, (⟨[], [98]⟩ : Aa), [], [], []⟩ : Ab)]), .str []]) (.aggC (.cons (.refl _) (.cons (.refl _) (.cons (.refl _) (.cons (.nil _) (.cons (.refl _) (.cons (.refl _) (.nil)))))))) ?_;refine Cf ok rfl D4 ?_;intro i6 hi6 ok;refine PD Ae ok (fun ok => ?_);refine Ga (j := 1) (cs' := [.int .i64 2, .str (⟨[], [97]⟩ : Aa).URI, .str (⟨[], [97]⟩ : Aa).Local, .sl 3 (List.map Ar []) 0, Dv 6 u5 ([(⟨2, (⟨[], [98]⟩ : Aa), [], [], []⟩ : Ab), (⟨2, (⟨[], [98]⟩ : Aa), [], [], []⟩ : Ab)]), .str []]) ok rfl rfl rfl hi6 rfl AJ rfl rfl (fun ok => ?_);refine GH ?_;refine De rfl CY B2 ?_;refine Agu ?_;refine Dj (v := .agg (Au (⟨[], [120]⟩ : Aa))) (GF CN Eo rfl) ?_
 refine Dj (v := .agg (Ar (⟨(⟨[], [120]⟩ : Aa), [49]⟩ : Aj))) (GF NI RK rfl) ?_;refine CF (cs := [.str (⟨(⟨[], [120]⟩ : Aa), [49]⟩ : Aj).Name.URI, .str (⟨(⟨[], [120]⟩ : Aa), [49]⟩ : Aj).Name.Local, .str (⟨(⟨[], [120]⟩ : Aa), [49]⟩ : Aj).Value]) (es := (List.map Ar [(⟨(⟨[], [120]⟩ : Aa), [49]⟩ : Aj)])) rfl Re rfl (by kernel_rfl) (by kernel_rfl) ?_;refine XT zu5 rfl rfl En AJ hF (fun x8 hx8 hF => ?_);refine De rfl C0 BU ?_;refine YY (q := 6) (j := 2) (f0 := 3) (b := (⟨x8.Kind, x8.Name, [(⟨(⟨[], [120]⟩ : Aa), [49]⟩ : Aj)], x8.Kids, x8.Text⟩ : Ab)) ok zu5 rfl rfl rfl FX hx8 rfl rfl BU rfl (by rw [Ac x8, Ac (⟨x8.Kind, x8.Name, [(⟨(⟨[], [120]⟩ : Aa), [49]⟩ : Aj)], x8.Kids, x8.Text⟩ : Ab)]; rfl) (fun za9 ok => ?_);obtain ⟨a9, ha9, hF⟩ := NY hF;rw [<- ha9] at ok za9;rw [<- ha9];have hms : Dv 6 u5 ([(⟨2, (⟨[], [98]⟩ : Aa), [], [], []⟩ : Ab), (⟨2, (⟨[], [98]⟩ : Aa), [], [], []⟩ : Ab)]) = Dv 6 u5 a9 := Jr (by rw [ha9, List.length_set])
 try rw [hms] at ok
 try rw [hms]
 clear hms;refine GH ?_;refine De rfl CY B2 ?_;refine Agu ?_;refine Dj (v := .agg (Au (⟨[], [100]⟩ : Aa))) (GF CN Eo rfl) ?_;refine Dj (v := .agg (Ar (⟨(⟨[], [100]⟩ : Aa), [77, 48, 32, 48, 32, 52, 32, 48, 32, 52, 32, 52, 90]⟩ : Aj))) (GF NI RK rfl) ?_;refine CF (cs := [.str (⟨(⟨[], [100]⟩ : Aa), [77, 48, 32, 48, 32, 52, 32, 48, 32, 52, 32, 52, 90]⟩ : Aj).Name.URI, .str (⟨(⟨[], [100]⟩ : Aa), [77, 48, 32, 48, 32, 52, 32, 48, 32, 52, 32, 52, 90]⟩ : Aj).Name.Local, .str (⟨(⟨[], [100]⟩ : Aa), [77, 48, 32, 48, 32, 52, 32, 48, 32, 52, 32, 52, 90]⟩ : Aj).Value]) (es := (List.map Ar [(⟨(⟨[], [100]⟩ : Aa), [77, 48, 32, 48, 32, 52, 32, 48, 32, 52, 32, 52, 90]⟩ : Aj)])) rfl Re rfl (by kernel_rfl) (by kernel_rfl) ?_;refine XT za9 rfl rfl En AJ hF (fun x10 hx10 hF => ?_);refine De rfl C0 BU ?_;refine YY (q := 6) (j := 2) (f0 := 3) (b := (⟨x10.Kind, x10.Name, [(⟨(⟨[], [100]⟩ : Aa), [77, 48, 32, 48, 32, 52, 32, 48, 32, 52, 32, 52, 90]⟩ : Aj)], x10.Kids, x10.Text⟩ : Ab)) ok za9 rfl rfl rfl FX hx10 rfl rfl BU rfl (by rw [Ac x10, Ac (⟨x10.Kind, x10.Name, [(⟨(⟨[], [100]⟩ : Aa), [77, 48, 32, 48, 32, 52, 32, 48, 32, 52, 32, 52, 90]⟩ : Aj)], x10.Kids, x10.Text⟩ : Ab)]; rfl) (fun za11 ok => ?_);obtain ⟨a11, ha11, hF⟩ := NY hF;rw [<- ha11] at ok za11;rw [<- ha11];have hms : Dv 6 u5 a9 = Dv 6 u5 a11 := Jr (by rw [ha11, List.length_set])
 try rw [hms] at ok
 try rw [hms]
 clear hms;refine GH ?_;refine Aba (c := Ae) (e := a11) (cs' := [.int .i64 2, .str (⟨[], [97]⟩ : Aa).URI, .str (⟨[], [97]⟩ : Aa).Local, .sl 3 (List.map Ar []) 0, .sl 6 (List.map Ae a11) 0, .str []]) 1 2 4 ok za11 rfl hi6 rfl (by decide) FX rfl rfl (fun ok => ?_);refine Kp 1 2 ok rfl rfl hi6 (fun ok => ?_);refine AW rfl (Bj (vs := Ae (⟨2, (⟨[], [97]⟩ : Aa), [], a11, []⟩ : Ab)) Bq AJ rfl (by rw [Ac]; rfl)) ?_;refine O6 (d := 24) (v := .agg [.int .i64 (⟨2, (⟨[], [97]⟩ : Aa), [], a11, []⟩ : Ab).Kind, .str (⟨2, (⟨[], [97]⟩ : Aa), [], a11, []⟩ : Ab).Name.URI, .str (⟨2, (⟨[], [97]⟩ : Aa), [], a11, []⟩ : Ab).Name.Local, .sl 3 (List.map Ar (⟨2, (⟨[], [97]⟩ : Aa), [], a11, []⟩ : Ab).Attrs) 0, .sl 6 (List.map Ae (⟨2, (⟨[], [97]⟩ : Aa), [], a11, []⟩ : Ab).Kids) 0, .str (⟨2, (⟨[], [97]⟩ : Aa), [], a11, []⟩ : Ab).Text]) (congrArg D.agg (Ac (⟨2, (⟨[], [97]⟩ : Aa), [], a11, []⟩ : Ab))) ?_;refine CF (cs := [.int .i64 (⟨2, (⟨[], [97]⟩ : Aa), [], a11, []⟩ : Ab).Kind, .str (⟨2, (⟨[], [97]⟩ : Aa), [], a11, []⟩ : Ab).Name.URI, .str (⟨2, (⟨[], [97]⟩ : Aa), [], a11, []⟩ : Ab).Name.Local, .sl 3 (List.map Ar (⟨2, (⟨[], [97]⟩ : Aa), [], a11, []⟩ : Ab).Attrs) 0, .sl 6 (List.map Ae (⟨2, (⟨[], [97]⟩ : Aa), [], a11, []⟩ : Ab).Kids) 0, .str (⟨2, (⟨[], [97]⟩ : Aa), [], a11, []⟩ : Ab).Text]) (es := (List.map Ae [(⟨2, (⟨[], [97]⟩ : Aa), [], a11, []⟩ : Ab)])) rfl Iv rfl (by kernel_rfl) (by simp only [List.map_cons, List.map_nil, Ac]; rfl) ?_;refine Dj (v := .agg [.int .i64 1, .str [], .str [], .snil, .sl 6 (List.map Ae [(⟨2, (⟨[], [97]⟩ : Aa), [], a11, []⟩ : Ab)]) 0, .str []]) (GF D4 Oj rfl) ?_;refine DH 26 (v := .agg [.int .i64 1, .str [], .str [], .sl 3 (List.map Ar []) 0, .sl 6 (List.map Ae [(⟨2, (⟨[], [97]⟩ : Aa), [], a11, []⟩ : Ab)]) 0, .str []]) (.aggC (.cons (.refl _) (.cons (.refl _) (.cons (.refl _) (.cons (.nil _) (.cons (.refl _) (.cons (.refl _) (.nil)))))))) ?_;refine Ga (j := 6) (cs' := [.int .i64 1, .str [], .str [], .sl 3 (List.map Ar []) 0, .sl 6 (List.map Ae [(⟨2, (⟨[], [97]⟩ : Aa), [], a11, []⟩ : Ab)]) 0, .str []]) ok rfl rfl rfl hi1 rfl AJ rfl rfl (fun ok => ?_);refine KD ?_;refine xr ?_;refine Jq (fn := Tryz.f30) rfl (.cell rfl (Dq (j := 6) ok rfl hi1 (Bj (vs := [.int .i64 1, .str [], .str [], .sl 3 (List.map Ar []) 0, .sl 6 (List.map Ae [(⟨2, (⟨[], [97]⟩ : Aa), [], a11, []⟩ : Ab)]) 0, .str []]) Bq AJ rfl rfl)) .nil) ?_
 exact ⟨_, _, (Wd.toE (.aggC (.cons (.refl _) (.cons (.refl _) (.cons (.refl _) (.cons (.refl _) (.cons (.refl _) (.cons (.refl _) (.nil)))))))) (Ac _)), ok.wh, _, As hF, rfl, rfl⟩
theorem NJ : ∀ (N : Nat) {p0 : Ab} {p1 : List Ab} {rp1 : Nat} {G : (List Ab) -> Prop} (h : Heap) (O : List (Nat × AObj)) (hrp1 : rp1 ≠ 0) (ok : OK h ((rp1, .room) :: O)) (hF : OptP (iter CA N (p0, p1)) G), CallsA prog 67 [.agg (Ae p0), .sl 6 (List.map Ae p1) rp1] (Hp h ((rp1, .room) :: O)) fun d h' => ∃ r, G r /\ ∃ rp1' : Nat, d = .sl 6 (List.map Ae r) rp1' /\ rp1' ≠ 0 /\ OK h ((rp1', .room) :: O) /\ h' = Hp h ((rp1', .room) :: O) := by
 intro N
 induction N with
 | zero => intro p0 p1 rp1 G h O hrp1 ok hF; exact Kx hF
 | succ N ih0 =>
 have self_ok : ∀ {β : Type} {f0 : (List Ab) -> Option β} {G : β -> Prop} {R : D -> Heap -> Prop} {p0 : Ab} {p1 : List Ab} {rp1 : Nat} (h : Heap) (O : List (Nat × AObj)) (hrp1 : rp1 ≠ 0) (ok : OK h ((rp1, .room) :: O)) (hF : OptP ((iter CA N (p0, p1)).bind f0) G) (hk : ∀ r rp1', iter CA N (p0, p1) = some r -> rp1' ≠ 0 -> OK h ((rp1', .room) :: O) -> OptP (f0 r) G -> R (.sl 6 (List.map Ae r) rp1') (Hp h ((rp1', .room) :: O))), CallsA prog 67 [.agg (Ae p0), .sl 6 (List.map Ae p1) rp1] (Hp h ((rp1, .room) :: O)) R := by
  intro β f0 G R p0 p1 rp1 h O hrp1 ok hF hk;obtain ⟨r0, hr, hF⟩ := Br hF;refine (ih0 (G := fun r => r = r0) h O hrp1 ok ⟨r0, hr, rfl⟩).mono ?_;rintro _ _ ⟨r, rfl, rp, rfl, y0, ok', rfl⟩;exact hk _ _ hr y0 ok' hF
 clear ih0;intro p0 p1 rp1 G h O hrp1 ok hF;replace hF : OptP (CA (iter CA N) (p0, p1)) G := hF;refine CallsA.ret ?_;refine GQ func67 rfl Aah ntmps67 rfl ?_;rw [CA] at hF;refine BG ?_;refine Cy (v := .agg (Ae p0)) (cs := Ae p0) rfl rfl rfl rfl ?_;refine S_a (v := .snil) rfl ?_;refine I1 4 6 ok rfl rfl ?_;intro r1 hr1 ok;refine ID ?_;refine CD (mdl [(10, 2)]) ?_;refine Ox ?_;refine AW rfl (Bj (vs := Ae p0) Bq AJ (by rw [Ac]; rfl) (by rw [Ac]; rfl)) ?_;refine O6 (d := 8) (v := .agg [.int .i64 p0.Kind, .str p0.Name.URI, .str p0.Name.Local, .sl 3 (List.map Ar p0.Attrs) 0, .sl 6 (List.map Ae p0.Kids) 0, .str p0.Text]) (congrArg D.agg (Ac p0)) ?_;refine CF (cs := [.int .i64 p0.Kind, .str p0.Name.URI, .str p0.Name.Local, .sl 3 (List.map Ar p0.Attrs) 0, .sl 6 (List.map Ae p0.Kids) 0, .str p0.Text]) (es := (List.map Ae [p0])) rfl Iv rfl (by kernel_rfl) (by simp only [List.map_cons, List.map_nil, Ac]; rfl) ?_;refine FW (j := 1) ok rfl rfl rfl rfl hrp1 Iv Q4 hF ?_;intro r2 hr2 ok hF;refine Q1 ?_;refine AP hF (fun (a11 : (List Ab)) s' => ∃ g12 : Nat, g12 ≠ 0 /\ Zs h ((g12, .room) :: O) 23 [(1, .sl 6 (List.map Ae a11) g12)] s') (fun J13 hF => ?_) ?_
 ·refine BG ?_;refine By rfl CY B2 (by rw [Ac]; rfl) ?_;refine AW rfl (Bc EH B2 (congrArg (List.drop 4) (Ac p0))) ?_;refine VH ?_;refine BN (σ := (List Ab) × Int) hF (fun (v : (List Ab) × Int) s' => match v with | (a14, a16) => ∃ g15 : Nat, g15 ≠ 0 /\ Zs h ((g15, .room) :: O) 23 [(1, .sl 6 (List.map Ae a14) g15), (12, .sl 6 (List.map Ae p0.Kids) 0), (13, .int .i64 (p0.Kids.length : Int)), (14, .int .i64 a16)] s') ?_ ?_
  ·exact ⟨r2, hr2, oy ok, wy ok⟩
  ·rintro G17 hG18 rec19 ⟨a14, a16⟩ s' ih20 hF ⟨g15, hg15, ok, hws⟩;refine AM hws ?_;rw [EG] at hF;refine IG ?_;refine Bp rfl hF (fun hb21 hF => ?_) fun hb21 hF => ?_
   ·refine Vl ?_;refine CD (mdl [(6, 1)]) ?_;refine Gb rfl rfl En AJ hF (fun x22 _ hF => ?_);refine AW rfl (Bj (vs := Ae x22) Bq AJ (by rw [Ac]; rfl) (by rw [Ac]; rfl)) ?_;refine Cf ok rfl D4 ?_;intro i23 hi23 ok;refine Ga (j := 0) (cs' := [.int .i64 x22.Kind, .str x22.Name.URI, .str x22.Name.Local, .sl 3 (List.map Ar x22.Attrs) 0, .sl 6 (List.map Ae x22.Kids) 0, .str x22.Text]) ok rfl (congrArg D.agg (Ac x22)) rfl hi23 rfl AJ rfl rfl (fun ok => ?_);refine A8 ?_;refine Mr ?_;refine Cv (j := 0) ok rfl rfl rfl hi23 (Bj (vs := Ae x22) Bq AJ rfl (Ac x22).symm) ?_;refine Ox ?_;obtain ⟨hpe, ok⟩ := Hp_pull 1 ok rfl;rw [hpe]; clear hpe;refine cl (self_ok (p0 := x22) (p1 := a14) (rp1 := g15) h ((i23, .cells [.int .i64 x22.Kind, .str x22.Name.URI, .str x22.Name.Local, .sl 3 (List.map Ar x22.Attrs) 0, .sl 6 (List.map Ae x22.Kids) 0, .str x22.Text]) :: O) hg15 ok hF fun x24 r25 _ hr25 ok hF => ?_);refine Q1 ?_;refine Ml ?_;refine ih20 (x24, (IntKind.wrap .i64 (a16 + 1))) _ hF ?_;exact ⟨r25, hr25, oy ok, wy ok⟩
   ·refine Fm ?_;replace hF := hG18 _ (As hF);exact ⟨a14, hF, g15, hg15, oy ok, wy ok⟩
 ·rintro a11 s' hF ⟨g12, hg12, ok, hws⟩;refine AM hws ?_;refine I0 ?_;refine Zk ?_;refine rr ?_;exact ⟨_, _, (.refl _), hy ok, _, As hF, g12, rfl, hg12, oy ok, rfl⟩
theorem Nt (p0 : Ab) (p1 : List Ab) (rp1 : Nat) {G : (List Ab) -> Prop} (h : Heap) (O : List (Nat × AObj)) (hrp1 : rp1 ≠ 0) (ok : OK h ((rp1, .room) :: O)) (hF : OptP (FA p0 p1) G) : CallsA prog 67 [.agg (Ae p0), .sl 6 (List.map Ae p1) rp1] (Hp h ((rp1, .room) :: O)) fun d h' => ∃ r, G r /\ ∃ rp1' : Nat, d = .sl 6 (List.map Ae r) rp1' /\ rp1' ≠ 0 /\ OK h ((rp1', .room) :: O) /\ h' = Hp h ((rp1', .room) :: O) := NJ FUEL h O hrp1 ok hF
theorem Mx {β : Type} {f0 : (List Ab) -> Option β} {G : β -> Prop} {R : D -> Heap -> Prop} {p0 : Ab} {p1 : List Ab} {rp1 : Nat} (h : Heap) (O : List (Nat × AObj)) (hrp1 : rp1 ≠ 0) (ok : OK h ((rp1, .room) :: O)) (hF : OptP ((FA p0 p1).bind f0) G) (hk : ∀ r rp1', FA p0 p1 = some r -> rp1' ≠ 0 -> OK h ((rp1', .room) :: O) -> OptP (f0 r) G -> R (.sl 6 (List.map Ae r) rp1') (Hp h ((rp1', .room) :: O))) : CallsA prog 67 [.agg (Ae p0), .sl 6 (List.map Ae p1) rp1] (Hp h ((rp1, .room) :: O)) R := by
 obtain ⟨r0, hr, hF⟩ := Br hF;refine (Nt (G := fun r => r = r0) p0 p1 rp1 h O hrp1 ok ⟨r0, hr, rfl⟩).mono ?_;rintro _ _ ⟨r, rfl, rp, rfl, y0, ok', rfl⟩;exact hk _ _ hr y0 ok' hF
theorem Ev (p0 : List Ab) (p1 : Ab -> Option Bool) (f1 : FuncId) (fi1 ca1 : List D) (hf1 : ∀ (x0 : Ab) (G : Bool -> Prop) (h : Heap), OptP (p1 x0) G -> CallsA prog f1 (fi1 ++ [.agg (Ae x0)] ++ ca1) h fun d h' => ∃ r, G r /\ d = .bool r /\ h' = h) {G : Int -> Prop} (h : Heap) (hF : OptP (A5 p0 p1) G) : CallsA prog 104 [.sl 6 (List.map Ae p0) 0, .fn (.func f1) fi1 ca1] h fun d h' => ∃ r, G r /\ d = .int .i64 r /\ h' = h := by
 refine CallsA.ret ?_;refine Bb func104 rfl ZM ntmps104 rfl (fun ok => ?_);rw [A5] at hF;refine PN ?_;refine AP hF (fun (_ : Unit) s' => Zs h [] 19 [] s') (fun J6 hF => ?_) ?_
 ·refine I0 ?_;refine VH ?_;refine BN (σ := Int) hF (fun (a7 : Int) s' => Zs h [] 19 [(0, .sl 6 (List.map Ae p0) 0), (1, .fn (.func f1) fi1 ca1), (7, .int .i64 (p0.length : Int)), (8, .int .i64 a7)] s') ?_ ?_
  ·exact ⟨oy ok, wy ok⟩
  ·rintro G8 hG9 rec10 a7 s' ih11 hF ⟨ok, hws⟩;refine AM hws ?_;rw [A9] at hF;refine IG ?_;refine Bp rfl hF (fun hb12 hF => ?_) fun hb12 hF => ?_
   ·refine XG ?_;refine BG ?_;refine Vy ?_;refine Xo ?_;refine Gb rfl rfl En AJ hF (fun x13 _ hF => ?_);refine AW rfl (Bj (vs := Ae x13) Bq AJ (by rw [Ac]; rfl) (by rw [Ac]; rfl)) ?_;refine Lz rfl (Bz (enc := fun r => .bool r) (fun G h hF => hf1 x13 G h hF) _ hF fun x14 _ hF => ?_) (.app (.app (.refl _) (.cons (.refl _) (.nil))) (.refl _));refine A8 ?_;refine Bp rfl hF (fun hb15 hF => ?_) fun hb15 hF => ?_
    ·refine Vz ?_;replace hF := hG9 _ (As hF);exact rt
    ·refine Th ?_;refine ih11 (IntKind.wrap .i64 (a7 + 1)) _ hF ?_;exact ⟨oy ok, wy ok⟩
   ·refine Fm ?_;replace hF := hG9 _ (As hF);exact ⟨(), hF, oy ok, wy ok⟩
 ·rintro ⟨⟩ s' hF ⟨ok, hws⟩;refine AM hws ?_;refine LO ?_;exact rt
theorem Eb {β : Type} {f : Int -> Option β} {G : β -> Prop} {R : D -> Heap -> Prop} {p0 : List Ab} {p1 : Ab -> Option Bool} {f1 : FuncId} {fi1 ca1 : List D} (hf1 : ∀ (x0 : Ab) (G : Bool -> Prop) (h : Heap), OptP (p1 x0) G -> CallsA prog f1 (fi1 ++ [.agg (Ae x0)] ++ ca1) h fun d h' => ∃ r, G r /\ d = .bool r /\ h' = h) (h : Heap) (hF : OptP ((A5 p0 p1).bind f) G) (hk : ∀ r, A5 p0 p1 = some r -> OptP (f r) G -> R (.int .i64 r) h) : CallsA prog 104 [.sl 6 (List.map Ae p0) 0, .fn (.func f1) fi1 ca1] h R := by
 obtain ⟨r0, hr, hF⟩ := Br hF;refine (Ev (G := fun r => r = r0) p0 p1 f1 fi1 ca1 hf1 h ⟨r0, hr, rfl⟩).mono ?_;rintro _ _ ⟨r, rfl, rfl, rfl⟩;exact hk _ hr hF
theorem DW (p0 : List Ab) (p1 : Ab -> Option Bool) (f1 : FuncId) (fi1 ca1 : List D) (hf1 : ∀ (x0 : Ab) (G : Bool -> Prop) (h : Heap), OptP (p1 x0) G -> CallsA prog f1 (fi1 ++ [.agg (Ae x0)] ++ ca1) h fun d h' => ∃ r, G r /\ d = .bool r /\ h' = h) {G : Bool -> Prop} (h : Heap) (hF : OptP (Ao p0 p1) G) : CallsA prog 68 [.sl 6 (List.map Ae p0) 0, .fn (.func f1) fi1 ca1] h fun d h' => ∃ r, G r /\ d = .bool r /\ h' = h := by
 refine CallsA.ret ?_;refine Bb func68 rfl Aer ntmps68 rfl (fun ok => ?_);rw [Ao] at hF;refine Ku ?_;refine I0 ?_;refine Vy ?_;refine cl (Eb (f1 := f1) (fi1 := fi1) (ca1 := ca1) hf1 _ hF fun x1 _ hF => ?_);refine PK ?_;refine GB ?_;exact rt
theorem AC {β : Type} {f : Bool -> Option β} {G : β -> Prop} {R : D -> Heap -> Prop} {p0 : List Ab} {p1 : Ab -> Option Bool} {f1 : FuncId} {fi1 ca1 : List D} (hf1 : ∀ (x0 : Ab) (G : Bool -> Prop) (h : Heap), OptP (p1 x0) G -> CallsA prog f1 (fi1 ++ [.agg (Ae x0)] ++ ca1) h fun d h' => ∃ r, G r /\ d = .bool r /\ h' = h) (h : Heap) (hF : OptP ((Ao p0 p1).bind f) G) (hk : ∀ r, Ao p0 p1 = some r -> OptP (f r) G -> R (.bool r) h) : CallsA prog 68 [.sl 6 (List.map Ae p0) 0, .fn (.func f1) fi1 ca1] h R := by
 obtain ⟨r0, hr, hF⟩ := Br hF;refine (DW (G := fun r => r = r0) p0 p1 f1 fi1 ca1 hf1 h ⟨r0, hr, rfl⟩).mono ?_;rintro _ _ ⟨r, rfl, rfl, rfl⟩;exact hk _ hr hF
theorem Pz (p0 : Int) (p1 : Int) {G : Bool -> Prop} (h : Heap) (hF : OptP (He p0 p1) G) : CallsA prog 106 [.int .i64 p0, .int .i64 p1] h fun d h' => ∃ r, G r /\ d = .bool r /\ h' = h := by
 refine CallsA.ret ?_;refine Bb func106 rfl Abn ntmps106 rfl (fun ok => ?_);rw [He] at hF;refine Ku ?_;refine MN ?_;refine Zi ?_;refine Bp rfl hF (fun hb1 hF => ?_) fun hb1 hF => ?_
 ·refine WC ?_;refine B9 (b := (p1 == 2)) 3 13 (.bool ((p1 == 2) || (p1 == 4))) (fun hb2 => ?_) (fun hb2 => ?_) ?_
  ·refine Qm ?_;exact th
  ·refine TJ ?_;exact th
  refine Do ?_;refine B9 (b := ((p1 == 2) || (p1 == 4))) 3 17 (.bool (((p1 == 2) || (p1 == 4)) || (p1 == 5))) (fun hb3 => ?_) (fun hb3 => ?_) ?_
  ·refine Qm ?_;exact th
  ·refine TJ ?_;exact th
  refine GB ?_;exact rt
 ·refine Tx ?_;refine Bp rfl hF (fun hb4 hF => ?_) fun hb4 hF => ?_
  ·refine HQ ?_;refine PK ?_;refine Do ?_;refine B9 (b := (decide (2 <= p1))) 3 25 (.bool ((decide (2 <= p1)) && (decide (p1 <= 5)))) (fun hb5 => ?_) (fun hb5 => ?_) ?_
   ·refine Zm ?_;refine Ho ?_;exact th
   ·refine Mi ?_;exact th
   refine GB ?_;exact rt
  ·refine W7 ?_;exact rt
theorem Ms (p0 : Ab) (p1 : Ab) {G : Bool -> Prop} (h : Heap) (hF : OptP (DF p0 p1) G) : CallsA prog 105 [.agg (Ae p0), .iptr (Ae p1)] h fun d h' => ∃ r, G r /\ d = .bool r /\ h' = h := by
 refine CallsA.ret ?_;refine Bb func105 rfl Abo ntmps105 rfl (fun ok => ?_);rw [DF] at hF;refine BG ?_;refine Cy (v := .agg (Ae p0)) (cs := Ae p0) rfl rfl rfl rfl ?_;refine QQ ?_;refine By rfl Cj AF (by rw [Ac]; rfl) ?_;refine AW rfl (Bc CW AF (congrArg (List.drop 0) (Ac p1))) ?_;refine By rfl Cj AF (by rw [Ac]; rfl) ?_;refine AW rfl (Bc CW AF (congrArg (List.drop 0) (Ac p0))) ?_;refine cl (Bz (fun _ h hF => Pz _ _ h hF) _ hF fun x1 _ hF => ?_);refine XJ ?_;refine GB ?_;exact rt
theorem Pe (p0 : Ab) {G : Bool -> Prop} (h : Heap) (hF : OptP (EP p0) G) : CallsA prog 69 [.agg (Ae p0)] h fun d h' => ∃ r, G r /\ d = .bool r /\ h' = h := by
 refine CallsA.ret ?_;refine Bb func69 rfl Aeq ntmps69 rfl (fun ok => ?_);rw [EP] at hF;refine BG ?_;refine Cy (v := .agg (Ae p0)) (cs := Ae p0) rfl rfl rfl rfl ?_;refine QQ ?_;refine By rfl Cj AF (by rw [Ac]; rfl) ?_;refine AW rfl (Bc CW AF (congrArg (List.drop 0) (Ac p0))) ?_;refine Ty ?_;refine Do ?_;refine B9 (b := (p0.Kind != 2)) 5 12 (.bool ((p0.Kind != 2) && (decide (0 < (p0.Attrs.length : Int))))) (fun hb1 => ?_) (fun hb1 => ?_) ?_
 ·refine Ek ?_;refine By rfl C0 BU (by rw [Ac]; rfl) ?_;refine Bs ?_;refine AW rfl (Bc Fb BU (congrArg (List.drop 3) (Ac p0))) ?_;refine Bs ?_;refine DP rfl FE ?_;refine Ye ?_;refine Ho ?_;exact th
 ·refine JR ?_;refine Sv ?_;exact th
 refine F1 ?_;refine AP hF (fun (a9 : Bool) s' => Zs h [] 57 [(1, .iptr (Ae p0)), (3, .bool a9)] s') (fun J10 hF => ?_) ?_
 ·refine BG ?_;refine By rfl Cj AF (by rw [Ac]; rfl) ?_;refine AW rfl (Bc CW AF (congrArg (List.drop 0) (Ac p0))) ?_;refine Zi ?_;refine Bp rfl hF (fun hb11 hF => ?_) fun hb11 hF => ?_
  ·refine Mr ?_;refine Zt ?_;refine B9 (b := ((p0.Kind != 2) && (decide (0 < (p0.Attrs.length : Int))))) 5 30 (.bool (((p0.Kind != 2) && (decide (0 < (p0.Attrs.length : Int)))) || (!((p0.Name.URI == (⟨[], []⟩ : Aa).URI) && ((p0.Name.Local == (⟨[], []⟩ : Aa).Local) && true))))) (fun hb12 => ?_) (fun hb12 => ?_) ?_
   ·refine Q0 ?_;exact th
   ·refine Ek ?_;refine By rfl Fv AG (by rw [Ac]; rfl) ?_;refine Bs ?_;refine AW rfl (Bj (vs := Au p0.Name) BM AG (by rw [Ac]; rfl) (by rw [Ac]; rfl)) ?_;refine Bs ?_;refine Dj (v := .agg (Au (⟨[], []⟩ : Aa))) (GF CN Eo rfl) ?_;refine Bs ?_;refine Dc rfl rfl (WQ (b := ((p0.Name.URI == (⟨[], []⟩ : Aa).URI) && ((p0.Name.Local == (⟨[], []⟩ : Aa).Local) && true))) D5 D3 (by simp only [Au, EJ, Fy, Jh, D3, D5, B0, AL, Bo, B0, AL, Bo, Gs, Gh, Ft, Gm, Fw, FC, EK, List.drop_zero, List.drop_succ_cons, bi, bj, List.take_succ_cons, List.take_zero, Option.isSome_some, if_true, ba, Option.map_some, Nat.reduceAdd, Nat.reduceLeDiff])) ?_;refine Iy ?_;exact th
   refine Do ?_;refine B9 (b := (((p0.Kind != 2) && (decide (0 < (p0.Attrs.length : Int)))) || (!((p0.Name.URI == (⟨[], []⟩ : Aa).URI) && ((p0.Name.Local == (⟨[], []⟩ : Aa).Local) && true))))) 4 35 (.bool ((((p0.Kind != 2) && (decide (0 < (p0.Attrs.length : Int)))) || (!((p0.Name.URI == (⟨[], []⟩ : Aa).URI) && ((p0.Name.Local == (⟨[], []⟩ : Aa).Local) && true)))) || (!(p0.Text == [])))) (fun hb13 => ?_) (fun hb13 => ?_) ?_
   ·refine O5 ?_;exact th
   ·refine Ek ?_;refine By rfl Dh AL (by rw [Ac]; rfl) ?_;refine Bs ?_;refine AW rfl (Bc B0 AL (congrArg (List.drop 5) (Ac p0))) ?_;refine Bs ?_;refine Dc rfl rfl OS ?_;refine Iy ?_;exact th
   refine F1 ?_;exact ⟨((((p0.Kind != 2) && (decide (0 < (p0.Attrs.length : Int)))) || (!((p0.Name.URI == (⟨[], []⟩ : Aa).URI) && ((p0.Name.Local == (⟨[], []⟩ : Aa).Local) && true)))) || (!(p0.Text == []))), hF, oy ok, wy ok⟩
  ·refine Tx ?_;refine Bp rfl hF (fun hb14 hF => ?_) fun hb14 hF => ?_
   ·refine Mr ?_;refine By rfl Dh AL (by rw [Ac]; rfl) ?_;refine AW rfl (Bc B0 AL (congrArg (List.drop 5) (Ac p0))) ?_;refine Dc rfl rfl OS ?_;refine F1 ?_;exact ⟨(!(p0.Text == [])), hF, oy ok, wy ok⟩
   ·refine Tx ?_;refine Bp rfl hF (fun hb15 hF => ?_) fun hb15 hF => ?_
    ·refine Mr ?_;refine Zt ?_;refine B9 (b := ((p0.Kind != 2) && (decide (0 < (p0.Attrs.length : Int))))) 5 49 (.bool (((p0.Kind != 2) && (decide (0 < (p0.Attrs.length : Int)))) || (!(p0.Name.URI == [])))) (fun hb16 => ?_) (fun hb16 => ?_) ?_
     ·refine Q0 ?_;exact th
     ·refine Ek ?_;refine By rfl Fv AG (by rw [Ac]; rfl) ?_;refine Bs ?_;refine By rfl J0 AL (by rw [Ac]; rfl) ?_;refine Bs ?_;refine AW rfl (Bc B0 AL (congrArg (List.drop 0) (congrArg (List.drop 1) (Ac p0)))) ?_;refine Bs ?_;refine Dc rfl rfl OS ?_;refine Iy ?_;exact th
     refine F1 ?_;exact ⟨(((p0.Kind != 2) && (decide (0 < (p0.Attrs.length : Int)))) || (!(p0.Name.URI == []))), hF, oy ok, wy ok⟩
    ·refine Mr ?_;refine Zt ?_;refine B9 (b := ((p0.Kind != 2) && (decide (0 < (p0.Attrs.length : Int))))) 5 21 (.bool (((p0.Kind != 2) && (decide (0 < (p0.Attrs.length : Int)))) || (!((p0.Name.URI == (⟨[], []⟩ : Aa).URI) && ((p0.Name.Local == (⟨[], []⟩ : Aa).Local) && true))))) (fun hb17 => ?_) (fun hb17 => ?_) ?_
     ·refine Q0 ?_;exact th
     ·refine Ek ?_;refine By rfl Fv AG (by rw [Ac]; rfl) ?_;refine Bs ?_;refine AW rfl (Bj (vs := Au p0.Name) BM AG (by rw [Ac]; rfl) (by rw [Ac]; rfl)) ?_;refine Bs ?_;refine Dj (v := .agg (Au (⟨[], []⟩ : Aa))) (GF CN Eo rfl) ?_;refine Bs ?_;refine Dc rfl rfl (WQ (b := ((p0.Name.URI == (⟨[], []⟩ : Aa).URI) && ((p0.Name.Local == (⟨[], []⟩ : Aa).Local) && true))) D5 D3 (by simp only [Au, EJ, Fy, Jh, D3, D5, B0, AL, Bo, B0, AL, Bo, Gs, Gh, Ft, Gm, Fw, FC, EK, List.drop_zero, List.drop_succ_cons, bi, bj, List.take_succ_cons, List.take_zero, Option.isSome_some, if_true, ba, Option.map_some, Nat.reduceAdd, Nat.reduceLeDiff])) ?_;refine Iy ?_;exact th
     refine F1 ?_;exact ⟨(((p0.Kind != 2) && (decide (0 < (p0.Attrs.length : Int)))) || (!((p0.Name.URI == (⟨[], []⟩ : Aa).URI) && ((p0.Name.Local == (⟨[], []⟩ : Aa).Local) && true)))), hF, oy ok, wy ok⟩
 ·rintro a9 s' hF ⟨ok, hws⟩;refine AM hws ?_;refine BG ?_;refine Zt ?_;refine BW 5 56 hF (fun J19 hb18 hF => ?_) (fun J19 hb18 hF => ?_) (fun v20 hF => ?_)
  ·refine Q0 ?_;exact tw
  ·refine Ek ?_;refine By rfl CY B2 (by rw [Ac]; rfl) ?_;refine Bs ?_;refine AW rfl (Bc EH B2 (congrArg (List.drop 4) (Ac p0))) ?_;refine Bs ?_;refine VZ (ca := [.iptr (Ae p0)]) rfl ?_;refine Bs ?_;refine cl (AC (f1 := 105) (fi1 := []) (ca1 := [.iptr (Ae p0)]) (fun z0 G h hF => Ms z0 p0 h hF) _ hF fun x21 _ hF => ?_);refine Iy ?_;exact tw
  ·refine GB ?_;exact rt
theorem Ld (rec0 : Ab × Int -> Option Bool) (hrec : ∀ (v : Ab × Int) (G : Bool -> Prop) (h : Heap), OptP (rec0 v) G -> CallsA prog 70 [.agg (Ae v.1), .int .i64 v.2] h fun d h' => ∃ r, G r /\ d = .bool r /\ h' = h) (p0 : Ab) (p1 : Int) {G : Bool -> Prop} (h : Heap) (hF : OptP (EX rec0 p0 p1) G) : CallsA prog 107 [.agg (Ae p0), .iptr [.int .i64 p1]] h fun d h' => ∃ r, G r /\ d = .bool r /\ h' = h := by
 refine CallsA.ret ?_;refine Bb func107 rfl Aaq ntmps107 rfl (fun ok => ?_);rw [EX] at hF;refine BG ?_;refine Cy (v := .agg (Ae p0)) (cs := Ae p0) rfl rfl rfl rfl ?_;refine QQ ?_;refine AW rfl (Bj (vs := Ae p0) Bq AJ (by rw [Ac]; rfl) (by rw [Ac]; rfl)) ?_;refine Ve ?_;refine cl (Bz (enc := fun r => .bool r) (fun G h hF => hrec (p0, p1) G h hF) _ hF fun x1 _ hF => ?_);refine GB ?_;exact rt
theorem NB : ∀ (N : Nat) (v : Ab × Int) (G : Bool -> Prop) (h : Heap), OptP (iter CU N v) G -> CallsA prog 70 [.agg (Ae v.1), .int .i64 v.2] h fun d h' => ∃ r, G r /\ d = .bool r /\ h' = h := by
 intro N
 induction N with
 | zero => intro v G h hF; exact Kx hF
 | succ N ih0 =>
 rintro ⟨p0, p1⟩ G h hF;show CallsA prog 70 [.agg (Ae p0), .int .i64 p1] h fun d h' => ∃ r, G r /\ d = .bool r /\ h' = h;replace hF : OptP (CU (iter CU N) (p0, p1)) G := hF;refine CallsA.ret ?_;refine Bb func70 rfl Agk ntmps70 rfl (fun ok => ?_);rw [CU] at hF;refine Gy ?_;refine CD (mdl [(3, 1)]) ?_;refine Cy (v := .agg (Ae p0)) (cs := Ae p0) rfl rfl rfl rfl ?_;refine Ux (cs := [.int .i64 p1]) ok rfl rfl rfl rfl ?_;intro i1 hi1 ok;refine F1 ?_;refine AP hF (fun (a4 : Int) s' => Zs h [(i1, .cells [.int .i64 a4])] 16 [(2, .iptr (Ae p0)), (3, .ptr i1 0)] s') (fun J5 hF => ?_) ?_
 ·refine BG ?_;refine By rfl Cj AF (by rw [Ac]; rfl) ?_;refine AW rfl (Bc CW AF (congrArg (List.drop 0) (Ac p0))) ?_;refine RF ?_;refine Bp rfl hF (fun hb6 hF => ?_) fun hb6 hF => ?_
  ·refine Xf ?_;refine O2 ?_;refine Xn ?_;refine A8 ?_;refine Bp rfl hF (fun hb7 hF => ?_) fun hb7 hF => ?_
   ·refine KN ?_;exact rt
   ·refine DD ?_;refine Mr ?_;refine O2 ?_;refine PM ?_;refine st_ 0 ok hi1 AF (fun ok => ?_);refine A8 ?_;exact ⟨(IntKind.wrap .i64 (p1 + 1)), hF, oy ok, wy ok⟩
  ·refine DD ?_;exact ⟨p1, hF, oy ok, wy ok⟩
 ·rintro a4 s' hF ⟨ok, hws⟩;refine AM hws ?_;refine BG ?_;refine Kp 0 3 ok rfl rfl hi1 (fun ok => ?_);refine By rfl CY B2 (by rw [Ac]; rfl) ?_;refine AW rfl (Bc EH B2 (congrArg (List.drop 4) (Ac p0))) ?_;refine VZ (ca := [.iptr (BF a4)]) rfl ?_;refine cl (AC (f1 := 107) (fi1 := []) (ca1 := [.iptr (BF a4)]) (fun z0 G h hF => Ld (iter CU N) ih0 z0 a4 h hF) _ hF fun x10 _ hF => ?_);refine GB ?_;exact rt
theorem NC (p0 : Ab) (p1 : Int) {G : Bool -> Prop} (h : Heap) (hF : OptP (I6 p0 p1) G) : CallsA prog 70 [.agg (Ae p0), .int .i64 p1] h fun d h' => ∃ r, G r /\ d = .bool r /\ h' = h := NB FUEL (p0, p1) G h hF
theorem KL (p0 : Aj) {G : Bool -> Prop} (h : Heap) (hF : OptP (FF p0) G) : CallsA prog 108 [.agg (Ar p0)] h fun d h' => ∃ r, G r /\ d = .bool r /\ h' = h := by
 refine CallsA.ret ?_;refine Bb func108 rfl ZV ntmps108 rfl (fun ok => ?_);rw [FF] at hF;refine BG ?_;refine Cy rfl rfl rfl rfl ?_;refine QQ ?_;refine By rfl Kl AL rfl ?_;refine P3 ?_;refine LG ?_;refine Xn ?_;refine GB ?_;exact rt
theorem DY (p0 : List Aj) (p1 : Aj -> Option Bool) (f1 : FuncId) (fi1 ca1 : List D) (hf1 : ∀ (x0 : Aj) (G : Bool -> Prop) (h : Heap), OptP (p1 x0) G -> CallsA prog f1 (fi1 ++ [.agg (Ar x0)] ++ ca1) h fun d h' => ∃ r, G r /\ d = .bool r /\ h' = h) {G : Bool -> Prop} (h : Heap) (hF : OptP (AB p0 p1) G) : CallsA prog 109 [.sl 3 (List.map Ar p0) 0, .fn (.func f1) fi1 ca1] h fun d h' => ∃ r, G r /\ d = .bool r /\ h' = h := by
 refine CallsA.ret ?_;refine Bb func109 rfl Abc ntmps109 rfl (fun ok => ?_);rw [AB] at hF;refine Ku ?_;refine I0 ?_;refine Vy ?_;refine cl (CI (f1 := f1) (fi1 := fi1) (ca1 := ca1) hf1 _ hF fun x1 _ hF => ?_);refine PK ?_;refine GB ?_;exact rt
theorem BI {β : Type} {f : Bool -> Option β} {G : β -> Prop} {R : D -> Heap -> Prop} {p0 : List Aj} {p1 : Aj -> Option Bool} {f1 : FuncId} {fi1 ca1 : List D} (hf1 : ∀ (x0 : Aj) (G : Bool -> Prop) (h : Heap), OptP (p1 x0) G -> CallsA prog f1 (fi1 ++ [.agg (Ar x0)] ++ ca1) h fun d h' => ∃ r, G r /\ d = .bool r /\ h' = h) (h : Heap) (hF : OptP ((AB p0 p1).bind f) G) (hk : ∀ r, AB p0 p1 = some r -> OptP (f r) G -> R (.bool r) h) : CallsA prog 109 [.sl 3 (List.map Ar p0) 0, .fn (.func f1) fi1 ca1] h R := by
 obtain ⟨r0, hr, hF⟩ := Br hF;refine (DY (G := fun r => r = r0) p0 p1 f1 fi1 ca1 hf1 h ⟨r0, hr, rfl⟩).mono ?_;rintro _ _ ⟨r, rfl, rfl, rfl⟩;exact hk _ hr hF
theorem Mt (p0 : Ab) {G : Bool -> Prop} (h : Heap) (hF : OptP (EN p0) G) : CallsA prog 71 [.agg (Ae p0)] h fun d h' => ∃ r, G r /\ d = .bool r /\ h' = h := by
 refine CallsA.ret ?_;refine Bb func71 rfl Afl ntmps71 rfl (fun ok => ?_);rw [EN] at hF;refine BG ?_;refine Cy (v := .agg (Ae p0)) (cs := Ae p0) rfl rfl rfl rfl ?_;refine QQ ?_;refine S_a (v := .fn (.func 108) [] []) rfl ?_;refine GH ?_;refine By rfl C0 BU (by rw [Ac]; rfl) ?_;refine AW rfl (Bc Fb BU (congrArg (List.drop 3) (Ac p0))) ?_;refine DP rfl FE ?_;refine Zz ?_;refine B9 (b := (decide (64 < (p0.Attrs.length : Int)))) 5 13 (.bool ((decide (64 < (p0.Attrs.length : Int))) || (decide (8192 < (p0.Text.length : Int))))) (fun hb1 => ?_) (fun hb1 => ?_) ?_
 ·refine Q0 ?_;exact th
 ·refine Ek ?_;refine By rfl Dh AL (by rw [Ac]; rfl) ?_;refine Bs ?_;refine AW rfl (Bc B0 AL (congrArg (List.drop 5) (Ac p0))) ?_;refine Bs ?_;refine LG ?_;refine Ye ?_;refine Iy ?_;exact th
 refine Do ?_;refine BW 5 19 hF (fun J3 hb2 hF => ?_) (fun J3 hb2 hF => ?_) (fun v4 hF => ?_)
 ·refine Q0 ?_;exact tw
 ·refine Ek ?_;refine By rfl C0 BU (by rw [Ac]; rfl) ?_;refine Bs ?_;refine AW rfl (Bc Fb BU (congrArg (List.drop 3) (Ac p0))) ?_;refine Bs ?_;refine S_m (v := .fn (.func 108) [] []) rfl ?_;refine Bs ?_;refine cl (BI (f1 := 108) (fi1 := []) (ca1 := []) (fun z0 G h hF => KL z0 h hF) _ hF fun x5 _ hF => ?_);refine Iy ?_;exact tw
 ·refine GB ?_;exact rt
theorem JD (p0 : List By8) {G : Bool -> Prop} (h : Heap) (hF : OptP (Fu p0) G) : CallsA prog 112 [.str p0] h fun d h' => ∃ r, G r /\ d = .bool r /\ h' = h := by
 refine CallsA.ret ?_;refine Bb func112 rfl Aaw ntmps112 rfl (fun ok => ?_);rw [Fu] at hF;refine Ku ?_;refine Gy ?_;refine KW ?_;refine NX ?_;refine Do ?_;refine B9 (b := (p0 == [])) 4 11 (.bool ((p0 == []) || (decide (100 < (p0.length : Int))))) (fun hb1 => ?_) (fun hb1 => ?_) ?_
 ·refine O5 ?_;exact th
 ·refine Ek ?_;refine WU ?_;refine LG ?_;refine Ye ?_;refine Iy ?_;exact th
 refine Do ?_;refine BW 4 16 hF (fun J3 hb2 hF => ?_) (fun J3 hb2 hF => ?_) (fun v4 hF => ?_)
 ·refine O5 ?_;exact tw
 ·refine Ek ?_;refine WU ?_;refine cl (L_ValidString_ok _ hF fun x5 _ hF => ?_);refine Zn ?_;exact tw
 ·refine A8 ?_;refine Bp rfl hF (fun hb6 hF => ?_) fun hb6 hF => ?_
  ·refine KN ?_;exact rt
  ·refine DD ?_;refine AP hF (fun (_ : Unit) s' => Zs h [] 35 [] s') (fun J18 hF => ?_) ?_
   ·refine KW ?_;refine Aa0 ok rfl Bo ?_;intro i19 hi19 ok;refine Aac ?_;refine BN (σ := Nat) hF (fun (a20 : Nat) s' => Zs h [(i19, .iter p0 a20)] 35 [(18, .ptr i19 0)] s') ?_ ?_
    ·exact ⟨oy ok, wy ok⟩
    ·rintro G21 hG22 rec23 a20 s' ih24 hF ⟨ok, hws⟩;refine AM hws ?_;rw [DT] at hF;refine BG ?_;refine Aa8 (j := 0) ok rfl rfl hi19 hF (fun _ ok hF => ?_) (fun hF => ?_)
     ·refine WN ?_;refine ID ?_;refine Adz rfl rfl ?_;refine Wy ?_;refine BG ?_;refine Agw ?_;refine Mz ?_;refine WC ?_;refine BW 4 29 hF (fun J26 hb25 hF => ?_) (fun J26 hb25 hF => ?_) (fun v27 hF => ?_)
      ·refine MA ?_;refine cl (Bz (fun _ h hF => FY _ h hF) _ hF fun x28 _ hF => ?_);refine Adg ?_;refine Ho ?_;exact tw
      ·refine RQ ?_;exact tw
      ·refine Do ?_;refine BW 4 34 hF (fun J30 hb29 hF => ?_) (fun J30 hb29 hF => ?_) (fun v31 hF => ?_)
       ·refine O5 ?_;exact tw
       ·refine MA ?_;refine cl (Bz (fun _ h hF => H6 _ h hF) _ hF fun x32 _ hF => ?_);refine Zn ?_;exact tw
       ·refine A8 ?_;refine Bp rfl hF (fun hb33 hF => ?_) fun hb33 hF => ?_
        ·refine KN ?_;replace hF := hG22 _ (As hF);exact rt
        ·refine DD ?_;refine ih24 (a20 + wdS p0 a20) _ hF ?_;exact ⟨oy ok, wy ok⟩
     ·refine WN ?_;refine ID ?_;refine Aeb rfl rfl ?_;refine Fm ?_;replace hF := hG22 _ (As hF);exact ⟨(), hF, oy ok, wy ok⟩
   ·rintro ⟨⟩ s' hF ⟨ok, hws⟩;refine AM hws ?_;refine KN ?_;exact rt
theorem LC (p0 : Int) {G : Bool -> Prop} (h : Heap) (hF : OptP (EU p0) G) : CallsA prog 187 [.int .i32 p0] h fun d h' => ∃ r, G r /\ d = .bool r /\ h' = h := by
 refine CallsA.ret ?_;refine Bb func187 rfl Ab5 ntmps187 rfl (fun ok => ?_);rw [EU] at hF;refine Ku ?_;refine WC ?_;refine B9 (b := (p0 == 9)) 3 8 (.bool ((p0 == 9) || (p0 == 10))) (fun hb1 => ?_) (fun hb1 => ?_) ?_
 ·refine Qm ?_;exact th
 ·refine TJ ?_;exact th
 refine Do ?_;refine B9 (b := ((p0 == 9) || (p0 == 10))) 3 12 (.bool (((p0 == 9) || (p0 == 10)) || (p0 == 13))) (fun hb2 => ?_) (fun hb2 => ?_) ?_
 ·refine Qm ?_;exact th
 ·refine TJ ?_;exact th
 refine Do ?_;refine BW 7 20 hF (fun J4 hb3 hF => ?_) (fun J4 hb3 hF => ?_) (fun v5 hF => ?_)
 ·refine JR ?_;refine Qm ?_;exact tw
 ·refine MA ?_;refine Dj (v := .agg (AY (⟨32, 55295⟩ : An))) (GF Co CJ rfl) ?_;refine Bs ?_;refine Dj (v := .agg (AY (⟨57344, 65533⟩ : An))) (GF Co CJ rfl) ?_;refine Bs ?_;refine Dj (v := .agg (AY (⟨65536, 1114111⟩ : An))) (GF Co CJ rfl) ?_;refine Bs ?_;refine CF (cs := [.int .i32 (⟨32, 55295⟩ : An).lo, .int .i32 (⟨32, 55295⟩ : An).hi, .int .i32 (⟨57344, 65533⟩ : An).lo, .int .i32 (⟨57344, 65533⟩ : An).hi, .int .i32 (⟨65536, 1114111⟩ : An).lo, .int .i32 (⟨65536, 1114111⟩ : An).hi]) (es := (List.map AY [(⟨32, 55295⟩ : An), (⟨57344, 65533⟩ : An), (⟨65536, 1114111⟩ : An)])) rfl Lw rfl (by kernel_rfl) (by kernel_rfl) ?_;refine Bs ?_;refine cl (Bz (fun _ h hF => Jc _ _ h hF) _ hF fun x6 _ hF => ?_);refine Iy ?_;exact tw
 ·refine GB ?_;exact rt
theorem NO (p0 : List By8) (p1 : Int) {G : Int × Int × Int -> Prop} (h : Heap) (hF : OptP (Gr p0 p1) G) : CallsA prog 176 [.sl 1 (List.map U6 p0) 0, .int .i64 p1] h fun d h' => ∃ r, G r /\ d = .tup [.int .i32 r.1, .int .i64 r.2.1, .int .i64 r.2.2] /\ h' = h := by
 refine CallsA.ret ?_;refine Bb func176 rfl ZU ntmps176 rfl (fun ok => ?_);rw [Gr] at hF;refine WJ ?_;refine WY ?_;refine Zp ?_;refine B9 (b := (decide (p1 < 0))) 5 16 (.bool ((decide (p1 < 0)) || (decide ((p0.length : Int) <= p1)))) (fun hb1 => ?_) (fun hb1 => ?_) ?_
 ·refine Q0 ?_;exact th
 ·refine MA ?_;refine Abv ?_;refine DP rfl In ?_;refine Bs ?_;refine PK ?_;refine Iy ?_;exact th
 refine A8 ?_;refine Bp rfl hF (fun hb2 hF => ?_) fun hb2 hF => ?_
 ·refine WJ ?_;refine Mq ?_;exact rt
 ·refine DD ?_;refine I0 ?_;refine Fj ?_;refine Aaz rfl In HW (FZ rfl) Abr hF (fun x3 _ hF => ?_);refine cl (L_DecodeRune_ok _ hF fun x4 _ hF => ?_);refine W4 ?_;refine Mz ?_;refine Gy ?_;refine KO ?_;refine WC ?_;refine B9 (b := (x4.1 == 65533)) 3 30 (.bool ((x4.1 == 65533) && (decide (x4.2 < 3)))) (fun hb5 => ?_) (fun hb5 => ?_) ?_
  ·refine MA ?_;refine W3 ?_;refine Ho ?_;exact th
  ·refine Mi ?_;exact th
  refine F1 ?_;refine Bp rfl hF (fun hb6 hF => ?_) fun hb6 hF => ?_
  ·refine WJ ?_;refine Mq ?_;exact rt
  ·refine HQ ?_;refine cl (Bz (fun _ h hF => LC _ h hF) _ hF fun x7 _ hF => ?_);refine XJ ?_;refine F1 ?_;refine Bp rfl hF (fun hb8 hF => ?_) fun hb8 hF => ?_
   ·refine WJ ?_;refine Mq ?_;exact rt
   ·refine DD ?_;refine Ot ?_;refine Zy ?_;refine Kr ?_;refine Mq ?_;exact rt
theorem MG (p0 : List By8) {G : Int × Int -> Prop} (h : Heap) (hF : OptP (EL p0) G) : CallsA prog 148 [.sl 1 (List.map U6 p0) 0] h fun d h' => ∃ r, G r /\ d = .tup [.int .i64 r.1, .int .i64 r.2] /\ h' = h := by
 refine CallsA.ret ?_;refine Bb func148 rfl Acq ntmps148 rfl (fun ok => ?_);rw [EL] at hF;refine BG ?_;refine Mz ?_;refine AP hF (fun (_ : Unit) s' => Zs h [] 24 [] s') (fun J5 hF => ?_) ?_
 ·refine PN ?_;refine KO ?_;refine BN (σ := Int) hF (fun (a6 : Int) s' => Zs h [] 24 [(0, .sl 1 (List.map U6 p0) 0), (4, .int .i64 a6)] s') ?_ ?_
  ·exact ⟨oy ok, wy ok⟩
  ·rintro G7 hG8 rec9 a6 s' ih10 hF ⟨ok, hws⟩;refine AM hws ?_;rw [Eh] at hF;refine MN ?_;refine Ox ?_;refine DP rfl In ?_;refine R1 ?_;refine Bp rfl hF (fun hb11 hF => ?_) fun hb11 hF => ?_
   ·refine Wy ?_;refine I0 ?_;refine Fj ?_;refine cl (Bz (fun _ h hF => NO _ _ h hF) _ hF fun x12 _ hF => ?_);refine Xs ?_;refine Kr ?_;refine WY ?_;refine RS ?_;refine Bp rfl hF (fun hb13 hF => ?_) fun hb13 hF => ?_
    ·refine Ot ?_;refine Mq ?_;replace hF := hG8 _ (As hF);exact rt
    ·refine DD ?_;refine Va ?_;refine IL ?_;refine ih10 x12.2.1 _ hF ?_;exact ⟨oy ok, wy ok⟩
   ·refine Fm ?_;replace hF := hG8 _ (As hF);exact ⟨(), hF, oy ok, wy ok⟩
 ·rintro ⟨⟩ s' hF ⟨ok, hws⟩;refine AM hws ?_;refine BG ?_;refine Mq ?_;exact rt
theorem HZ (p0 : List By8) {G : Bool -> Prop} (h : Heap) (hF : OptP (Fx p0) G) : CallsA prog 114 [.str p0] h fun d h' => ∃ r, G r /\ d = .bool r /\ h' = h := by
 refine CallsA.ret ?_;refine Bb func114 rfl Aas ntmps114 rfl (fun ok => ?_);rw [Fx] at hF;refine Ku ?_;refine KW ?_;refine Abh rfl rfl In Bo QM ?_;refine cl (Bz (fun _ h hF => MG _ h hF) _ hF fun x1 _ hF => ?_);refine W4 ?_;refine Mz ?_;refine HQ ?_;refine Ty ?_;refine GB ?_;exact rt
theorem GO (p0 : Aa) {G : Bool -> Prop} (h : Heap) (hF : OptP (Df p0) G) : CallsA prog 111 [.agg (Au p0)] h fun d h' => ∃ r, G r /\ d = .bool r /\ h' = h := by
 refine CallsA.ret ?_;refine Bb func111 rfl Aau ntmps111 rfl (fun ok => ?_);rw [Df] at hF;refine BG ?_;refine Cy rfl rfl rfl rfl ?_;refine QQ ?_;refine Ad0 ?_;refine P3 ?_;refine cl (Bz (fun _ h hF => JD _ h hF) _ hF fun x1 _ hF => ?_);refine Xj ?_;refine B9 (b := (!x1)) 5 12 (.bool ((!x1) || (decide (100 < (p0.URI.length : Int))))) (fun hb2 => ?_) (fun hb2 => ?_) ?_
 ·refine Q0 ?_;exact th
 ·refine Ek ?_;refine Abm ?_;refine Bs ?_;refine P3 ?_;refine Bs ?_;refine LG ?_;refine Ye ?_;refine Iy ?_;exact th
 refine Do ?_;refine BW 4 17 hF (fun J4 hb3 hF => ?_) (fun J4 hb3 hF => ?_) (fun v5 hF => ?_)
 ·refine O5 ?_;exact tw
 ·refine Ek ?_;refine Abm ?_;refine Bs ?_;refine P3 ?_;refine Bs ?_;refine cl (Bz (fun _ h hF => HZ _ h hF) _ hF fun x6 _ hF => ?_);refine Iy ?_;exact tw
 ·refine Do ?_;refine B9 (b := v5) 4 22 (.bool (v5 || (p0.URI == [104, 116, 116, 112, 58, 47, 47, 119, 119, 119, 46, 119, 51, 46, 111, 114, 103, 47, 50, 48, 48, 48, 47, 120, 109, 108, 110, 115, 47]))) (fun hb7 => ?_) (fun hb7 => ?_) ?_
  ·refine O5 ?_;exact th
  ·refine Ek ?_;refine Abm ?_;refine Bs ?_;refine P3 ?_;refine Bs ?_;refine NX ?_;refine Iy ?_;exact th
  refine GB ?_;exact rt
theorem Je (p0 : Aj) {G : Bool -> Prop} (h : Heap) (hF : OptP (Ew p0) G) : CallsA prog 110 [.agg (Ar p0)] h fun d h' => ∃ r, G r /\ d = .bool r /\ h' = h := by
 refine CallsA.ret ?_;refine Bb func110 rfl Ace ntmps110 rfl (fun ok => ?_);rw [Ew] at hF;refine BG ?_;refine Cy rfl rfl rfl rfl ?_;refine QQ ?_;refine Zq ?_;refine AW rfl (Bj (vs := Au p0.Name) BM AG rfl rfl) ?_;refine cl (Bz (fun _ h hF => GO _ h hF) _ hF fun x1 _ hF => ?_);refine Do ?_;refine B9 (b := x1) 5 11 (.bool (x1 || ((p0.Name.URI == (⟨[], [120, 109, 108, 110, 115]⟩ : Aa).URI) && ((p0.Name.Local == (⟨[], [120, 109, 108, 110, 115]⟩ : Aa).Local) && true)))) (fun hb2 => ?_) (fun hb2 => ?_) ?_
 ·refine Q0 ?_;exact th
 ·refine Ek ?_;refine Zq ?_;refine Bs ?_;refine AW rfl (Bj (vs := Au p0.Name) BM AG rfl rfl) ?_;refine Bs ?_;refine Dj (v := .agg (Au (⟨[], [120, 109, 108, 110, 115]⟩ : Aa))) (GF CN Eo rfl) ?_;refine Bs ?_;refine Dc rfl rfl (Tl (b := ((p0.Name.URI == (⟨[], [120, 109, 108, 110, 115]⟩ : Aa).URI) && ((p0.Name.Local == (⟨[], [120, 109, 108, 110, 115]⟩ : Aa).Local) && true))) D5 D3 (by simp only [Au, EJ, Fy, Jh, D3, D5, B0, AL, Bo, B0, AL, Bo, Gs, Gh, Ft, Gm, Fw, FC, EK, List.drop_zero, List.drop_succ_cons, bi, bj, List.take_succ_cons, List.take_zero, Option.isSome_some, if_true, ba, Option.map_some, Nat.reduceAdd, Nat.reduceLeDiff])) ?_;refine Iy ?_;exact th
 refine GB ?_;exact rt
theorem Io (p0 : List By8) (p1 : List By8) {G : Bool -> Prop} (h : Heap) (hF : OptP (Db p0 p1) G) : CallsA prog 113 [.str p0, .str p1] h fun d h' => ∃ r, G r /\ d = .bool r /\ h' = h := by
 refine CallsA.ret ?_;refine Bb func113 rfl Acf ntmps113 rfl (fun ok => ?_);rw [Db] at hF;refine Ku ?_;refine NU ?_;refine JW_step ?_;refine YT 0 rfl hF (fun (a49 : Int) s' => Zs h [] 123 [(0, .str p0), (1, .str p1), (5, .int .i64 a49)] s') ?_ ?_
 ·rintro a49 s' hF ⟨ok, hws⟩;refine AM hws ?_;refine Zj ?_;refine Ka rfl Bo (FZ rfl) OO hF (fun x52 _ hF => ?_);refine U8 ?_;refine GH ?_;refine NV ?_;refine Fj ?_;refine Ka rfl Bo (FZ rfl) OO hF (fun x53 _ hF => ?_);refine U8 ?_;refine A8 ?_;refine AP hF (fun (a80 : (List By8)) s' => Zs h [] 123 [(1, .str a80)] s') (fun J81 hF => ?_) ?_
  ·refine KW ?_;refine Aa0 ok rfl Bo ?_;intro i82 hi82 ok;refine Aac ?_;refine BN (σ := (List By8) × Nat) hF (fun (v : (List By8) × Nat) s' => match v with | (a83, a84) => Zs h [(i82, .iter x52 a84)] 123 [(1, .str a83), (67, .ptr i82 0)] s') ?_ ?_
   ·exact ⟨oy ok, wy ok⟩
   ·rintro G85 hG86 rec87 ⟨a83, a84⟩ s' ih88 hF ⟨ok, hws⟩;refine AM hws ?_;rw [Be] at hF;refine BG ?_;refine Aa8 (j := 0) ok rfl rfl hi82 hF (fun _ ok hF => ?_) (fun hF => ?_)
    ·refine WN ?_;refine ID ?_;refine Adz rfl rfl ?_;refine Wy ?_;refine BG ?_;refine WN ?_;refine IL ?_;refine Gy ?_;refine KW ?_;refine LG ?_;refine RF ?_;refine Bp rfl hF (fun hb89 hF => ?_) fun hb89 hF => ?_
     ·refine KN ?_;replace hF := hG86 _ (As hF);exact rt
     ·refine DD ?_;refine KW ?_;refine cl (L_DecodeRuneInString_ok _ hF fun x90 _ hF => ?_);refine W4 ?_;refine Mz ?_;refine Zj ?_;refine Ka rfl Bo (FZ rfl) OO hF (fun x91 _ hF => ?_);refine U8 ?_;refine ID ?_;refine Ot ?_;refine RF ?_;refine Bp rfl hF (fun hb92 hF => ?_) fun hb92 hF => ?_
      ·refine Fm ?_;refine ih88 (x91, (a84 + wdS x52 a84)) _ hF ?_;exact ⟨oy ok, wy ok⟩
      ·refine DD ?_;refine AP hF (fun (v : Int × Int) s' => match v with | (a94, a95) => Zs h [(i82, .iter x52 (a84 + wdS x52 a84))] 123 [(1, .str x91), (10, .int .i32 a94), (11, .int .i32 a95), (67, .ptr i82 0)] s') (fun J96 hF => ?_) ?_
       ·refine Ot ?_;refine R1 ?_;refine Bp rfl hF (fun hb97 hF => ?_) fun hb97 hF => ?_
        ·refine Va ?_;refine Fj ?_;refine Mz ?_;exact ⟨(x90.1, (rnS x52 a84)), hF, oy ok, wy ok⟩
        ·refine DD ?_;exact ⟨((rnS x52 a84), x90.1), hF, oy ok, wy ok⟩
       ·rintro ⟨a94, a95⟩ s' hF ⟨ok, hws⟩;refine AM hws ?_;refine MN ?_;refine R1 ?_;refine Bp rfl hF (fun hb98 hF => ?_) fun hb98 hF => ?_
        ·refine MN ?_;refine Xd ?_;refine Do ?_;refine B9 (b := (decide (65 <= a94))) 3 97 (.bool ((decide (65 <= a94)) && (decide (a94 <= 90)))) (fun hb99 => ?_) (fun hb99 => ?_) ?_
         ·refine Zm ?_;refine Ho ?_;exact th
         ·refine Mi ?_;exact th
         refine Do ?_;refine B9 (b := ((decide (65 <= a94)) && (decide (a94 <= 90)))) 6 104 (.bool (((decide (65 <= a94)) && (decide (a94 <= 90))) && (a95 == (IntKind.wrap .i32 ((IntKind.wrap .i32 (a94 + 97)) - 65))))) (fun hb100 => ?_) (fun hb100 => ?_) ?_
         ·refine MA ?_;refine Rg ?_;refine PM ?_;refine Bs ?_;refine PL ?_;refine ZE ?_;exact th
         ·refine JR ?_;refine V5 ?_;exact th
         refine A8 ?_;refine Bp rfl hF (fun hb101 hF => ?_) fun hb101 hF => ?_
         ·refine Fm ?_;refine ih88 (x91, (a84 + wdS x52 a84)) _ hF ?_;exact ⟨oy ok, wy ok⟩
         ·refine W7 ?_;replace hF := hG86 _ (As hF);exact rt
        ·refine DD ?_;refine HQ ?_;refine cl (L_SimpleFold_ok _ hF fun x102 _ hF => ?_);refine IL ?_;refine AP hF (fun (a107 : Int) s' => Zs h [(i82, .iter x52 (a84 + wdS x52 a84))] 123 [(1, .str x91), (11, .int .i32 a95), (13, .int .i32 a107), (67, .ptr i82 0)] s') (fun J108 hF => ?_) ?_
         ·refine KO ?_;refine BN (σ := Int) hF (fun (a109 : Int) s' => Zs h [(i82, .iter x52 (a84 + wdS x52 a84))] 123 [(1, .str x91), (10, .int .i32 a94), (11, .int .i32 a95), (13, .int .i32 a109), (67, .ptr i82 0)] s') ?_ ?_
          ·exact ⟨oy ok, wy ok⟩
          ·rintro G110 hG111 rec112 a109 s' ih113 hF ⟨ok, hws⟩;refine AM hws ?_;rw [Bu] at hF;refine MN ?_;refine Fj ?_;refine Ty ?_;refine Do ?_;refine B9 (b := (a109 != a94)) 4 114 (.bool ((a109 != a94) && (decide (a109 < a95)))) (fun hb114 => ?_) (fun hb114 => ?_) ?_
           ·refine MA ?_;refine Rg ?_;refine W3 ?_;refine Ho ?_;exact th
           ·refine RQ ?_;exact th
           refine A8 ?_;refine Bp rfl hF (fun hb115 hF => ?_) fun hb115 hF => ?_
           ·refine Wy ?_;refine Va ?_;refine cl (L_SimpleFold_ok _ hF fun x116 _ hF => ?_);refine IL ?_;refine ih113 x116 _ hF ?_;exact ⟨oy ok, wy ok⟩
           ·refine Fm ?_;replace hF := hG111 _ (As hF);exact ⟨a109, hF, oy ok, wy ok⟩
         ·rintro a107 s' hF ⟨ok, hws⟩;refine AM hws ?_;refine MN ?_;refine Fj ?_;refine RF ?_;refine Bp rfl hF (fun hb117 hF => ?_) fun hb117 hF => ?_
          ·refine Fm ?_;refine ih88 (x91, (a84 + wdS x52 a84)) _ hF ?_;exact ⟨oy ok, wy ok⟩
          ·refine W7 ?_;replace hF := hG86 _ (As hF);exact rt
    ·refine WN ?_;refine ID ?_;refine Aeb rfl rfl ?_;refine Fm ?_;replace hF := hG86 _ (As hF);exact ⟨a83, hF, oy ok, wy ok⟩
  ·rintro a80 s' hF ⟨ok, hws⟩;refine AM hws ?_;refine KW ?_;refine LG ?_;refine Zr ?_;exact rt
 ·intro J50 hJ51 hF;refine PN ?_;refine AP hF (fun (_ : Unit) s' => Zs h [] 123 [(0, .str p0), (1, .str p1)] s') (fun J142 hF => ?_) ?_
  ·refine KW ?_;refine LG ?_;refine NV ?_;refine LG ?_;refine Aa7 rfl rfl ?_;refine IL ?_;refine KO ?_;refine BN (σ := Int) hF (fun (a143 : Int) s' => Zs h [] 123 [(0, .str p0), (1, .str p1), (5, .int .i64 a143), (6, .int .i64 (if (p1.length : Int) < (p0.length : Int) then (p1.length : Int) else (p0.length : Int)))] s') ?_ ?_
   ·exact ⟨oy ok, wy ok⟩
   ·rintro G144 hG145 rec146 a143 s' ih147 hF ⟨ok, hws⟩;refine AM hws ?_;rw [BL] at hF;refine MN ?_;refine Fj ?_;refine R1 ?_;refine Bp rfl hF (fun hb148 hF => ?_) fun hb148 hF => ?_
    ·refine DD ?_;refine AP hF (fun (_ : Unit) s' => Zs h [] 123 [(0, .str p0), (1, .str p1), (5, .int .i64 a143), (6, .int .i64 (if (p1.length : Int) < (p0.length : Int) then (p1.length : Int) else (p0.length : Int)))] s') (fun J160 hF => ?_) ?_
     ·refine KO ?_;refine Zj ?_;refine I4 rfl rfl Bo hF (fun x161 _ hF => ?_);refine IL ?_;refine Zj ?_;refine I4 rfl rfl Bo hF (fun x162 _ hF => ?_);refine IL ?_;refine MN ?_;refine Fj ?_;refine Dc rfl rfl (Ah8 ..) ?_;refine PK ?_;refine A8 ?_;refine Bp rfl hF (fun hb163 hF => ?_) fun hb163 hF => ?_
      ·refine NH ?_
       repeat (first | with_reducible refine Exit.sel_goto ?_ | with_reducible refine Exit.blk_goto ?_)
       refine KY rfl ?_;replace hF := hG145 _ (As hF);refine hJ51 a143 _ hF ?_;exact ⟨oy ok, wy ok⟩
      ·refine Ou ?_;refine Ot ?_;refine RF ?_;refine Bp rfl hF (fun hb164 hF => ?_) fun hb164 hF => ?_
       ·refine Fm ?_;exact ⟨(), hF, oy ok, wy ok⟩
       ·refine DD ?_;refine AP hF (fun (v : Int × Int) s' => match v with | (a166, a167) => Zs h [] 123 [(0, .str p0), (1, .str p1), (5, .int .i64 a143), (6, .int .i64 (if (p1.length : Int) < (p0.length : Int) then (p1.length : Int) else (p0.length : Int))), (7, .int .u8 a166), (8, .int .u8 a167)] s') (fun J168 hF => ?_) ?_
        ·refine Ot ?_;refine R1 ?_;refine Bp rfl hF (fun hb169 hF => ?_) fun hb169 hF => ?_
         ·refine Va ?_;refine Fj ?_;refine Mz ?_;exact ⟨((x162.toNat : Int), (x161.toNat : Int)), hF, oy ok, wy ok⟩
         ·refine DD ?_;exact ⟨((x161.toNat : Int), (x162.toNat : Int)), hF, oy ok, wy ok⟩
        ·rintro ⟨a166, a167⟩ s' hF ⟨ok, hws⟩;refine AM hws ?_;refine MN ?_;refine Xd ?_;refine Do ?_;refine B9 (b := (decide (65 <= a166))) 3 47 (.bool ((decide (65 <= a166)) && (decide (a166 <= 90)))) (fun hb170 => ?_) (fun hb170 => ?_) ?_
         ·refine Zm ?_;refine Ho ?_;exact th
         ·refine Mi ?_;exact th
         refine Do ?_;refine B9 (b := ((decide (65 <= a166)) && (decide (a166 <= 90)))) 6 54 (.bool (((decide (65 <= a166)) && (decide (a166 <= 90))) && (a167 == (IntKind.wrap .u8 ((IntKind.wrap .u8 (a166 + 97)) - 65))))) (fun hb171 => ?_) (fun hb171 => ?_) ?_
         ·refine MA ?_;refine Rg ?_;refine PM ?_;refine Bs ?_;refine PL ?_;refine ZE ?_;exact th
         ·refine JR ?_;refine V5 ?_;exact th
         refine A8 ?_;refine Bp rfl hF (fun hb172 hF => ?_) fun hb172 hF => ?_
         ·refine Fm ?_;exact ⟨(), hF, oy ok, wy ok⟩
         ·refine W7 ?_;replace hF := hG145 _ (As hF);exact rt
     ·rintro ⟨⟩ s' hF ⟨ok, hws⟩;refine AM hws ?_;refine V0 ?_;refine ih147 (IntKind.wrap .i64 (a143 + 1)) _ hF ?_;exact ⟨oy ok, wy ok⟩
    ·refine Fm ?_;replace hF := hG145 _ (As hF);exact ⟨(), hF, oy ok, wy ok⟩
  ·rintro ⟨⟩ s' hF ⟨ok, hws⟩;refine AM hws ?_;refine Gy ?_;refine KW ?_;refine LG ?_;refine NV ?_;refine LG ?_;refine Zr ?_;exact rt
theorem Ki (p0 : Ab) {G : Bool -> Prop} (h : Heap) (hF : OptP (CG p0) G) : CallsA prog 72 [.agg (Ae p0)] h fun d h' => ∃ r, G r /\ d = .bool r /\ h' = h := by
 refine CallsA.ret ?_;refine Bb func72 rfl Agt ntmps72 rfl (fun ok => ?_);rw [CG] at hF;refine BG ?_;refine Cy (v := .agg (Ae p0)) (cs := Ae p0) rfl rfl rfl rfl ?_;refine QQ ?_;refine S_a (v := .fn (.func 110) [] []) rfl ?_;refine Zw ?_;refine By rfl Cj AF (by rw [Ac]; rfl) ?_;refine AW rfl (Bc CW AF (congrArg (List.drop 0) (Ac p0))) ?_;refine Zi ?_;refine Bp rfl hF (fun hb1 hF => ?_) fun hb1 hF => ?_
 ·refine BG ?_;refine By rfl Fv AG (by rw [Ac]; rfl) ?_;refine AW rfl (Bj (vs := Au p0.Name) BM AG (by rw [Ac]; rfl) (by rw [Ac]; rfl)) ?_;refine cl (Bz (fun _ h hF => GO _ h hF) _ hF fun x2 _ hF => ?_);refine Do ?_;refine BW 5 16 hF (fun J4 hb3 hF => ?_) (fun J4 hb3 hF => ?_) (fun v5 hF => ?_)
  ·refine Q0 ?_;exact tw
  ·refine Ek ?_;refine By rfl C0 BU (by rw [Ac]; rfl) ?_;refine Bs ?_;refine AW rfl (Bc Fb BU (congrArg (List.drop 3) (Ac p0))) ?_;refine Bs ?_;refine S_m (v := .fn (.func 110) [] []) rfl ?_;refine Bs ?_;refine cl (BI (f1 := 110) (fi1 := []) (ca1 := []) (fun z0 G h hF => Je z0 h hF) _ hF fun x6 _ hF => ?_);refine Iy ?_;exact tw
  ·refine GB ?_;exact rt
 ·refine Tx ?_;refine Bp rfl hF (fun hb7 hF => ?_) fun hb7 hF => ?_
  ·refine BG ?_;refine By rfl Fv AG (by rw [Ac]; rfl) ?_;refine By rfl Iq AL (by rw [Ac]; rfl) ?_;refine AW rfl (Bc B0 AL (congrArg (List.drop 1) (congrArg (List.drop 1) (Ac p0)))) ?_;refine cl (Bz (fun _ h hF => JD _ h hF) _ hF fun x8 _ hF => ?_);refine Xj ?_;refine BW 5 29 hF (fun J10 hb9 hF => ?_) (fun J10 hb9 hF => ?_) (fun v11 hF => ?_)
   ·refine Q0 ?_;exact tw
   ·refine Ek ?_;refine By rfl Fv AG (by rw [Ac]; rfl) ?_;refine Bs ?_;refine By rfl Iq AL (by rw [Ac]; rfl) ?_;refine Bs ?_;refine AW rfl (Bc B0 AL (congrArg (List.drop 1) (congrArg (List.drop 1) (Ac p0)))) ?_;refine Bs ?_;refine cl (Bz (fun _ h hF => Io _ _ h hF) _ hF fun x12 _ hF => ?_);refine Iy ?_;exact tw
   ·refine GB ?_;exact rt
  ·refine W7 ?_;exact rt
theorem Km (p0 : Aj) {G : Bool -> Prop} (h : Heap) (hF : OptP (E8 p0) G) : CallsA prog 115 [.agg (Ar p0)] h fun d h' => ∃ r, G r /\ d = .bool r /\ h' = h := by
 refine CallsA.ret ?_;refine Bb func115 rfl Ac1 ntmps115 rfl (fun ok => ?_);rw [E8] at hF;refine BG ?_;refine Cy rfl rfl rfl rfl ?_;refine QQ ?_;refine By rfl Kl AL rfl ?_;refine P3 ?_;refine cl (Bz (fun _ h hF => HZ _ h hF) _ hF fun x1 _ hF => ?_);refine GB ?_;exact rt
theorem LF (p0 : Ab) {G : Bool -> Prop} (h : Heap) (hF : OptP (Dl p0) G) : CallsA prog 73 [.agg (Ae p0)] h fun d h' => ∃ r, G r /\ d = .bool r /\ h' = h := by
 refine CallsA.ret ?_;refine Bb func73 rfl Afi ntmps73 rfl (fun ok => ?_);rw [Dl] at hF;refine BG ?_;refine Cy (v := .agg (Ae p0)) (cs := Ae p0) rfl rfl rfl rfl ?_;refine QQ ?_;refine By rfl Dh AL (by rw [Ac]; rfl) ?_;refine AW rfl (Bc B0 AL (congrArg (List.drop 5) (Ac p0))) ?_;refine cl (Bz (fun _ h hF => HZ _ h hF) _ hF fun x1 _ hF => ?_);refine Do ?_;refine BW 4 10 hF (fun J3 hb2 hF => ?_) (fun J3 hb2 hF => ?_) (fun v4 hF => ?_)
 ·refine O5 ?_;exact tw
 ·refine Ek ?_;refine By rfl C0 BU (by rw [Ac]; rfl) ?_;refine Bs ?_;refine AW rfl (Bc Fb BU (congrArg (List.drop 3) (Ac p0))) ?_;refine Bs ?_;refine cl (BI (f1 := 115) (fi1 := []) (ca1 := []) (fun z0 G h hF => Km z0 h hF) _ hF fun x5 _ hF => ?_);refine Iy ?_;exact tw
 ·refine GB ?_;exact rt
theorem F2 (p0 : List By8) {G : Bool -> Prop} (h : Heap) (hF : OptP (Dm p0) G) : CallsA prog 139 [.str p0] h fun d h' => ∃ r, G r /\ d = .bool r /\ h' = h := by
 refine CallsA.ret ?_;refine Bb func139 rfl Acy ntmps139 rfl (fun ok => ?_);rw [Dm] at hF;refine Ku ?_;refine KW ?_;refine NV ?_;refine Dc rfl rfl OS ?_;refine GB ?_;exact rt
theorem Fk (p0 : List By8) (p1 : List By8) {G : Int -> Prop} (h : Heap) (hF : OptP (Ci p0 p1) G) : CallsA prog 97 [.str p0, .str p1] h fun d h' => ∃ r, G r /\ d = .int .i64 r /\ h' = h := by
 refine CallsA.ret ?_;refine Bb func97 rfl Agd ntmps97 rfl (fun ok => ?_);rw [Ci] at hF;refine PN ?_;refine KW ?_;refine cl (Bz (fun _ h hF => F2 _ h hF) _ hF fun x1 _ hF => ?_);refine F1 ?_;refine KW ?_;refine cl (Bz (fun _ h hF => F2 _ h hF) _ hF fun x2 _ hF => ?_);refine ZF ?_;refine XB ?_;refine Bp rfl hF (fun hb3 hF => ?_) fun hb3 hF => ?_
 ·refine Xf ?_;refine XB ?_;refine Bp rfl hF (fun hb4 hF => ?_) fun hb4 hF => ?_
  ·refine LO ?_;exact rt
  ·refine Zv ?_;exact rt
 ·refine Ou ?_;refine BG ?_;refine XB ?_;refine Bp rfl hF (fun hb5 hF => ?_) fun hb5 hF => ?_
  ·refine LO ?_;exact rt
  ·refine Ou ?_;refine KW ?_;refine NV ?_;refine Dc rfl rfl Aal ?_;refine A8 ?_;refine Bp rfl hF (fun hb6 hF => ?_) fun hb6 hF => ?_
   ·refine LO ?_;exact rt
   ·refine Ou ?_;refine KW ?_;refine NV ?_;refine Dc rfl rfl Acg ?_;refine A8 ?_;refine Bp rfl hF (fun hb7 hF => ?_) fun hb7 hF => ?_
    ·refine LO ?_;exact rt
    ·refine Zv ?_;exact rt
theorem MM (p0 : List Int) {G : Int -> Prop} (h : Heap) (hF : OptP (FL p0) G) : CallsA prog 96 [.sl 1 (List.map BF p0) 0] h fun d h' => ∃ r, G r /\ d = .int .i64 r /\ h' = h := by
 refine CallsA.ret ?_;refine Bb func96 rfl Aft ntmps96 rfl (fun ok => ?_);rw [FL] at hF;refine PN ?_;refine PN ?_;refine AP hF (fun (_ : Unit) s' => Zs h [] 18 [(3, .int .i64 0)] s') (fun J5 hF => ?_) ?_
 ·refine XO ?_;refine KM ?_;refine BN (σ := Int) hF (fun (a6 : Int) s' => Zs h [] 18 [(3, .int .i64 0), (6, .sl 1 (List.map BF p0) 0), (7, .int .i64 (p0.length : Int)), (8, .int .i64 a6)] s') ?_ ?_
  ·exact ⟨oy ok, wy ok⟩
  ·rintro G7 hG8 rec9 a6 s' ih10 hF ⟨ok, hws⟩;refine AM hws ?_;rw [BP] at hF;refine IG ?_;refine Bp rfl hF (fun hb11 hF => ?_) fun hb11 hF => ?_
   ·refine YM ?_;refine BG ?_;refine Gb rfl rfl Ep AF hF (fun x12 _ hF => ?_);refine Ve ?_;refine IL ?_;refine Ot ?_;refine RS ?_;refine Bp rfl hF (fun hb13 hF => ?_) fun hb13 hF => ?_
    ·refine Vz ?_;replace hF := hG8 _ (As hF);exact rt
    ·refine Th ?_;refine ih10 (IntKind.wrap .i64 (a6 + 1)) _ hF ?_;exact ⟨oy ok, wy ok⟩
   ·refine Fm ?_;replace hF := hG8 _ (As hF);exact ⟨(), hF, oy ok, wy ok⟩
 ·rintro ⟨⟩ s' hF ⟨ok, hws⟩;refine AM hws ?_;refine Vz ?_;exact rt
theorem IM (p0 : Aa) (p1 : Aa) {G : Int -> Prop} (h : Heap) (hF : OptP (ER p0 p1) G) : CallsA prog 58 [.agg (Au p0), .agg (Au p1)] h fun d h' => ∃ r, G r /\ d = .int .i64 r /\ h' = h := by
 refine CallsA.ret ?_;refine Bb func58 rfl Ags ntmps58 rfl (fun ok => ?_);rw [ER] at hF;refine BG ?_;refine Cy rfl rfl rfl rfl ?_;refine Cy rfl rfl rfl rfl ?_;refine IL ?_;refine Gy ?_;refine O8 (mdl [(6, 3), (8, 3), (11, 3), (13, 3)]) [0, 1, 2, 3, 5, 6, 7, 8, 4, 9, 10, 11, 12] [_, _, _, _, _, _, _, _, _, _, _, _, _] (by kernel_rfl) rfl rfl (by kernel_rfl) ?_;refine Abm ?_;refine P3 ?_;refine Abm ?_;refine P3 ?_;refine Ad0 ?_;refine P3 ?_;refine Ad0 ?_;refine P3 ?_;refine cl (Bz (fun _ h hF => Fk _ _ h hF) _ hF fun x1 _ hF => ?_);refine cl (Bz (fun _ h hF => Fk _ _ h hF) _ hF fun x2 _ hF => ?_);refine CF (cs := [.int .i64 x1, .int .i64 x2]) (es := (List.map BF [x1, x2])) rfl Et rfl (by kernel_rfl) (by kernel_rfl) ?_;refine cl (Bz (fun _ h hF => MM _ h hF) _ hF fun x3 _ hF => ?_);refine Vf ?_;exact rt
theorem JO (p0 : Ab) {G : Bool -> Prop} (h : Heap) (hF : OptP (B1 p0) G) : CallsA prog 74 [.agg (Ae p0)] h fun d h' => ∃ r, G r /\ d = .bool r /\ h' = h := by
 refine CallsA.ret ?_;refine Bb func74 rfl Afw ntmps74 rfl (fun ok => ?_);rw [B1] at hF;refine BG ?_;refine Cy (v := .agg (Ae p0)) (cs := Ae p0) rfl rfl rfl rfl ?_;refine F1 ?_;refine AP hF (fun (_ : Unit) s' => Zs h [] 30 [] s') (fun J15 hF => ?_) ?_
 ·refine BG ?_;refine By rfl C0 BU (by rw [Ac]; rfl) ?_;refine AW rfl (Bc Fb BU (congrArg (List.drop 3) (Ac p0))) ?_;refine DP rfl FE ?_;refine KM ?_;refine BN (σ := Int) hF (fun (a16 : Int) s' => Zs h [] 30 [(1, .iptr (Ae p0)), (6, .int .i64 (p0.Attrs.length : Int)), (7, .int .i64 a16)] s') ?_ ?_
  ·exact ⟨oy ok, wy ok⟩
  ·rintro G17 hG18 rec19 a16 s' ih20 hF ⟨ok, hws⟩;refine AM hws ?_;rw [C5] at hF;refine IG ?_;refine Bp rfl hF (fun hb21 hF => ?_) fun hb21 hF => ?_
   ·refine XG ?_;refine AP hF (fun (a27 : Bool) s' => Zs h [] 30 [(1, .iptr (Ae p0)), (6, .int .i64 (p0.Attrs.length : Int)), (7, .int .i64 a16), (28, .bool a27)] s') (fun J28 hF => ?_) ?_
    ·refine HJ (mdl [(14, 3), (19, 3), (21, 3), (25, 3)]) (by kernel_rfl) (by kernel_rfl) ?_;refine Fj ?_;refine Zz ?_;refine SQ (b := (decide (0 < a16))) hF (fun hb29 hF => ?_) (fun hb30 hF => ?_)
     ·refine Ek ?_;refine By rfl C0 BU (by rw [Ac]; rfl) ?_;refine Bs ?_;refine AW rfl (Bc Fb BU (congrArg (List.drop 3) (Ac p0))) ?_;refine Zl ?_;refine XQ ?_;refine Gb rfl rfl FE GN hF (fun x31 _ hF => ?_);refine Bs ?_;refine Zq ?_;refine Bs ?_;refine AW rfl (Bj (vs := Au x31.Name) BM AG rfl rfl) ?_;refine Bs ?_;refine By rfl C0 BU (by rw [Ac]; rfl) ?_;refine Bs ?_;refine AW rfl (Bc Fb BU (congrArg (List.drop 3) (Ac p0))) ?_;refine Zl ?_;refine Gb rfl rfl FE GN hF (fun x32 _ hF => ?_);refine Bs ?_;refine Zq ?_;refine Bs ?_;refine AW rfl (Bj (vs := Au x32.Name) BM AG rfl rfl) ?_;refine Bs ?_;refine cl (Bz (fun _ h hF => IM _ _ h hF) _ hF fun x33 _ hF => ?_);refine Bs ?_;refine PK ?_;refine Ho ?_;exact ⟨(decide (0 <= x33)), hF, oy ok, wy ok⟩
     ·refine SX ?_;refine JR ?_;refine RQ ?_;exact ⟨false, hF, oy ok, wy ok⟩
    ·rintro a27 s' hF ⟨ok, hws⟩;refine AM hws ?_;refine Bp rfl hF (fun hb34 hF => ?_) fun hb34 hF => ?_
     ·refine KN ?_;replace hF := hG18 _ (As hF);exact rt
     ·refine Th ?_;refine ih20 (IntKind.wrap .i64 (a16 + 1)) _ hF ?_;exact ⟨oy ok, wy ok⟩
   ·refine Fm ?_;replace hF := hG18 _ (As hF);exact ⟨(), hF, oy ok, wy ok⟩
 ·rintro ⟨⟩ s' hF ⟨ok, hws⟩;refine AM hws ?_;refine KN ?_;exact rt
theorem GT (p0 : List By8) (p1 : List By8) {G : Bool -> Prop} (h : Heap) (hF : OptP (CS p0 p1) G) : CallsA prog 150 [.str p0, .str p1] h fun d h' => ∃ r, G r /\ d = .bool r /\ h' = h := by
 refine CallsA.ret ?_;refine Bb func150 rfl ZR ntmps150 rfl (fun ok => ?_);rw [CS] at hF;refine Ku ?_;refine KW ?_;refine LG ?_;refine NV ?_;refine LG ?_;refine PK ?_;refine Do ?_;refine BW 10 20 hF (fun J2 hb1 hF => ?_) (fun J2 hb1 hF => ?_) (fun v3 hF => ?_)
 ·refine Ek ?_;refine WU ?_;refine WU ?_;refine LG ?_;refine Bs ?_;refine WU ?_;refine LG ?_;refine Bs ?_;refine XQ ?_;refine Ka rfl Bo (FZ rfl) OO hF (fun x4 _ hF => ?_);refine Bs ?_;refine WU ?_;refine NX ?_;refine Ho ?_;exact tw
 ·refine SX ?_;refine V5 ?_;exact tw
 ·refine GB ?_;exact rt
theorem Id (p0 : List By8) (p1 : List By8) {G : Bool -> Prop} (h : Heap) (hF : OptP (C6 p0 p1) G) : CallsA prog 117 [.str p0, .str p1] h fun d h' => ∃ r, G r /\ d = .bool r /\ h' = h := by
 refine CallsA.ret ?_;refine Bb func117 rfl Aay ntmps117 rfl (fun ok => ?_);rw [C6] at hF;refine Ku ?_;refine KW ?_;refine NV ?_;refine cl (Bz (fun _ h hF => GT _ _ h hF) _ hF fun x1 _ hF => ?_);refine GB ?_;exact rt
theorem Jn (p0 : Ab) {G : Bool -> Prop} (h : Heap) (hF : OptP (Ck p0) G) : CallsA prog 75 [.agg (Ae p0)] h fun d h' => ∃ r, G r /\ d = .bool r /\ h' = h := by
 refine CallsA.ret ?_;refine Bb func75 rfl Afs ntmps75 rfl (fun ok => ?_);rw [Ck] at hF;refine BG ?_;refine Cy (v := .agg (Ae p0)) (cs := Ae p0) rfl rfl rfl rfl ?_;refine F1 ?_;refine AP hF (fun (_ : Unit) s' => Zs h [] 71 [(1, .iptr (Ae p0))] s') (fun J11 hF => ?_) ?_
 ·refine BG ?_;refine By rfl CY B2 (by rw [Ac]; rfl) ?_;refine AW rfl (Bc EH B2 (congrArg (List.drop 4) (Ac p0))) ?_;refine VH ?_;refine BN (σ := Int) hF (fun (a12 : Int) s' => Zs h [] 71 [(1, .iptr (Ae p0)), (6, .sl 6 (List.map Ae p0.Kids) 0), (7, .int .i64 (p0.Kids.length : Int)), (8, .int .i64 a12)] s') ?_ ?_
  ·exact ⟨oy ok, wy ok⟩
  ·rintro G13 hG14 rec15 a12 s' ih16 hF ⟨ok, hws⟩;refine AM hws ?_;rw [C8] at hF;refine IG ?_;refine Bp rfl hF (fun hb17 hF => ?_) fun hb17 hF => ?_
   ·refine Vl ?_;refine CD (mdl [(4, 1)]) ?_;refine Fj ?_;refine Gb rfl rfl En AJ hF (fun x18 _ hF => ?_);refine AW rfl (Bj (vs := Ae x18) Bq AJ (by rw [Ac]; rfl) (by rw [Ac]; rfl)) ?_;refine Cf ok rfl D4 ?_;intro i19 hi19 ok;refine Kr ?_;refine Ga (j := 0) (cs' := [.int .i64 x18.Kind, .str x18.Name.URI, .str x18.Name.Local, .sl 3 (List.map Ar x18.Attrs) 0, .sl 6 (List.map Ae x18.Kids) 0, .str x18.Text]) ok rfl (congrArg D.agg (Ac x18)) rfl hi19 rfl AJ rfl rfl (fun ok => ?_);refine A8 ?_;refine HQ ?_;refine Zz ?_;refine B9 (b := (decide (0 < a12))) 4 19 (.bool ((decide (0 < a12)) && (x18.Kind == 3))) (fun hb20 => ?_) (fun hb20 => ?_) ?_
    ·refine Ek ?_;refine De rfl Cj AF ?_;refine Bs ?_;refine O2 ?_;refine ZE ?_;exact th
    ·refine RQ ?_;exact th
    refine Do ?_;refine BW 9 29 hF (fun J22 hb21 hF => ?_) (fun J22 hb21 hF => ?_) (fun v23 hF => ?_)
    ·refine Ek ?_;refine By rfl CY B2 (by rw [Ac]; rfl) ?_;refine Bs ?_;refine AW rfl (Bc EH B2 (congrArg (List.drop 4) (Ac p0))) ?_;refine Zl ?_;refine XQ ?_;refine Gb rfl rfl En AJ hF (fun x24 _ hF => ?_);refine Bs ?_;refine By rfl Cj AF (by rw [Ac]; rfl) ?_;refine Bs ?_;refine AW rfl (Bc CW AF (congrArg (List.drop 0) (Ac x24))) ?_;refine ZE ?_;exact tw
    ·refine SX ?_;refine Sv ?_;exact tw
    ·refine A8 ?_;refine Bp rfl hF (fun hb25 hF => ?_) fun hb25 hF => ?_
     ·refine KN ?_;replace hF := hG14 _ (As hF);exact rt
     ·refine Th ?_;refine ih16 (IntKind.wrap .i64 (a12 + 1)) _ hF ?_;exact ⟨oy ok, wy ok⟩
   ·refine Fm ?_;replace hF := hG14 _ (As hF);exact ⟨(), hF, oy ok, wy ok⟩
 ·rintro ⟨⟩ s' hF ⟨ok, hws⟩;refine AM hws ?_;refine Xf ?_;refine By rfl Cj AF (by rw [Ac]; rfl) ?_;refine AW rfl (Bc CW AF (congrArg (List.drop 0) (Ac p0))) ?_;refine Zi ?_;refine Bp rfl hF (fun hb26 hF => ?_) fun hb26 hF => ?_
  ·refine BG ?_;refine By rfl Dh AL (by rw [Ac]; rfl) ?_;refine AW rfl (Bc B0 AL (congrArg (List.drop 5) (Ac p0))) ?_;refine NX ?_;refine GB ?_;exact rt
  ·refine Tx ?_;refine Bp rfl hF (fun hb27 hF => ?_) fun hb27 hF => ?_
   ·refine BG ?_;refine By rfl Dh AL (by rw [Ac]; rfl) ?_;refine AW rfl (Bc B0 AL (congrArg (List.drop 5) (Ac p0))) ?_;refine cl (L_Contains_ok _ hF fun x28 _ hF => ?_);refine Do ?_;refine BW 4 47 hF (fun J30 hb29 hF => ?_) (fun J30 hb29 hF => ?_) (fun v31 hF => ?_)
    ·refine O5 ?_;exact tw
    ·refine Ek ?_;refine By rfl Dh AL (by rw [Ac]; rfl) ?_;refine Bs ?_;refine AW rfl (Bc B0 AL (congrArg (List.drop 5) (Ac p0))) ?_;refine Bs ?_;refine cl (Bz (fun _ h hF => Id _ _ h hF) _ hF fun x32 _ hF => ?_);refine Iy ?_;exact tw
    ·refine Do ?_;refine BW 4 52 hF (fun J34 hb33 hF => ?_) (fun J34 hb33 hF => ?_) (fun v35 hF => ?_)
     ·refine O5 ?_;exact tw
     ·refine Ek ?_;refine By rfl Dh AL (by rw [Ac]; rfl) ?_;refine Bs ?_;refine AW rfl (Bc B0 AL (congrArg (List.drop 5) (Ac p0))) ?_;refine Bs ?_;refine cl (L_Contains_ok _ hF fun x36 _ hF => ?_);refine Iy ?_;exact tw
     ·refine GB ?_;exact rt
   ·refine Tx ?_;refine Bp rfl hF (fun hb37 hF => ?_) fun hb37 hF => ?_
    ·refine AP hF (fun (a45 : Bool) s' => Zs h [] 71 [(2, .bool a45)] s') (fun J46 hF => ?_) ?_
     ·refine HJ (mdl [(56, 3), (60, 3), (65, 3), (67, 3)]) (by kernel_rfl) (by kernel_rfl) ?_;refine By rfl Dh AL (by rw [Ac]; rfl) ?_;refine AW rfl (Bc B0 AL (congrArg (List.drop 5) (Ac p0))) ?_;refine cl (L_Contains_ok _ hF fun x47 _ hF => ?_);refine Do ?_;refine SQ (b := x47) hF (fun hb48 hF => ?_) (fun hb49 hF => ?_)
      ·refine SS ?_;refine W9 ?_;refine Do ?_;refine Uy ?_;refine XD ?_;refine Qf (v := .bool _) rfl rfl rfl ?_;refine F1 ?_;exact ⟨true, hF, oy ok, wy ok⟩
      ·refine Ek ?_;refine By rfl Dh AL (by rw [Ac]; rfl) ?_;refine Bs ?_;refine AW rfl (Bc B0 AL (congrArg (List.drop 5) (Ac p0))) ?_;refine Bs ?_;refine cl (L_Contains_ok _ hF fun x50 _ hF => ?_);refine A8 ?_;refine Xy ?_;refine Do ?_;refine SQ (b := x50) hF (fun hb51 hF => ?_) (fun hb52 hF => ?_)
       ·refine JR ?_;refine PO ?_;refine W9 ?_;refine F1 ?_;exact ⟨true, hF, oy ok, wy ok⟩
       ·refine Ek ?_;refine By rfl Dh AL (by rw [Ac]; rfl) ?_;refine Bs ?_;refine AW rfl (Bc B0 AL (congrArg (List.drop 5) (Ac p0))) ?_;refine Bs ?_;refine By rfl Dh AL (by rw [Ac]; rfl) ?_;refine Bs ?_;refine AW rfl (Bc B0 AL (congrArg (List.drop 5) (Ac p0))) ?_;refine Bs ?_;refine cl (L_TrimLeft_ok _ hF fun x53 _ hF => ?_);refine Bs ?_;refine Dc rfl rfl OS ?_;refine A8 ?_;refine Xy ?_;refine F1 ?_;exact ⟨(!(p0.Text == x53)), hF, oy ok, wy ok⟩
     ·rintro a45 s' hF ⟨ok, hws⟩;refine AM hws ?_;refine Z3 ?_;exact rt
    ·refine W7 ?_;exact rt
theorem My (p0 : Ab) {G : Int -> Prop} (h : Heap) (hF : OptP (DE p0) G) : CallsA prog 33 [.agg (Ae p0)] h fun d h' => ∃ r, G r /\ d = .int .i64 r /\ h' = h := by
 refine CallsA.ret ?_;refine Bb func33 rfl Ae6 ntmps33 rfl (fun ok => ?_);rw [DE] at hF;refine BG ?_;refine Cy (v := .agg (Ae p0)) (cs := Ae p0) rfl rfl rfl rfl ?_;refine IL ?_;refine BG ?_;refine AW rfl (Bj (vs := Ae p0) Bq AJ (by rw [Ac]; rfl) (by rw [Ac]; rfl)) ?_;refine cl (CallsA.ghost (ds := [.agg (Ae p0), .snil]) 1 6 Aah ok rfl fun r3 hr3 ok => Mx (p0 := p0) (p1 := []) (rp1 := r3) h [] hr3 ok hF fun x1 r2 _ hr2 ok hF => ?_);refine XL ?_;refine DH 3 (v := .sl 6 (List.map Ae x1) 0) (.zero _ _ _) ?_;refine ID ?_;refine KO ?_;refine BG ?_;refine By rfl Cj AF (by rw [Ac]; rfl) ?_;refine AW rfl (Bc CW AF (congrArg (List.drop 0) (Ac p0))) ?_;refine Ty ?_;refine Do ?_;refine BW 3 16 hF (fun J5 hb4 hF => ?_) (fun J5 hb4 hF => ?_) (fun v6 hF => ?_)
 ·refine Qm ?_;exact tw
 ·refine U4 ?_;refine cl (AC (f1 := 69) (fi1 := []) (ca1 := []) (fun z0 G h hF => Pe z0 h hF) _ hF fun x7 _ hF => ?_);refine Iy ?_;exact tw
 ·refine F1 ?_;refine Bp rfl hF (fun hb8 hF => ?_) fun hb8 hF => ?_
  ·refine LO ?_;exact rt
  ·refine BG ?_;refine AW rfl (Bj (vs := Ae p0) Bq AJ (by rw [Ac]; rfl) (by rw [Ac]; rfl)) ?_;refine cl (Bz (fun _ h hF => NC _ _ h hF) _ hF fun x9 _ hF => ?_);refine F1 ?_;refine Bp rfl hF (fun hb10 hF => ?_) fun hb10 hF => ?_
   ·refine LO ?_;exact rt
   ·refine I0 ?_;refine Aee ?_;refine PL ?_;refine Zz ?_;refine BW 3 28 hF (fun J12 hb11 hF => ?_) (fun J12 hb11 hF => ?_) (fun v13 hF => ?_)
    ·refine Qm ?_;exact tw
    ·refine U4 ?_;refine cl (AC (f1 := 71) (fi1 := []) (ca1 := []) (fun z0 G h hF => Mt z0 h hF) _ hF fun x14 _ hF => ?_);refine Iy ?_;exact tw
    ·refine F1 ?_;refine Bp rfl hF (fun hb15 hF => ?_) fun hb15 hF => ?_
     ·refine LO ?_;exact rt
     ·refine I0 ?_;refine cl (AC (f1 := 72) (fi1 := []) (ca1 := []) (fun z0 G h hF => Ki z0 h hF) _ hF fun x16 _ hF => ?_);refine F1 ?_;refine Bp rfl hF (fun hb17 hF => ?_) fun hb17 hF => ?_
      ·refine LO ?_;exact rt
      ·refine I0 ?_;refine cl (AC (f1 := 73) (fi1 := []) (ca1 := []) (fun z0 G h hF => LF z0 h hF) _ hF fun x18 _ hF => ?_);refine F1 ?_;refine Bp rfl hF (fun hb19 hF => ?_) fun hb19 hF => ?_
       ·refine LO ?_;exact rt
       ·refine I0 ?_;refine cl (AC (f1 := 74) (fi1 := []) (ca1 := []) (fun z0 G h hF => JO z0 h hF) _ hF fun x20 _ hF => ?_);refine F1 ?_;refine Bp rfl hF (fun hb21 hF => ?_) fun hb21 hF => ?_
        ·refine LO ?_;exact rt
        ·refine I0 ?_;refine cl (AC (f1 := 75) (fi1 := []) (ca1 := []) (fun z0 G h hF => Jn z0 h hF) _ hF fun x22 _ hF => ?_);refine F1 ?_;refine Bp rfl hF (fun hb23 hF => ?_) fun hb23 hF => ?_
         ·refine LO ?_;exact rt
         ·refine DD ?_;refine PN ?_;refine AP hF (fun (a34 : Int) s' => Zs h [] 56 [(4, .int .i64 a34)] s') (fun J35 hF => ?_) ?_
          ·refine BG ?_;refine By rfl CY B2 (by rw [Ac]; rfl) ?_;refine AW rfl (Bc EH B2 (congrArg (List.drop 4) (Ac p0))) ?_;refine VH ?_;refine BN (σ := Int × Int) hF (fun (v : Int × Int) s' => match v with | (a36, a37) => Zs h [] 56 [(4, .int .i64 a36), (42, .sl 6 (List.map Ae p0.Kids) 0), (43, .int .i64 (p0.Kids.length : Int)), (44, .int .i64 a37)] s') ?_ ?_
           ·exact ⟨oy ok, wy ok⟩
           ·rintro G38 hG39 rec40 ⟨a36, a37⟩ s' ih41 hF ⟨ok, hws⟩;refine AM hws ?_;rw [Ei] at hF;refine IG ?_;refine Bp rfl hF (fun hb42 hF => ?_) fun hb42 hF => ?_
            ·refine DD ?_;refine AP hF (fun (a46 : Int) s' => Zs h [] 56 [(4, .int .i64 a46), (42, .sl 6 (List.map Ae p0.Kids) 0), (43, .int .i64 (p0.Kids.length : Int)), (44, .int .i64 a37)] s') (fun J47 hF => ?_) ?_
             ·refine QT ?_;refine CD (mdl [(6, 1)]) ?_;refine Gb rfl rfl En AJ hF (fun x48 _ hF => ?_);refine AW rfl (Bj (vs := Ae x48) Bq AJ (by rw [Ac]; rfl) (by rw [Ac]; rfl)) ?_;refine Cf ok rfl D4 ?_;intro i49 hi49 ok;refine Ga (j := 0) (cs' := [.int .i64 x48.Kind, .str x48.Name.URI, .str x48.Name.Local, .sl 3 (List.map Ar x48.Attrs) 0, .sl 6 (List.map Ae x48.Kids) 0, .str x48.Text]) ok rfl (congrArg D.agg (Ac x48)) rfl hi49 rfl AJ rfl rfl (fun ok => ?_);refine GH ?_;refine De rfl Cj AF ?_;refine O2 ?_;refine RF ?_;refine Bp rfl hF (fun hb50 hF => ?_) fun hb50 hF => ?_
              ·refine V0 ?_;exact ⟨(IntKind.wrap .i64 (a36 + 1)), hF, oy ok, wy ok⟩
              ·refine DD ?_;exact ⟨a36, hF, oy ok, wy ok⟩
             ·rintro a46 s' hF ⟨ok, hws⟩;refine AM hws ?_;refine Ml ?_;refine ih41 (a46, (IntKind.wrap .i64 (a37 + 1))) _ hF ?_;exact ⟨oy ok, wy ok⟩
            ·refine Fm ?_;replace hF := hG39 _ (As hF);exact ⟨a36, hF, oy ok, wy ok⟩
          ·rintro a34 s' hF ⟨ok, hws⟩;refine AM hws ?_;refine MN ?_;refine RS ?_;refine Bp rfl hF (fun hb51 hF => ?_) fun hb51 hF => ?_
           ·refine LO ?_;exact rt
           ·refine Zv ?_;exact rt
theorem MP (p0 : List Ah) (p1 : Ag) {G : (List Ak) -> Prop} (h : Heap) (hF : OptP (FU p0 p1) G) : CallsA prog 34 [.sl 7 (List.map Ai p0) 0, .agg (Ap p1)] h fun d h' => ∃ r, G r /\ d = .sl 4 (List.map Aq r) 0 /\ h' = h := by
 refine CallsA.ret ?_;refine Bb func34 rfl Af1 ntmps34 rfl (fun ok => ?_);rw [FU] at hF;refine BG ?_;refine Cy rfl rfl rfl rfl ?_;refine S_a (v := .snil) rfl ?_;refine DH 4 (v := .sl 4 (List.map Aq []) 0) (.nil _) ?_;refine GH ?_;refine S_a (v := .snil) rfl ?_;refine I1 5 4 ok rfl rfl ?_;intro r1 hr1 ok;refine A8 ?_;refine AP hF (fun (a60 : (List Ak)) s' => ∃ g61 : Nat, g61 ≠ 0 /\ Zs h [(g61, .room)] 46 [(5, .sl 4 (List.map Aq a60) g61)] s') (fun J62 hF => ?_) ?_
 ·refine Ad9 ?_;refine KM ?_;refine BN (σ := (List Ak) × Int) hF (fun (v : (List Ak) × Int) s' => match v with | (a63, a65) => ∃ g64 : Nat, g64 ≠ 0 /\ Zs h [(g64, .room)] 46 [(3, .iptr (Ap p1)), (5, .sl 4 (List.map Aq a63) g64), (10, .sl 7 (List.map Ai p0) 0), (11, .int .i64 (p0.length : Int)), (12, .int .i64 a65)] s') ?_ ?_
  ·exact ⟨r1, hr1, oy ok, wy ok⟩
  ·rintro G66 hG67 rec68 ⟨a63, a65⟩ s' ih69 hF ⟨g64, hg64, ok, hws⟩;refine AM hws ?_;rw [Ee] at hF;refine IG ?_;refine Bp rfl hF (fun hb70 hF => ?_) fun hb70 hF => ?_
   ·refine DD ?_;refine AP hF (fun (a97 : (List Ak)) s' => ∃ g98 : Nat, g98 ≠ 0 /\ Zs h [(g98, .room)] 46 [(3, .iptr (Ap p1)), (5, .sl 4 (List.map Aq a97) g98), (10, .sl 7 (List.map Ai p0) 0), (11, .int .i64 (p0.length : Int)), (12, .int .i64 a65)] s') (fun J99 hF => ?_) ?_
    ·refine QT ?_;refine CD (mdl [(7, 1)]) ?_;refine Gb rfl rfl CT Bw hF (fun x100 _ hF => ?_);refine AW rfl (Bj (vs := Ai x100) Em Bw rfl rfl) ?_;refine Cf ok rfl F5 ?_;intro i101 hi101 ok;refine Ga (j := 0) (cs' := [.sl 1 (List.map BF x100.path) 0, .int .i64 x100.node.Kind, .str x100.node.Name.URI, .str x100.node.Name.Local, .sl 3 (List.map Ar x100.node.Attrs) 0, .sl 6 (List.map Ae x100.node.Kids) 0, .str x100.node.Text]) ok rfl rfl rfl hi101 rfl Bw rfl rfl (fun ok => ?_);refine GH ?_;refine Kp 0 7 ok rfl rfl hi101 (fun ok => ?_);refine Ad5 ?_;refine By rfl C0 BU rfl ?_;refine AW rfl (Bc Fb BU rfl) ?_;refine DP rfl FE ?_;refine KM ?_;refine BN (σ := (List Ak) × Int) hF (fun (v : (List Ak) × Int) s' => match v with | (a104, a106) => ∃ g105 : Nat, g105 ≠ 0 /\ Zs h [(g105, .room)] 46 [(3, .iptr (Ap p1)), (5, .sl 4 (List.map Aq a104) g105), (7, .iptr (Ai x100)), (10, .sl 7 (List.map Ai p0) 0), (11, .int .i64 (p0.length : Int)), (12, .int .i64 a65), (18, .sl 3 (List.map Ar x100.node.Attrs) 0), (19, .int .i64 (x100.node.Attrs.length : Int)), (20, .int .i64 a106)] s') ?_ ?_
     ·exact ⟨g64, hg64, oy ok, wy ok⟩
     ·rintro G107 hG108 rec109 ⟨a104, a106⟩ s' ih110 hF ⟨g105, hg105, ok, hws⟩;refine AM hws ?_;rw [DC] at hF;refine IG ?_;refine Bp rfl hF (fun hb111 hF => ?_) fun hb111 hF => ?_
      ·refine DD ?_;refine AP hF (fun (a120 : (List Ak)) s' => ∃ g121 : Nat, g121 ≠ 0 /\ Zs h [(g121, .room)] 46 [(3, .iptr (Ap p1)), (5, .sl 4 (List.map Aq a120) g121), (7, .iptr (Ai x100)), (10, .sl 7 (List.map Ai p0) 0), (11, .int .i64 (p0.length : Int)), (12, .int .i64 a65), (18, .sl 3 (List.map Ar x100.node.Attrs) 0), (19, .int .i64 (x100.node.Attrs.length : Int)), (20, .int .i64 a106)] s') (fun J122 hF => ?_) ?_
       ·refine QT ?_;refine CD (mdl [(9, 1)]) ?_;refine Gb rfl rfl FE GN hF (fun x123 _ hF => ?_);refine AW rfl (Bj (vs := Ar x123) Rw GN rfl rfl) ?_;refine Cf ok rfl NI ?_;intro i124 hi124 ok;refine Ga (j := 0) (cs' := [.str x123.Name.URI, .str x123.Name.Local, .str x123.Value]) ok rfl rfl rfl hi124 rfl GN rfl rfl (fun ok => ?_);refine GH ?_;refine By rfl G4 AL rfl ?_;refine P3 ?_;refine NX ?_;refine Do ?_;refine B9 (b := (p1.test == [42])) 6 33 (.bool ((p1.test == [42]) || ((x123.Name.URI == p1.name.URI) && ((x123.Name.Local == p1.name.Local) && true)))) (fun hb125 => ?_) (fun hb125 => ?_) ?_
        ·refine JR ?_;refine YH ?_;exact th
        ·refine Ek ?_;refine De rfl Nr AG ?_;refine Bs ?_;refine Cv (j := 0) ok rfl rfl rfl hi124 (Bj (vs := Au x123.Name) BM AG rfl rfl) ?_;refine Bs ?_;refine By rfl Hj AG rfl ?_;refine Bs ?_;refine AW rfl (Bj (vs := Au p1.name) BM AG rfl rfl) ?_;refine Bs ?_;refine Dc rfl rfl (Tl (b := ((x123.Name.URI == p1.name.URI) && ((x123.Name.Local == p1.name.Local) && true))) D5 D3 (by simp only [Au, EJ, Fy, Jh, D3, D5, B0, AL, Bo, B0, AL, Bo, Gs, Gh, Ft, Gm, Fw, FC, EK, List.drop_zero, List.drop_succ_cons, bi, bj, List.take_succ_cons, List.take_zero, Option.isSome_some, if_true, ba, Option.map_some, Nat.reduceAdd, Nat.reduceLeDiff])) ?_;refine Iy ?_;exact th
        refine A8 ?_;refine Bp rfl hF (fun hb126 hF => ?_) fun hb126 hF => ?_
        ·refine Ady ?_;show AS prog (mdl []) true #[] [] _ _;refine Kp 0 9 ok rfl rfl hi124 (fun ok => ?_);refine A8 ?_;refine O8 (mdl [(42, 2), (36, 3), (39, 3)]) [0, 1, 2, 4, 5, 3, 6, 7, 8, 9] [_, _, _, _, _, _, _, _, _, _] (by kernel_rfl) rfl rfl (by kernel_rfl) ?_;refine Ox ?_;refine Xa ?_;refine XZ ?_;refine Zq ?_;refine AW rfl (Bj (vs := Au x123.Name) BM AG rfl rfl) ?_;refine cl (L_CloneInts_ok _ hF fun x129 _ hF => ?_);refine Dj (v := .agg (Aq (⟨x129, true, x123.Name⟩ : Ak))) (GF K6 Q5 rfl) ?_;refine CF (cs := [.sl 1 (List.map BF (⟨x129, true, x123.Name⟩ : Ak).Steps) 0, .bool (⟨x129, true, x123.Name⟩ : Ak).Attr, .str (⟨x129, true, x123.Name⟩ : Ak).Name.URI, .str (⟨x129, true, x123.Name⟩ : Ak).Name.Local]) (es := (List.map Aq [(⟨x129, true, x123.Name⟩ : Ak)])) rfl KX rfl (by kernel_rfl) (by kernel_rfl) ?_;refine FW (j := 1) ok rfl rfl rfl rfl hg105 KX Q7 hF ?_;intro r130 hr130 ok hF;refine Q1 ?_;exact ⟨(a104 ++ [(⟨x129, true, x123.Name⟩ : Ak)]), hF, r130, hr130, oy ok, wy ok⟩
        ·refine DD ?_;exact ⟨a104, hF, g105, hg105, oy ok, wy ok⟩
       ·rintro a120 s' hF ⟨g121, hg121, ok, hws⟩;refine AM hws ?_;refine Ml ?_;refine ih110 (a120, (IntKind.wrap .i64 (a106 + 1))) _ hF ?_;exact ⟨g121, hg121, oy ok, wy ok⟩
      ·refine Fm ?_;replace hF := hG108 _ (As hF);exact ⟨a104, hF, g105, hg105, oy ok, wy ok⟩
    ·rintro a97 s' hF ⟨g98, hg98, ok, hws⟩;refine AM hws ?_;refine Ml ?_;refine ih69 (a97, (IntKind.wrap .i64 (a65 + 1))) _ hF ?_;exact ⟨g98, hg98, oy ok, wy ok⟩
   ·refine Fm ?_;replace hF := hG67 _ (As hF);exact ⟨a63, hF, g64, hg64, oy ok, wy ok⟩
 ·rintro a60 s' hF ⟨g61, hg61, ok, hws⟩;refine AM hws ?_;refine I0 ?_;refine DH 45 (v := .sl 4 (List.map Aq a60) 0) (.zero _ _ _) ?_;refine Zk ?_;exact rt
theorem Hk (p0 : List Int) (p1 : List Int) {G : Bool -> Prop} (h : Heap) (hF : OptP (Cs p0 p1) G) : CallsA prog 77 [.sl 1 (List.map BF p0) 0, .sl 1 (List.map BF p1) 0] h fun d h' => ∃ r, G r /\ d = .bool r /\ h' = h := by
 refine CallsA.ret ?_;refine Bb func77 rfl Agc ntmps77 rfl (fun ok => ?_);rw [Cs] at hF;refine Ku ?_;refine Gy ?_;refine XO ?_;refine Ox ?_;refine U7 ?_;refine RS ?_;refine Bp rfl hF (fun hb1 hF => ?_) fun hb1 hF => ?_
 ·refine KN ?_;exact rt
 ·refine DD ?_;refine AP hF (fun (_ : Unit) s' => Zs h [] 26 [] s') (fun J7 hF => ?_) ?_
  ·refine XO ?_;refine KM ?_;refine BN (σ := Int) hF (fun (a8 : Int) s' => Zs h [] 26 [(0, .sl 1 (List.map BF p0) 0), (1, .sl 1 (List.map BF p1) 0), (12, .int .i64 (p0.length : Int)), (13, .int .i64 a8)] s') ?_ ?_
   ·exact ⟨oy ok, wy ok⟩
   ·rintro G9 hG10 rec11 a8 s' ih12 hF ⟨ok, hws⟩;refine AM hws ?_;rw [BJ] at hF;refine IG ?_;refine Bp rfl hF (fun hb13 hF => ?_) fun hb13 hF => ?_
    ·refine XG ?_;refine Gy ?_;refine HJ (mdl [(19, 3), (23, 3)]) (by kernel_rfl) (by kernel_rfl) ?_;refine Xo ?_;refine Gb rfl rfl Ep AF hF (fun x14 _ hF => ?_);refine Ve ?_;refine Xo ?_;refine Gb rfl rfl Ep AF hF (fun x15 _ hF => ?_);refine Ve ?_;refine RS ?_;refine Bp rfl hF (fun hb16 hF => ?_) fun hb16 hF => ?_
     ·refine KN ?_;replace hF := hG10 _ (As hF);exact rt
     ·refine Th ?_;refine ih12 (IntKind.wrap .i64 (a8 + 1)) _ hF ?_;exact ⟨oy ok, wy ok⟩
    ·refine Fm ?_;replace hF := hG10 _ (As hF);exact ⟨(), hF, oy ok, wy ok⟩
  ·rintro ⟨⟩ s' hF ⟨ok, hws⟩;refine AM hws ?_;refine KN ?_;exact rt
theorem MJ (p0 : List Ah) {G : (List Ah) -> Prop} (h : Heap) (hF : OptP (FT p0) G) : CallsA prog 35 [.sl 7 (List.map Ai p0) 0] h fun d h' => ∃ r, G r /\ d = .sl 7 (List.map Ai r) 0 /\ h' = h := by
 refine CallsA.ret ?_;refine Bb func35 rfl Agl ntmps35 rfl (fun ok => ?_);rw [FT] at hF;refine BG ?_;refine S_a (v := .snil) rfl ?_;refine DH 2 (v := .sl 7 (List.map Ai []) 0) (.nil _) ?_;refine GH ?_;refine S_a (v := .snil) rfl ?_;refine I1 3 7 ok rfl rfl ?_;intro r1 hr1 ok;refine A8 ?_;refine AP hF (fun (a62 : (List Ah)) s' => ∃ g63 : Nat, g63 ≠ 0 /\ Zs h [(g63, .room)] 56 [(3, .sl 7 (List.map Ai a62) g63)] s') (fun J64 hF => ?_) ?_
 ·refine Ad9 ?_;refine KM ?_;refine BN (σ := (List Ah) × Int) hF (fun (v : (List Ah) × Int) s' => match v with | (a65, a67) => ∃ g66 : Nat, g66 ≠ 0 /\ Zs h [(g66, .room)] 56 [(3, .sl 7 (List.map Ai a65) g66), (7, .sl 7 (List.map Ai p0) 0), (8, .int .i64 (p0.length : Int)), (9, .int .i64 a67)] s') ?_ ?_
  ·exact ⟨r1, hr1, oy ok, wy ok⟩
  ·rintro G68 hG69 rec70 ⟨a65, a67⟩ s' ih71 hF ⟨g66, hg66, ok, hws⟩;refine AM hws ?_;rw [Ed] at hF;refine IG ?_;refine Bp rfl hF (fun hb72 hF => ?_) fun hb72 hF => ?_
   ·refine DD ?_;refine AP hF (fun (a100 : (List Ah)) s' => ∃ g101 : Nat, g101 ≠ 0 /\ Zs h [(g101, .room)] 56 [(3, .sl 7 (List.map Ai a100) g101), (7, .sl 7 (List.map Ai p0) 0), (8, .int .i64 (p0.length : Int)), (9, .int .i64 a67)] s') (fun J102 hF => ?_) ?_
    ·refine QT ?_;refine CD (mdl [(5, 1)]) ?_;refine Gb rfl rfl CT Bw hF (fun x103 _ hF => ?_);refine AW rfl (Bj (vs := Ai x103) Em Bw rfl rfl) ?_;refine Cf ok rfl F5 ?_;intro i104 hi104 ok;refine Ga (j := 0) (cs' := [.sl 1 (List.map BF x103.path) 0, .int .i64 x103.node.Kind, .str x103.node.Name.URI, .str x103.node.Name.Local, .sl 3 (List.map Ar x103.node.Attrs) 0, .sl 6 (List.map Ae x103.node.Kids) 0, .str x103.node.Text]) ok rfl rfl rfl hi104 rfl Bw rfl rfl (fun ok => ?_);refine GH ?_;refine Ox ?_;refine DH 13 (v := .sl 7 (List.map Ai a65) 0) (.zero _ _ _) ?_;refine DP rfl CT ?_;refine IL ?_;refine AP hF (fun (a116 : Bool) s' => Zs h [(g66, .room)] 56 [(3, .sl 7 (List.map Ai a65) g66), (5, .iptr (Ai x103)), (7, .sl 7 (List.map Ai p0) 0), (8, .int .i64 (p0.length : Int)), (9, .int .i64 a67), (49, .bool a116)] s') (fun J117 hF => ?_) ?_
     ·refine Ady ?_;show AS prog (mdl []) true #[] [] _ _;refine Kp 0 5 ok rfl rfl hi104 (fun ok => ?_);refine A8 ?_;refine HJ (mdl [(19, 3), (26, 3), (36, 3), (38, 3), (44, 3)]) (by kernel_rfl) (by kernel_rfl) ?_;refine Fj ?_;refine Wh ?_;refine SQ (b := ((a65.length : Int) == 0)) hF (fun hb120 hF => ?_) (fun hb121 hF => ?_)
      ·refine SX ?_;refine SS ?_;refine W9 ?_;refine Do ?_;refine Uy ?_;refine Uy ?_;refine Uy ?_;refine Uy ?_;refine XD ?_;refine Qf (v := .bool _) rfl rfl rfl ?_;refine A8 ?_;exact ⟨true, hF, oy ok, wy ok⟩
      ·refine Ek ?_;refine Xa ?_;refine ZG ?_;refine U7 ?_;refine Bs ?_;refine Abv ?_;refine Rg ?_;refine XQ ?_;refine Gb rfl rfl CT Bw hF (fun x122 _ hF => ?_);refine Bs ?_;refine Xa ?_;refine ZG ?_;refine U7 ?_;refine Bs ?_;refine R1 ?_;refine Xy ?_;refine Do ?_;refine SQ (b := (decide ((x103.path.length : Int) < (x122.path.length : Int)))) hF (fun hb123 hF => ?_) (fun hb124 hF => ?_)
       ·refine SX ?_;refine SX ?_;refine Qm ?_;exact ⟨true, hF, oy ok, wy ok⟩
       ·refine U4 ?_;refine Rg ?_;refine XQ ?_;refine Gb rfl rfl CT Bw hF (fun x125 _ hF => ?_);refine Bs ?_;refine Xa ?_;refine ZG ?_;refine Xa ?_;refine ZG ?_;refine Abv ?_;refine Rg ?_;refine XQ ?_;refine Gb rfl rfl CT Bw hF (fun x126 _ hF => ?_);refine Bs ?_;refine Xa ?_;refine ZG ?_;refine U7 ?_;refine Bs ?_;refine Aaz rfl Ep AF OO (FZ rfl) hF (fun x127 _ hF => ?_);refine Bs ?_;refine cl (Bz (fun _ h hF => Hk _ _ h hF) _ hF fun x128 _ hF => ?_);refine Zn ?_;exact ⟨(!x128), hF, oy ok, wy ok⟩
     ·rintro a116 s' hF ⟨ok, hws⟩;refine AM hws ?_;refine Bp rfl hF (fun hb129 hF => ?_) fun hb129 hF => ?_
      ·refine CD (mdl [(53, 2)]) ?_;refine Ox ?_;refine AW rfl (Bj (vs := Ai x103) Em Bw rfl rfl) ?_;refine CF (cs := [.sl 1 (List.map BF x103.path) 0, .int .i64 x103.node.Kind, .str x103.node.Name.URI, .str x103.node.Name.Local, .sl 3 (List.map Ar x103.node.Attrs) 0, .sl 6 (List.map Ae x103.node.Kids) 0, .str x103.node.Text]) (es := (List.map Ai [x103])) rfl GE rfl (by kernel_rfl) (by kernel_rfl) ?_;refine FW (j := 0) ok rfl rfl rfl rfl hg66 GE Jk hF ?_;intro r130 hr130 ok hF;refine Q1 ?_;exact ⟨(a65 ++ [x103]), hF, r130, hr130, oy ok, wy ok⟩
      ·refine DD ?_;exact ⟨a65, hF, g66, hg66, oy ok, wy ok⟩
    ·rintro a100 s' hF ⟨g101, hg101, ok, hws⟩;refine AM hws ?_;refine Ml ?_;refine ih71 (a100, (IntKind.wrap .i64 (a67 + 1))) _ hF ?_;exact ⟨g101, hg101, oy ok, wy ok⟩
   ·refine Fm ?_;replace hF := hG69 _ (As hF);exact ⟨a65, hF, g66, hg66, oy ok, wy ok⟩
 ·rintro a62 s' hF ⟨g63, hg63, ok, hws⟩;refine AM hws ?_;refine I0 ?_;refine DH 55 (v := .sl 7 (List.map Ai a62) 0) (.zero _ _ _) ?_;refine Zk ?_;exact rt
theorem Jd : ∀ (N : Nat) (v : Ag × Ah) (G : (List Ah) -> Prop) (h : Heap), OptP (iter BO N v) G -> CallsA prog 36 [.agg (Ap v.1), .agg (Ai v.2)] h fun d h' => ∃ r, G r /\ d = .sl 7 (List.map Ai r) 0 /\ h' = h := by
 intro N
 induction N with
 | zero => intro v G h hF; exact Kx hF
 | succ N ih0 =>
 rintro ⟨p0, p1⟩ G h hF;show CallsA prog 36 [.agg (Ap p0), .agg (Ai p1)] h fun d h' => ∃ r, G r /\ d = .sl 7 (List.map Ai r) 0 /\ h' = h;replace hF : OptP (BO (iter BO N) (p0, p1)) G := hF;refine CallsA.ret ?_;refine Bb func36 rfl Afx ntmps36 rfl (fun ok => ?_);rw [BO] at hF;refine BG ?_;refine Cy rfl rfl rfl rfl ?_;refine Cy rfl rfl rfl rfl ?_;refine S_a (v := .snil) rfl ?_;refine DH 4 (v := .sl 7 (List.map Ai []) 0) (.nil _) ?_;refine GH ?_;refine AW rfl (Bj (vs := Ap p0) Fi Ds rfl rfl) ?_;refine AW rfl (Bj (vs := Ai p1) Em Bw rfl rfl) ?_;refine cl (OfR_ok h [] ok hF fun x1 r2 hr2 ok hF => ?_);refine Q1 ?_;refine AP hF (fun (a17 : (List Ah)) s' => ∃ g18 : Nat, g18 ≠ 0 /\ Zs h [(g18, .room)] 34 [(5, .sl 7 (List.map Ai a17) g18)] s') (fun J19 hF => ?_) ?_
 ·refine BG ?_;refine Ad5 ?_;refine By rfl CY B2 rfl ?_;refine AW rfl (Bc EH B2 rfl) ?_;refine VH ?_;refine BN (σ := (List Ah) × Int) hF (fun (v : (List Ah) × Int) s' => match v with | (a20, a22) => ∃ g21 : Nat, g21 ≠ 0 /\ Zs h [(g21, .room)] 34 [(2, .iptr (Ap p0)), (3, .iptr (Ai p1)), (5, .sl 7 (List.map Ai a20) g21), (13, .sl 6 (List.map Ae p1.node.Kids) 0), (14, .int .i64 (p1.node.Kids.length : Int)), (15, .int .i64 a22)] s') ?_ ?_
  ·exact ⟨r2, hr2, oy ok, wy ok⟩
  ·rintro G23 hG24 rec25 ⟨a20, a22⟩ s' ih26 hF ⟨g21, hg21, ok, hws⟩;refine AM hws ?_;rw [CR] at hF;refine IG ?_;refine Bp rfl hF (fun hb27 hF => ?_) fun hb27 hF => ?_
   ·refine Vl ?_;refine CD (mdl [(7, 1)]) ?_;refine Fj ?_;refine Gb rfl rfl En AJ hF (fun x28 _ hF => ?_);refine AW rfl (Bj (vs := Ae x28) Bq AJ (by rw [Ac]; rfl) (by rw [Ac]; rfl)) ?_;refine Cf ok rfl D4 ?_;intro i29 hi29 ok;refine Kr ?_;refine Ga (j := 0) (cs' := [.int .i64 x28.Kind, .str x28.Name.URI, .str x28.Name.Local, .sl 3 (List.map Ar x28.Attrs) 0, .sl 6 (List.map Ae x28.Kids) 0, .str x28.Text]) ok rfl (congrArg D.agg (Ac x28)) rfl hi29 rfl AJ rfl rfl (fun ok => ?_);refine A8 ?_;refine Ady ?_;show AS prog (mdl []) true #[] [] _ _;refine Kp 0 7 ok rfl rfl hi29 (fun ok => ?_);refine A8 ?_;refine O8 (mdl [(31, 2), (21, 3), (23, 3), (28, 3)]) [0, 1, 2, 3, 5, 6, 8, 4, 7, 9, 10, 11, 12] [_, _, _, _, _, _, _, _, _, _, _, _, _] (by kernel_rfl) rfl rfl (by kernel_rfl) ?_;refine Ox ?_;refine AW rfl (Bj (vs := Ap p0) Fi Ds rfl rfl) ?_;refine Xa ?_;refine XZ ?_;refine Fj ?_;refine CF (cs := [.int .i64 a22]) (es := (List.map BF [a22])) rfl Et rfl (by kernel_rfl) (by kernel_rfl) ?_;refine AW rfl (Bj (vs := Ae x28) Bq AJ rfl (by rw [Ac]; rfl)) ?_;refine QR (CloneR_ok h [(0, .room), (g21, .room)] ok hF fun x32 r33 hr33 ok hF => ?_) (.cons (.refl _) .nil);refine WG (j := 0) ok rfl rfl rfl rfl hr33 Et Ju hF (fun ok hF => ?_);refine Dj (v := .agg (Ai (⟨(x32 ++ [a22]), x28⟩ : Ah))) (GF F5 Oo (by rw [Ac x28]; rfl)) ?_;refine cl (Bz (enc := fun r => .sl 7 (List.map Ai r) 0) (fun G h hF => ih0 (p0, (⟨(x32 ++ [a22]), x28⟩ : Ah)) G h hF) _ hF fun x36 _ hF => ?_);refine FW (j := 2) ok rfl rfl rfl rfl hg21 GE Jk hF ?_;intro r37 hr37 ok hF;refine Q1 ?_;refine Ml ?_;refine ih26 ((a20 ++ x36), (IntKind.wrap .i64 (a22 + 1))) _ hF ?_;exact ⟨r37, hr37, oy ok, wy ok⟩
   ·refine Fm ?_;replace hF := hG24 _ (As hF);exact ⟨a20, hF, g21, hg21, oy ok, wy ok⟩
 ·rintro a17 s' hF ⟨g18, hg18, ok, hws⟩;refine AM hws ?_;refine I0 ?_;refine DH 33 (v := .sl 7 (List.map Ai a17) 0) (.zero _ _ _) ?_;refine Zk ?_;exact rt
theorem Ji (p0 : Ag) (p1 : Ah) {G : (List Ah) -> Prop} (h : Heap) (hF : OptP (Fz p0 p1) G) : CallsA prog 36 [.agg (Ap p0), .agg (Ai p1)] h fun d h' => ∃ r, G r /\ d = .sl 7 (List.map Ai r) 0 /\ h' = h := Jd FUEL (p0, p1) G h hF
theorem Hb (p0 : Int) {G : Bool -> Prop} (h : Heap) (hF : OptP (Ej p0) G) : CallsA prog 95 [.int .i64 p0] h fun d h' => ∃ r, G r /\ d = .bool r /\ h' = h := by
 refine CallsA.ret ?_;refine Bb func95 rfl Afh ntmps95 rfl (fun ok => ?_);rw [Ej] at hF;refine Ku ?_;refine Ot ?_;refine Ty ?_;refine GB ?_;exact rt
theorem Gk (p0 : Int) (p1 : Int) {G : Int -> Prop} (h : Heap) (hF : OptP (Cu p0 p1) G) : CallsA prog 57 [.int .i64 p0, .int .i64 p1] h fun d h' => ∃ r, G r /\ d = .int .i64 r /\ h' = h := by
 refine CallsA.ret ?_;refine Bb func57 rfl Aei ntmps57 rfl (fun ok => ?_);rw [Cu] at hF;refine PN ?_;refine HQ ?_;refine cl (Bz (fun _ h hF => Hb _ h hF) _ hF fun x1 _ hF => ?_);refine F1 ?_;refine HQ ?_;refine cl (Bz (fun _ h hF => Hb _ h hF) _ hF fun x2 _ hF => ?_);refine ZF ?_;refine XB ?_;refine Bp rfl hF (fun hb3 hF => ?_) fun hb3 hF => ?_
 ·refine Xf ?_;refine XB ?_;refine Bp rfl hF (fun hb4 hF => ?_) fun hb4 hF => ?_
  ·refine LO ?_;exact rt
  ·refine Zv ?_;exact rt
 ·refine Ou ?_;refine BG ?_;refine XB ?_;refine Bp rfl hF (fun hb5 hF => ?_) fun hb5 hF => ?_
  ·refine LO ?_;exact rt
  ·refine Ou ?_;refine Ot ?_;refine R1 ?_;refine Bp rfl hF (fun hb6 hF => ?_) fun hb6 hF => ?_
   ·refine LO ?_;exact rt
   ·refine Ou ?_;refine Ot ?_;refine Xn ?_;refine A8 ?_;refine Bp rfl hF (fun hb7 hF => ?_) fun hb7 hF => ?_
    ·refine LO ?_;exact rt
    ·refine Zv ?_;exact rt
theorem E5 (p0 : Ab) (p1 : List By8) {G : (List Ak) × Int × Int -> Prop} (h : Heap) (hF : OptP (B4 p0 p1) G) : CallsA prog 13 [.agg (Ae p0), .str p1] h fun d h' => ∃ r, G r /\ d = .tup [.sl 4 (List.map Aq r.1) 0, .int .i64 r.2.1, .int .i64 r.2.2] /\ h' = h := by
 refine CallsA.ret ?_;refine Bb func13 rfl Agh ntmps13 rfl (fun ok => ?_);rw [B4] at hF;refine BG ?_;refine Cy (v := .agg (Ae p0)) (cs := Ae p0) rfl rfl rfl rfl ?_;refine S_a (v := .snil) rfl ?_;refine DH 4 (v := .sl 4 (List.map Aq []) 0) (.nil _) ?_;refine Mz ?_;refine KW ?_;refine cl (IX _ hF fun x1 _ hF => ?_);refine WK ?_;refine WY ?_;refine RS ?_;refine Bp rfl hF (fun hb2 hF => ?_) fun hb2 hF => ?_
 ·refine Ot ?_;refine S_a (v := .snil) rfl ?_;refine DH 4 (v := .sl 4 (List.map Aq []) 0) (.nil _) ?_;refine Mq ?_;exact rt
 ·refine Ou ?_;refine BG ?_;refine AW rfl (Bj (vs := Ae p0) Bq AJ (by rw [Ac]; rfl) (by rw [Ac]; rfl)) ?_;refine cl (Bz (fun _ h hF => My _ h hF) _ hF fun x3 _ hF => ?_);refine IL ?_;refine Ads ?_;refine Bp rfl hF (fun hb4 hF => ?_) fun hb4 hF => ?_
  ·refine HQ ?_;refine S_a (v := .snil) rfl ?_;refine DH 4 (v := .sl 4 (List.map Aq []) 0) (.nil _) ?_;refine Mq ?_;exact rt
  ·refine Vc ?_;refine AW rfl (Bj (vs := Ae p0) Bq AJ (by rw [Ac]; rfl) (by rw [Ac]; rfl)) ?_;refine Dj (v := .agg [.snil, .int .i64 p0.Kind, .str p0.Name.URI, .str p0.Name.Local, .sl 3 (List.map Ar p0.Attrs) 0, .sl 6 (List.map Ae p0.Kids) 0, .str p0.Text]) (GF F5 Oo (by rw [Ac p0]; rfl)) ?_;refine DH 36 (v := .agg (Ai (⟨[], p0⟩ : Ah))) (.aggC (.cons (.nil _) (.cons (.refl _) (.cons (.refl _) (.cons (.refl _) (.cons (.refl _) (.cons (.refl _) (.cons (.refl _) (.nil))))))))) ?_;refine CF (cs := [.sl 1 (List.map BF (⟨[], p0⟩ : Ah).path) 0, .int .i64 (⟨[], p0⟩ : Ah).node.Kind, .str (⟨[], p0⟩ : Ah).node.Name.URI, .str (⟨[], p0⟩ : Ah).node.Name.Local, .sl 3 (List.map Ar (⟨[], p0⟩ : Ah).node.Attrs) 0, .sl 6 (List.map Ae (⟨[], p0⟩ : Ah).node.Kids) 0, .str (⟨[], p0⟩ : Ah).node.Text]) (es := (List.map Ai [(⟨[], p0⟩ : Ah)])) rfl GE rfl (by kernel_rfl) (by kernel_rfl) ?_;refine Q1 ?_;refine AP hF (fun (a143 : (List Ah)) s' => Zs h [] 90 [(11, .sl 7 (List.map Ai a143) 0)] s') (fun J144 hF => ?_) ?_
   ·refine I0 ?_;refine DP rfl Hv ?_;refine KM ?_;refine BN (σ := (List Ah) × Int) hF (fun (v : (List Ah) × Int) s' => match v with | (a145, a146) => Zs h [] 90 [(11, .sl 7 (List.map Ai a145) 0), (38, .sl 6 (List.map Ap x1.1) 0), (39, .int .i64 (x1.1.length : Int)), (40, .int .i64 a146)] s') ?_ ?_
    ·exact ⟨oy ok, wy ok⟩
    ·rintro G147 hG148 rec149 ⟨a145, a146⟩ s' ih150 hF ⟨ok, hws⟩;refine AM hws ?_;rw [DV] at hF;refine IG ?_;refine Bp rfl hF (fun hb151 hF => ?_) fun hb151 hF => ?_
     ·refine DD ?_;refine AP hF (fun (a219 : (List Ah)) s' => Zs h [] 90 [(11, .sl 7 (List.map Ai a219) 0), (38, .sl 6 (List.map Ap x1.1) 0), (39, .int .i64 (x1.1.length : Int)), (40, .int .i64 a146)] s') (fun J220 hF => ?_) ?_
      ·refine QT ?_;refine CD (mdl [(13, 1)]) ?_;refine Gb rfl rfl Hv Ds hF (fun x221 _ hF => ?_);refine AW rfl (Bj (vs := Ap x221) Fi Ds rfl rfl) ?_;refine Cf ok rfl N7 ?_;intro i222 hi222 ok;refine Ga (j := 0) (cs' := [.bool x221.deep, .bool x221.attr, .str x221.test, .str x221.name.URI, .str x221.name.Local, .sl 6 (List.map Al x221.conds) 0]) ok rfl rfl rfl hi222 rfl Ds rfl rfl (fun ok => ?_);refine Zw ?_;refine De rfl JV DI ?_;refine Agq ?_;refine A8 ?_;refine Bp rfl hF (fun hb223 hF => ?_) fun hb223 hF => ?_
       ·refine I0 ?_;refine Cv (j := 0) ok rfl rfl rfl hi222 (Bj (vs := Ap x221) Fi Ds rfl rfl) ?_;refine cl (Bz (fun _ h hF => MP _ _ h hF) _ hF fun x224 _ hF => ?_);refine XL ?_;refine Mq ?_;replace hF := hG148 _ (As hF);exact rt
       ·refine Vc ?_;refine S_a (v := .snil) rfl ?_;refine PD Ai ok (fun ok => ?_);refine A8 ?_;refine AP hF (fun (a228 : (List Ah)) s' => Zs h [mo 0 Ai [], (i222, .cells [.bool x221.deep, .bool x221.attr, .str x221.test, .str x221.name.URI, .str x221.name.Local, .sl 6 (List.map Al x221.conds) 0])] 90 [(11, .sl 7 (List.map Ai a228) 0), (13, .ptr i222 0), (14, Dv 7 0 ([] : List Ah)), (38, .sl 6 (List.map Ap x1.1) 0), (39, .int .i64 (x1.1.length : Int)), (40, .int .i64 a146)] s') (fun J229 hF => ?_) ?_
        ·refine BG ?_;refine Ad2 ?_;refine Cv (j := 1) ok rfl rfl rfl (by assumption) (Bc (v := .bool _) N4 DI rfl) ?_;refine A8 ?_;refine Bp rfl hF (fun hb230 hF => ?_) fun hb230 hF => ?_
         ·refine Mr ?_;refine Ox ?_;refine cl (Bz (fun _ h hF => MJ _ h hF) _ hF fun x231 _ hF => ?_);refine Q1 ?_;exact ⟨x231, hF, oy ok, wy ok⟩
         ·refine DD ?_;exact ⟨a145, hF, oy ok, wy ok⟩
        ·rintro a228 s' hF ⟨ok, hws⟩;refine AM hws ?_;refine AP hF (fun (a259 : (List Ah)) s' => ∃ g258 : Nat, (g258 = 0 -> a259 = []) /\ Zs h [mo g258 Ai a259] 90 [(14, Dv 7 g258 a259), (38, .sl 6 (List.map Ap x1.1) 0), (39, .int .i64 (x1.1.length : Int)), (40, .int .i64 a146)] s') (fun J260 hF => ?_) ?_
         ·refine Ad9 ?_;refine KM ?_;refine BN (σ := (List Ah) × Int) hF (fun (v : (List Ah) × Int) s' => match v with | (a262, a263) => ∃ g261 : Nat, (g261 = 0 -> a262 = []) /\ Zs h [mo g261 Ai a262, (i222, .cells [.bool x221.deep, .bool x221.attr, .str x221.test, .str x221.name.URI, .str x221.name.Local, .sl 6 (List.map Al x221.conds) 0])] 90 [(13, .ptr i222 0), (14, Dv 7 g261 a262), (38, .sl 6 (List.map Ap x1.1) 0), (39, .int .i64 (x1.1.length : Int)), (40, .int .i64 a146), (53, .sl 7 (List.map Ai a228) 0), (54, .int .i64 (a228.length : Int)), (55, .int .i64 a263)] s') ?_ ?_
          ·exact ⟨0, (fun _ => rfl), oy ok, wy ok⟩
          ·rintro G264 hG265 rec266 ⟨a262, a263⟩ s' ih267 hF ⟨g261, zg261, ok, hws⟩;refine AM hws ?_;rw [DS] at hF;refine IG ?_;refine Bp rfl hF (fun hb268 hF => ?_) fun hb268 hF => ?_
           ·refine DD ?_;refine AP hF (fun (a280 : (List Ah)) s' => ∃ g279 : Nat, (g279 = 0 -> a280 = []) /\ Zs h [mo g279 Ai a280, (i222, .cells [.bool x221.deep, .bool x221.attr, .str x221.test, .str x221.name.URI, .str x221.name.Local, .sl 6 (List.map Al x221.conds) 0])] 90 [(13, .ptr i222 0), (14, Dv 7 g279 a280), (38, .sl 6 (List.map Ap x1.1) 0), (39, .int .i64 (x1.1.length : Int)), (40, .int .i64 a146), (53, .sl 7 (List.map Ai a228) 0), (54, .int .i64 (a228.length : Int)), (55, .int .i64 a263)] s') (fun J281 hF => ?_) ?_
            ·refine QT ?_;refine CD (mdl [(16, 1)]) ?_;refine Gb rfl rfl CT Bw hF (fun x282 _ hF => ?_);refine AW rfl (Bj (vs := Ai x282) Em Bw rfl rfl) ?_;refine Cf ok rfl F5 ?_;intro i283 hi283 ok;refine Ga (j := 0) (cs' := [.sl 1 (List.map BF x282.path) 0, .int .i64 x282.node.Kind, .str x282.node.Name.URI, .str x282.node.Name.Local, .sl 3 (List.map Ar x282.node.Attrs) 0, .sl 6 (List.map Ae x282.node.Kids) 0, .str x282.node.Text]) ok rfl rfl rfl hi283 rfl Bw rfl rfl (fun ok => ?_);refine GH ?_;refine Ad2 ?_;refine Ag4 ?_;refine A8 ?_;refine Bp rfl hF (fun hb284 hF => ?_) fun hb284 hF => ?_
             ·refine CD (mdl [(65, 1)]) ?_;refine Adn ?_;refine Cv (j := 2) ok rfl rfl rfl hi222 (Bj (vs := Ap x221) Fi Ds rfl rfl) ?_;refine Cv (j := 0) ok rfl rfl rfl hi283 (Bj (vs := Ai x282) Em Bw rfl rfl) ?_;refine cl (Bz (fun _ h hF => Ji _ _ h hF) _ hF fun x285 _ hF => ?_);refine Q9 (j := 1) (M := x285) ok zg261 rfl rfl TY (fun _ => rfl) rfl GE Jk hF ?_;intro u286 zu286 ok hF;obtain ⟨a287, ha287, hF⟩ := NY hF;rw [<- ha287] at ok zu286;rw [<- ha287];refine Adc ?_;refine A8 ?_;exact ⟨a287, hF, u286, zu286, oy ok, wy ok⟩
             ·refine CD (mdl [(70, 1)]) ?_;refine Adn ?_;refine Cv (j := 2) ok rfl rfl rfl hi222 (Bj (vs := Ap x221) Fi Ds rfl rfl) ?_;refine Cv (j := 0) ok rfl rfl rfl hi283 (Bj (vs := Ai x282) Em Bw rfl rfl) ?_;refine cl (OfR_ok h [(i283, .cells [.sl 1 (List.map BF x282.path) 0, .int .i64 x282.node.Kind, .str x282.node.Name.URI, .str x282.node.Name.Local, .sl 3 (List.map Ar x282.node.Attrs) 0, .sl 6 (List.map Ae x282.node.Kids) 0, .str x282.node.Text]), mo g261 Ai a262, (i222, .cells [.bool x221.deep, .bool x221.attr, .str x221.test, .str x221.name.URI, .str x221.name.Local, .sl 6 (List.map Al x221.conds) 0])] ok hF fun x288 r289 hr289 ok hF => ?_);refine Q9 (j := 2) (M := x288) ok zg261 rfl rfl TY (fun _ => rfl) rfl GE Jk hF ?_;intro u290 zu290 ok hF;obtain ⟨a291, ha291, hF⟩ := NY hF;rw [<- ha291] at ok zu290;rw [<- ha291];refine Adc ?_;refine A8 ?_;exact ⟨a291, hF, u290, zu290, oy ok, wy ok⟩
            ·rintro a280 s' hF ⟨g279, zg279, ok, hws⟩;refine AM hws ?_;refine Ml ?_;refine ih267 (a280, (IntKind.wrap .i64 (a263 + 1))) _ hF ?_;exact ⟨g279, zg279, oy ok, wy ok⟩
           ·refine Fm ?_;replace hF := hG265 _ (As hF);exact ⟨a262, hF, g261, zg261, oy ok, wy ok⟩
         ·rintro a259 s' hF ⟨g258, zg258, ok, hws⟩;refine AM hws ?_;refine BG ?_;refine Adn ?_;refine QR (Sort_ok h [] zg258 ok hF fun x292 zr293 hlx292 ok hF => ?_) (.cons (.refl _) (.cons (.refl _) .nil));have hms : Dv 7 g258 a259 = Dv 7 g258 x292 := Jr hlx292
          try rw [hms] at ok
          try rw [hms]
          clear hms;refine A8 ?_;refine Mr ?_;refine Adn ?_;refine Adc ?_;refine WV 0 11 ok zr293 rfl rfl (fun _ => rfl) (fun ok => ?_);refine A8 ?_;exact ⟨x292, hF, oy ok, wy ok⟩
      ·rintro a219 s' hF ⟨ok, hws⟩;refine AM hws ?_;refine Ml ?_;refine ih150 (a219, (IntKind.wrap .i64 (a146 + 1))) _ hF ?_;exact ⟨oy ok, wy ok⟩
     ·refine Fm ?_;replace hF := hG148 _ (As hF);exact ⟨a145, hF, oy ok, wy ok⟩
   ·rintro a143 s' hF ⟨ok, hws⟩;refine AM hws ?_;refine BG ?_;refine S_a (v := .snil) rfl ?_;refine I1 17 4 ok rfl rfl ?_;intro r295 hr295 ok;refine A8 ?_;refine AP hF (fun (a303 : (List Ak)) s' => ∃ g304 : Nat, g304 ≠ 0 /\ Zs h [(g304, .room)] 90 [(17, .sl 4 (List.map Aq a303) g304)] s') (fun J305 hF => ?_) ?_
    ·refine Ad9 ?_;refine KM ?_;refine BN (σ := (List Ak) × Int) hF (fun (v : (List Ak) × Int) s' => match v with | (a306, a308) => ∃ g307 : Nat, g307 ≠ 0 /\ Zs h [(g307, .room)] 90 [(17, .sl 4 (List.map Aq a306) g307), (76, .sl 7 (List.map Ai a143) 0), (77, .int .i64 (a143.length : Int)), (78, .int .i64 a308)] s') ?_ ?_
     ·exact ⟨r295, hr295, oy ok, wy ok⟩
     ·rintro G309 hG310 rec311 ⟨a306, a308⟩ s' ih312 hF ⟨g307, hg307, ok, hws⟩;refine AM hws ?_;rw [DR] at hF;refine IG ?_;refine Bp rfl hF (fun hb313 hF => ?_) fun hb313 hF => ?_
      ·refine Vl ?_;refine CD (mdl [(19, 1)]) ?_;refine Gb rfl rfl CT Bw hF (fun x314 _ hF => ?_);refine AW rfl (Bj (vs := Ai x314) Em Bw rfl rfl) ?_;refine Cf ok rfl F5 ?_;intro i315 hi315 ok;refine Ga (j := 0) (cs' := [.sl 1 (List.map BF x314.path) 0, .int .i64 x314.node.Kind, .str x314.node.Name.URI, .str x314.node.Name.Local, .sl 3 (List.map Ar x314.node.Attrs) 0, .sl 6 (List.map Ae x314.node.Kids) 0, .str x314.node.Text]) ok rfl rfl rfl hi315 rfl Bw rfl rfl (fun ok => ?_);refine A8 ?_;refine CD (mdl [(87, 2)]) ?_;refine Ox ?_;refine De rfl MU Hu ?_;refine Cv (j := 0) ok rfl rfl rfl (by assumption) (Bc (v := .sl _ _ _) Ro Hu rfl) ?_;refine Dj (v := .agg (Aq (⟨x314.path, false, (⟨[], []⟩ : Aa)⟩ : Ak))) (GF K6 Q5 rfl) ?_;refine CF (cs := [.sl 1 (List.map BF (⟨x314.path, false, (⟨[], []⟩ : Aa)⟩ : Ak).Steps) 0, .bool (⟨x314.path, false, (⟨[], []⟩ : Aa)⟩ : Ak).Attr, .str (⟨x314.path, false, (⟨[], []⟩ : Aa)⟩ : Ak).Name.URI, .str (⟨x314.path, false, (⟨[], []⟩ : Aa)⟩ : Ak).Name.Local]) (es := (List.map Aq [(⟨x314.path, false, (⟨[], []⟩ : Aa)⟩ : Ak)])) rfl KX rfl (by kernel_rfl) (by kernel_rfl) ?_;refine FW (j := 1) ok rfl rfl rfl rfl hg307 KX Q7 hF ?_;intro r316 hr316 ok hF;refine Q1 ?_;refine Ml ?_;refine ih312 ((a306 ++ [(⟨x314.path, false, (⟨[], []⟩ : Aa)⟩ : Ak)]), (IntKind.wrap .i64 (a308 + 1))) _ hF ?_;exact ⟨r316, hr316, oy ok, wy ok⟩
      ·refine Fm ?_;replace hF := hG310 _ (As hF);exact ⟨a306, hF, g307, hg307, oy ok, wy ok⟩
    ·rintro a303 s' hF ⟨g304, hg304, ok, hws⟩;refine AM hws ?_;refine I0 ?_;refine DH 89 (v := .sl 4 (List.map Aq a303) 0) (.zero _ _ _) ?_;refine XL ?_;refine Mq ?_;exact rt
theorem Mv (p0 : List By8) {G : Int × Int -> Prop} (h : Heap) (hF : OptP (Ie p0) G) : CallsA prog 31 [.str p0] h fun d h' => ∃ r, G r /\ d = .tup [.int .i64 r.1, .int .i64 r.2] /\ h' = h := by
 refine CallsA.ret ?_;refine Bb func31 rfl Age ntmps31 rfl (fun ok => ?_);rw [Ie] at hF;refine BG ?_;refine Mz ?_;refine KW ?_;refine cl (IX _ hF fun x1 _ hF => ?_);refine WK ?_;refine Mz ?_;refine Ot ?_;refine Mq ?_;exact rt
theorem GS (p0 : List Int) (p1 : List Int) {G : Bool -> Prop} (h : Heap) (hF : OptP (Ch p0 p1) G) : CallsA prog 21 [.sl 1 (List.map BF p0) 0, .sl 1 (List.map BF p1) 0] h fun d h' => ∃ r, G r /\ d = .bool r /\ h' = h := by
 refine CallsA.ret ?_;refine Bb func21 rfl Afr ntmps21 rfl (fun ok => ?_);rw [Ch] at hF;refine Ku ?_;refine Gy ?_;refine XO ?_;refine Ox ?_;refine U7 ?_;refine RS ?_;refine Bp rfl hF (fun hb1 hF => ?_) fun hb1 hF => ?_
 ·refine KN ?_;exact rt
 ·refine DD ?_;refine AP hF (fun (_ : Unit) s' => Zs h [] 26 [] s') (fun J7 hF => ?_) ?_
  ·refine XO ?_;refine KM ?_;refine BN (σ := Int) hF (fun (a8 : Int) s' => Zs h [] 26 [(0, .sl 1 (List.map BF p0) 0), (1, .sl 1 (List.map BF p1) 0), (12, .int .i64 (p0.length : Int)), (13, .int .i64 a8)] s') ?_ ?_
   ·exact ⟨oy ok, wy ok⟩
   ·rintro G9 hG10 rec11 a8 s' ih12 hF ⟨ok, hws⟩;refine AM hws ?_;rw [Ex] at hF;refine IG ?_;refine Bp rfl hF (fun hb13 hF => ?_) fun hb13 hF => ?_
    ·refine XG ?_;refine Gy ?_;refine HJ (mdl [(19, 3), (23, 3)]) (by kernel_rfl) (by kernel_rfl) ?_;refine Xo ?_;refine Gb rfl rfl Ep AF hF (fun x14 _ hF => ?_);refine Ve ?_;refine Xo ?_;refine Gb rfl rfl Ep AF hF (fun x15 _ hF => ?_);refine Ve ?_;refine RS ?_;refine Bp rfl hF (fun hb16 hF => ?_) fun hb16 hF => ?_
     ·refine KN ?_;replace hF := hG10 _ (As hF);exact rt
     ·refine Th ?_;refine ih12 (IntKind.wrap .i64 (a8 + 1)) _ hF ?_;exact ⟨oy ok, wy ok⟩
    ·refine Fm ?_;replace hF := hG10 _ (As hF);exact ⟨(), hF, oy ok, wy ok⟩
  ·rintro ⟨⟩ s' hF ⟨ok, hws⟩;refine AM hws ?_;refine KN ?_;exact rt
theorem GC {β : Type} {f : Bool -> Option β} {G : β -> Prop} {R : D -> Heap -> Prop} {p0 : List Int} {p1 : List Int} (h : Heap) (hF : OptP ((Ch p0 p1).bind f) G) (hk : ∀ r, Ch p0 p1 = some r -> OptP (f r) G -> R (.bool r) h) : CallsA prog 21 [.sl 1 (List.map BF p0) 0, .sl 1 (List.map BF p1) 0] h R := by
 obtain ⟨r0, hr, hF⟩ := Br hF;refine (GS (G := fun r => r = r0) p0 p1 h ⟨r0, hr, rfl⟩).mono ?_;rintro _ _ ⟨r, rfl, rfl, rfl⟩;exact hk _ hr hF
theorem HM {G : Bool -> Prop} (h : Heap) (hF : OptP (Dt) G) : CallsA prog 10 [] h fun d h' => ∃ r, G r /\ d = .bool r /\ h' = h := by
 refine CallsA.ret ?_;refine Bb func10 rfl Afy ntmps10 rfl (fun ok => ?_);rw [Dt] at hF;refine Ku ?_;refine BG ?_;refine cl (Bz (fun _ h hF => Fe h hF) _ hF fun x1 _ hF => ?_);refine cl (Bz (fun _ h hF => E5 _ _ h hF) _ hF fun x2 _ hF => ?_);refine WK ?_;refine Mz ?_;refine BG ?_;refine cl (Bz (fun _ h hF => Fe h hF) _ hF fun x3 _ hF => ?_);refine cl (Bz (fun _ h hF => E5 _ _ h hF) _ hF fun x4 _ hF => ?_);refine WK ?_;refine Mz ?_;refine BG ?_;refine cl (Bz (fun _ h hF => Mv _ h hF) _ hF fun x5 _ hF => ?_);refine W4 ?_;refine Mz ?_;refine WC ?_;refine B9 (b := (x2.2.2 == 0)) 3 30 (.bool ((x2.2.2 == 0) && (x4.2.2 == 0))) (fun hb6 => ?_) (fun hb6 => ?_) ?_
 ·refine YF ?_;refine Ho ?_;exact th
 ·refine Mi ?_;exact th
 refine Do ?_;refine B9 (b := ((x2.2.2 == 0) && (x4.2.2 == 0))) 3 34 (.bool (((x2.2.2 == 0) && (x4.2.2 == 0)) && (x5.2 == 36))) (fun hb7 => ?_) (fun hb7 => ?_) ?_
 ·refine YF ?_;refine Ho ?_;exact th
 ·refine Mi ?_;exact th
 refine Do ?_;refine B9 (b := (((x2.2.2 == 0) && (x4.2.2 == 0)) && (x5.2 == 36))) 3 38 (.bool ((((x2.2.2 == 0) && (x4.2.2 == 0)) && (x5.2 == 36)) && (x5.1 == 3))) (fun hb8 => ?_) (fun hb8 => ?_) ?_
 ·refine YF ?_;refine Ho ?_;exact th
 ·refine Mi ?_;exact th
 refine Do ?_;refine B9 (b := ((((x2.2.2 == 0) && (x4.2.2 == 0)) && (x5.2 == 36)) && (x5.1 == 3))) 4 43 (.bool (((((x2.2.2 == 0) && (x4.2.2 == 0)) && (x5.2 == 36)) && (x5.1 == 3)) && ((x2.1.length : Int) == 1))) (fun hb9 => ?_) (fun hb9 => ?_) ?_
 ·refine U4 ?_;refine YN ?_;refine ZE ?_;exact th
 ·refine RQ ?_;exact th
 refine Do ?_;refine BW 7 51 hF (fun J11 hb10 hF => ?_) (fun J11 hb10 hF => ?_) (fun v12 hF => ?_)
 ·refine U4 ?_;refine Gb rfl rfl HB EI hF (fun x13 _ hF => ?_);refine Bs ?_;refine Ag6 ?_;refine ZG ?_;refine CF (cs := [.int .i64 0, .int .i64 1]) (es := (List.map BF [0, 1])) rfl Et rfl (by kernel_rfl) (by kernel_rfl) ?_;refine Bs ?_;refine cl (GC _ hF fun x14 _ hF => ?_);refine Ho ?_;exact tw
 ·refine JR ?_;refine Mi ?_;exact tw
 ·refine Do ?_;refine B9 (b := v12) 4 56 (.bool (v12 && ((x4.1.length : Int) == 2))) (fun hb15 => ?_) (fun hb15 => ?_) ?_
  ·refine U4 ?_;refine YN ?_;refine ZE ?_;exact th
  ·refine RQ ?_;exact th
  refine Do ?_;refine BW 5 62 hF (fun J17 hb16 hF => ?_) (fun J17 hb16 hF => ?_) (fun v18 hF => ?_)
  ·refine U4 ?_;refine Gb rfl rfl HB EI hF (fun x19 _ hF => ?_);refine Bs ?_;refine Zu ?_;refine Bs ?_;refine XN ?_;refine Ho ?_;exact tw
  ·refine JR ?_;refine Sv ?_;exact tw
  ·refine Do ?_;refine BW 7 70 hF (fun J21 hb20 hF => ?_) (fun J21 hb20 hF => ?_) (fun v22 hF => ?_)
   ·refine U4 ?_;refine Gb rfl rfl HB EI hF (fun x23 _ hF => ?_);refine Bs ?_;refine By rfl Kc AG rfl ?_;refine Bs ?_;refine Ad0 ?_;refine Bs ?_;refine P3 ?_;refine Bs ?_;refine NX ?_;refine Ho ?_;exact tw
   ·refine JR ?_;refine Mi ?_;exact tw
   ·refine GB ?_;exact rt
theorem H7 : ∀ (N : Nat) (v : Ab) (G : (List Ab) -> Prop) (h : Heap), OptP (iter BA N v) G -> CallsA prog 25 [.agg (Ae v)] h fun d h' => ∃ r, G r /\ d = .sl 6 (List.map Ae r) 0 /\ h' = h := by
 intro N
 induction N with
 | zero => intro v G h hF; exact Kx hF
 | succ N ih0 =>
 intro p0 G h hF;show CallsA prog 25 [.agg (Ae p0)] h fun d h' => ∃ r, G r /\ d = .sl 6 (List.map Ae r) 0 /\ h' = h;replace hF : OptP (BA (iter BA N) p0) G := hF;refine CallsA.ret ?_;refine Bb func25 rfl Aez ntmps25 rfl (fun ok => ?_);rw [BA] at hF;refine BG ?_;refine Cy (v := .agg (Ae p0)) (cs := Ae p0) rfl rfl rfl rfl ?_;refine S_a (v := .snil) rfl ?_;refine DH 2 (v := .sl 6 (List.map Ae []) 0) (.nil _) ?_;refine ID ?_;refine CD (mdl [(7, 2)]) ?_;refine AW rfl (Bj (vs := Ae p0) Bq AJ (by rw [Ac]; rfl) (by rw [Ac]; rfl)) ?_;refine O6 (d := 6) (v := .agg [.int .i64 p0.Kind, .str p0.Name.URI, .str p0.Name.Local, .sl 3 (List.map Ar p0.Attrs) 0, .sl 6 (List.map Ae p0.Kids) 0, .str p0.Text]) (congrArg D.agg (Ac p0)) ?_;refine Oy (cs := [.int .i64 p0.Kind, .str p0.Name.URI, .str p0.Name.Local, .sl 3 (List.map Ar p0.Attrs) 0, .sl 6 (List.map Ae p0.Kids) 0, .str p0.Text]) (es := (List.map Ae [p0])) ok rfl Iv rfl (by kernel_rfl) (by simp only [List.map_cons, List.map_nil, Ac]; rfl) ?_;intro r1 hr1 ok;refine Q1 ?_;refine AP hF (fun (a10 : (List Ab)) s' => ∃ g11 : Nat, g11 ≠ 0 /\ Zs h [(g11, .room)] 21 [(3, .sl 6 (List.map Ae a10) g11)] s') (fun J12 hF => ?_) ?_
 ·refine BG ?_;refine By rfl CY B2 (by rw [Ac]; rfl) ?_;refine AW rfl (Bc EH B2 (congrArg (List.drop 4) (Ac p0))) ?_;refine VH ?_;refine BN (σ := (List Ab) × Int) hF (fun (v : (List Ab) × Int) s' => match v with | (a13, a15) => ∃ g14 : Nat, g14 ≠ 0 /\ Zs h [(g14, .room)] 21 [(3, .sl 6 (List.map Ae a13) g14), (9, .sl 6 (List.map Ae p0.Kids) 0), (10, .int .i64 (p0.Kids.length : Int)), (11, .int .i64 a15)] s') ?_ ?_
  ·exact ⟨r1, hr1, oy ok, wy ok⟩
  ·rintro G16 hG17 rec18 ⟨a13, a15⟩ s' ih19 hF ⟨g14, hg14, ok, hws⟩;refine AM hws ?_;rw [Cr] at hF;refine IG ?_;refine Bp rfl hF (fun hb20 hF => ?_) fun hb20 hF => ?_
   ·refine Vl ?_;refine CD (mdl [(5, 1)]) ?_;refine Gb rfl rfl En AJ hF (fun x21 _ hF => ?_);refine AW rfl (Bj (vs := Ae x21) Bq AJ (by rw [Ac]; rfl) (by rw [Ac]; rfl)) ?_;refine Cf ok rfl D4 ?_;intro i22 hi22 ok;refine Ga (j := 0) (cs' := [.int .i64 x21.Kind, .str x21.Name.URI, .str x21.Name.Local, .sl 3 (List.map Ar x21.Attrs) 0, .sl 6 (List.map Ae x21.Kids) 0, .str x21.Text]) ok rfl (congrArg D.agg (Ac x21)) rfl hi22 rfl AJ rfl rfl (fun ok => ?_);refine A8 ?_;refine CD (mdl [(18, 2)]) ?_;refine Ox ?_;refine Cv (j := 0) ok rfl rfl rfl hi22 (Bj (vs := Ae x21) Bq AJ rfl (Ac x21).symm) ?_;refine cl (Bz (enc := fun r => .sl 6 (List.map Ae r) 0) (fun G h hF => ih0 x21 G h hF) _ hF fun x23 _ hF => ?_);refine FW (j := 1) ok rfl rfl rfl rfl hg14 Iv Q4 hF ?_;intro r24 hr24 ok hF;refine Q1 ?_;refine Ml ?_;refine ih19 ((a13 ++ x23), (IntKind.wrap .i64 (a15 + 1))) _ hF ?_;exact ⟨r24, hr24, oy ok, wy ok⟩
   ·refine Fm ?_;replace hF := hG17 _ (As hF);exact ⟨a13, hF, g14, hg14, oy ok, wy ok⟩
 ·rintro a10 s' hF ⟨g11, hg11, ok, hws⟩;refine AM hws ?_;refine I0 ?_;refine DH 20 (v := .sl 6 (List.map Ae a10) 0) (.zero _ _ _) ?_;refine Zk ?_;exact rt
theorem H9 (p0 : Ab) {G : (List Ab) -> Prop} (h : Heap) (hF : OptP (C9 p0) G) : CallsA prog 25 [.agg (Ae p0)] h fun d h' => ∃ r, G r /\ d = .sl 6 (List.map Ae r) 0 /\ h' = h := H7 FUEL p0 G h hF
theorem HI {β : Type} {f : (List Ab) -> Option β} {G : β -> Prop} {R : D -> Heap -> Prop} {p0 : Ab} (h : Heap) (hF : OptP ((C9 p0).bind f) G) (hk : ∀ r, C9 p0 = some r -> OptP (f r) G -> R (.sl 6 (List.map Ae r) 0) h) : CallsA prog 25 [.agg (Ae p0)] h R := by
 obtain ⟨r0, hr, hF⟩ := Br hF;refine (H9 (G := fun r => r = r0) p0 h ⟨r0, hr, rfl⟩).mono ?_;rintro _ _ ⟨r, rfl, rfl, rfl⟩;exact hk _ hr hF
theorem HO (p0 : Ab) (p1 : Int) {G : Bool -> Prop} (h : Heap) (hF : OptP (BK p0 p1) G) : CallsA prog 11 [.agg (Ae p0), .int .i64 p1] h fun d h' => ∃ r, G r /\ d = .bool r /\ h' = h := by
 refine CallsA.ret ?_;refine Bb func11 rfl Aev ntmps11 rfl (fun ok => ?_);rw [BK] at hF;refine BG ?_;refine Cy (v := .agg (Ae p0)) (cs := Ae p0) rfl rfl rfl rfl ?_;refine QQ ?_;refine AW rfl (Bj (vs := Ae p0) Bq AJ (by rw [Ac]; rfl) (by rw [Ac]; rfl)) ?_;refine cl (HI _ hF fun x1 _ hF => ?_);refine Aee ?_;refine Fj ?_;refine Xd ?_;refine GB ?_;exact rt
theorem HD {β : Type} {f : Bool -> Option β} {G : β -> Prop} {R : D -> Heap -> Prop} {p0 : Ab} {p1 : Int} (h : Heap) (hF : OptP ((BK p0 p1).bind f) G) (hk : ∀ r, BK p0 p1 = some r -> OptP (f r) G -> R (.bool r) h) : CallsA prog 11 [.agg (Ae p0), .int .i64 p1] h R := by
 obtain ⟨r0, hr, hF⟩ := Br hF;refine (HO (G := fun r => r = r0) p0 p1 h ⟨r0, hr, rfl⟩).mono ?_;rintro _ _ ⟨r, rfl, rfl, rfl⟩;exact hk _ hr hF
theorem HY : ∀ (N : Nat) (v : Ab) (G : Int -> Prop) (h : Heap), OptP (iter BB N v) G -> CallsA prog 22 [.agg (Ae v)] h fun d h' => ∃ r, G r /\ d = .int .i64 r /\ h' = h := by
 intro N
 induction N with
 | zero => intro v G h hF; exact Kx hF
 | succ N ih0 =>
 intro p0 G h hF;show CallsA prog 22 [.agg (Ae p0)] h fun d h' => ∃ r, G r /\ d = .int .i64 r /\ h' = h;replace hF : OptP (BB (iter BB N) p0) G := hF;refine CallsA.ret ?_;refine Bb func22 rfl Af2 ntmps22 rfl (fun ok => ?_);rw [BB] at hF;refine BG ?_;refine Cy (v := .agg (Ae p0)) (cs := Ae p0) rfl rfl rfl rfl ?_;refine IL ?_;refine PN ?_;refine AP hF (fun (a7 : Int) s' => Zs h [] 20 [(3, .int .i64 a7)] s') (fun J8 hF => ?_) ?_
 ·refine BG ?_;refine By rfl CY B2 (by rw [Ac]; rfl) ?_;refine AW rfl (Bc EH B2 (congrArg (List.drop 4) (Ac p0))) ?_;refine VH ?_;refine BN (σ := Int × Int) hF (fun (v : Int × Int) s' => match v with | (a9, a10) => Zs h [] 20 [(3, .int .i64 a9), (7, .sl 6 (List.map Ae p0.Kids) 0), (8, .int .i64 (p0.Kids.length : Int)), (9, .int .i64 a10)] s') ?_ ?_
  ·exact ⟨oy ok, wy ok⟩
  ·rintro G11 hG12 rec13 ⟨a9, a10⟩ s' ih14 hF ⟨ok, hws⟩;refine AM hws ?_;rw [Cq] at hF;refine IG ?_;refine Bp rfl hF (fun hb15 hF => ?_) fun hb15 hF => ?_
   ·refine Vl ?_;refine CD (mdl [(5, 1)]) ?_;refine Gb rfl rfl En AJ hF (fun x16 _ hF => ?_);refine AW rfl (Bj (vs := Ae x16) Bq AJ (by rw [Ac]; rfl) (by rw [Ac]; rfl)) ?_;refine Cf ok rfl D4 ?_;intro i17 hi17 ok;refine Ga (j := 0) (cs' := [.int .i64 x16.Kind, .str x16.Name.URI, .str x16.Name.Local, .sl 3 (List.map Ar x16.Attrs) 0, .sl 6 (List.map Ae x16.Kids) 0, .str x16.Text]) ok rfl (congrArg D.agg (Ac x16)) rfl hi17 rfl AJ rfl rfl (fun ok => ?_);refine A8 ?_;refine Va ?_;refine Cv (j := 0) ok rfl rfl rfl hi17 (Bj (vs := Ae x16) Bq AJ rfl (Ac x16).symm) ?_;refine cl (Bz (enc := fun r => .int .i64 r) (fun G h hF => ih0 x16 G h hF) _ hF fun x18 _ hF => ?_);refine Aak rfl rfl ?_;refine IL ?_;refine Ml ?_;refine ih14 ((if x18 > a9 then x18 else a9), (IntKind.wrap .i64 (a10 + 1))) _ hF ?_;exact ⟨oy ok, wy ok⟩
   ·refine Fm ?_;replace hF := hG12 _ (As hF);exact ⟨a9, hF, oy ok, wy ok⟩
 ·rintro a7 s' hF ⟨ok, hws⟩;refine AM hws ?_;refine HQ ?_;refine PM ?_;refine Vf ?_;exact rt
theorem Ij (p0 : Ab) {G : Int -> Prop} (h : Heap) (hF : OptP (Cw p0) G) : CallsA prog 22 [.agg (Ae p0)] h fun d h' => ∃ r, G r /\ d = .int .i64 r /\ h' = h := HY FUEL p0 G h hF
theorem HL {β : Type} {f : Int -> Option β} {G : β -> Prop} {R : D -> Heap -> Prop} {p0 : Ab} (h : Heap) (hF : OptP ((Cw p0).bind f) G) (hk : ∀ r, Cw p0 = some r -> OptP (f r) G -> R (.int .i64 r) h) : CallsA prog 22 [.agg (Ae p0)] h R := by
 obtain ⟨r0, hr, hF⟩ := Br hF;refine (Ij (G := fun r => r = r0) p0 h ⟨r0, hr, rfl⟩).mono ?_;rintro _ _ ⟨r, rfl, rfl, rfl⟩;exact hk _ hr hF
theorem HH : ∀ (N : Nat) (v : Ab) (G : (List (List Int)) -> Prop) (h : Heap), OptP (iter Bt N v) G -> CallsA prog 19 [.agg (Ae v)] h fun d h' => ∃ r, G r /\ d = .sl 1 (List.map (MQ 1 BF) r) 0 /\ h' = h := by
 intro N
 induction N with
 | zero => intro v G h hF; exact Kx hF
 | succ N ih0 =>
 intro p0 G h hF;show CallsA prog 19 [.agg (Ae p0)] h fun d h' => ∃ r, G r /\ d = .sl 1 (List.map (MQ 1 BF) r) 0 /\ h' = h;replace hF : OptP (Bt (iter Bt N) p0) G := hF;refine CallsA.ret ?_;refine Bb func19 rfl Aeo ntmps19 rfl (fun ok => ?_);rw [Bt] at hF;refine BG ?_;refine Cy (v := .agg (Ae p0)) (cs := Ae p0) rfl rfl rfl rfl ?_;refine S_a (v := .snil) rfl ?_;refine DH 2 (v := .sl 1 (List.map (MQ 1 BF) []) 0) (.nil _) ?_;refine ID ?_;refine CD (mdl [(9, 2)]) ?_;refine CF (cs := []) (es := (List.map BF [])) rfl Et rfl (by kernel_rfl) (by kernel_rfl) ?_;refine Oy (cs := [.sl 1 (List.map BF []) 0]) (es := (List.map (MQ 1 BF) [[]])) ok rfl Ob rfl (by kernel_rfl) (by kernel_rfl) ?_;intro r1 hr1 ok;refine Q1 ?_;refine AP hF (fun (a30 : (List (List Int))) s' => ∃ g31 : Nat, g31 ≠ 0 /\ Zs h [(g31, .room)] 35 [(3, .sl 1 (List.map (MQ 1 BF) a30) g31)] s') (fun J32 hF => ?_) ?_
 ·refine BG ?_;refine By rfl CY B2 (by rw [Ac]; rfl) ?_;refine AW rfl (Bc EH B2 (congrArg (List.drop 4) (Ac p0))) ?_;refine VH ?_;refine BN (σ := (List (List Int)) × Int) hF (fun (v : (List (List Int)) × Int) s' => match v with | (a33, a35) => ∃ g34 : Nat, g34 ≠ 0 /\ Zs h [(g34, .room)] 35 [(3, .sl 1 (List.map (MQ 1 BF) a33) g34), (11, .sl 6 (List.map Ae p0.Kids) 0), (12, .int .i64 (p0.Kids.length : Int)), (13, .int .i64 a35)] s') ?_ ?_
  ·exact ⟨r1, hr1, oy ok, wy ok⟩
  ·rintro G36 hG37 rec38 ⟨a33, a35⟩ s' ih39 hF ⟨g34, hg34, ok, hws⟩;refine AM hws ?_;rw [Ce] at hF;refine IG ?_;refine Bp rfl hF (fun hb40 hF => ?_) fun hb40 hF => ?_
   ·refine DD ?_;refine AP hF (fun (a52 : (List (List Int))) s' => ∃ g53 : Nat, g53 ≠ 0 /\ Zs h [(g53, .room)] 35 [(3, .sl 1 (List.map (MQ 1 BF) a52) g53), (11, .sl 6 (List.map Ae p0.Kids) 0), (12, .int .i64 (p0.Kids.length : Int)), (13, .int .i64 a35)] s') (fun J54 hF => ?_) ?_
    ·refine QT ?_;refine CD (mdl [(5, 1)]) ?_;refine Fj ?_;refine Gb rfl rfl En AJ hF (fun x55 _ hF => ?_);refine AW rfl (Bj (vs := Ae x55) Bq AJ (by rw [Ac]; rfl) (by rw [Ac]; rfl)) ?_;refine Cf ok rfl D4 ?_;intro i56 hi56 ok;refine Kr ?_;refine Ga (j := 0) (cs' := [.int .i64 x55.Kind, .str x55.Name.URI, .str x55.Name.Local, .sl 3 (List.map Ar x55.Attrs) 0, .sl 6 (List.map Ae x55.Kids) 0, .str x55.Text]) ok rfl (congrArg D.agg (Ac x55)) rfl hi56 rfl AJ rfl rfl (fun ok => ?_);refine GH ?_;refine Cv (j := 0) ok rfl rfl rfl hi56 (Bj (vs := Ae x55) Bq AJ rfl (Ac x55).symm) ?_;refine cl (Bz (enc := fun r => .sl 1 (List.map (MQ 1 BF) r) 0) (fun G h hF => ih0 x55 G h hF) _ hF fun x57 _ hF => ?_);refine DP rfl K5 ?_;refine KM ?_;refine BN (σ := (List (List Int)) × Int) hF (fun (v : (List (List Int)) × Int) s' => match v with | (a58, a60) => ∃ g59 : Nat, g59 ≠ 0 /\ Zs h [(g59, .room)] 35 [(3, .sl 1 (List.map (MQ 1 BF) a58) g59), (4, .int .i64 a35), (11, .sl 6 (List.map Ae p0.Kids) 0), (12, .int .i64 (p0.Kids.length : Int)), (13, .int .i64 a35), (19, .sl 1 (List.map (MQ 1 BF) x57) 0), (20, .int .i64 (x57.length : Int)), (21, .int .i64 a60)] s') ?_ ?_
     ·exact ⟨g34, hg34, oy ok, wy ok⟩
     ·rintro G61 hG62 rec63 ⟨a58, a60⟩ s' ih64 hF ⟨g59, hg59, ok, hws⟩;refine AM hws ?_;rw [Cg] at hF;refine IG ?_;refine Bp rfl hF (fun hb65 hF => ?_) fun hb65 hF => ?_
      ·refine YM ?_;refine BG ?_;refine Gb rfl rfl K5 Hu hF (fun x66 _ hF => ?_);refine XZ ?_;refine Q1 ?_;refine CD (mdl [(27, 2), (29, 2), (31, 2)]) ?_;refine Xo ?_;refine Oy (cs := [.int .i64 a35]) (es := (List.map BF [a35])) ok rfl Et rfl (by kernel_rfl) (by kernel_rfl) ?_;intro r67 hr67 ok;refine Ox ?_;refine FW (j := 0) ok rfl rfl rfl rfl hr67 Et Ju hF ?_;intro r68 hr68 ok hF;refine DH 29 (v := .sl 1 (List.map BF ([a35] ++ x66)) 0) (.zero _ _ _) ?_;refine CF (cs := [.sl 1 (List.map BF ([a35] ++ x66)) 0]) (es := (List.map (MQ 1 BF) [([a35] ++ x66)])) rfl Ob rfl (by kernel_rfl) (by kernel_rfl) ?_;refine FW (j := 1) ok rfl rfl rfl rfl hg59 Ob V8 hF ?_;intro r69 hr69 ok hF;refine Q1 ?_;refine Ml ?_;refine ih64 ((a58 ++ [([a35] ++ x66)]), (IntKind.wrap .i64 (a60 + 1))) _ hF ?_;exact ⟨r69, hr69, oy ok, wy ok⟩
      ·refine Fm ?_;replace hF := hG62 _ (As hF);exact ⟨a58, hF, g59, hg59, oy ok, wy ok⟩
    ·rintro a52 s' hF ⟨g53, hg53, ok, hws⟩;refine AM hws ?_;refine Ml ?_;refine ih39 (a52, (IntKind.wrap .i64 (a35 + 1))) _ hF ?_;exact ⟨g53, hg53, oy ok, wy ok⟩
   ·refine Fm ?_;replace hF := hG37 _ (As hF);exact ⟨a33, hF, g34, hg34, oy ok, wy ok⟩
 ·rintro a30 s' hF ⟨g31, hg31, ok, hws⟩;refine AM hws ?_;refine I0 ?_;refine DH 34 (v := .sl 1 (List.map (MQ 1 BF) a30) 0) (.zero _ _ _) ?_;refine Zk ?_;exact rt
theorem HP (p0 : Ab) {G : (List (List Int)) -> Prop} (h : Heap) (hF : OptP (BS p0) G) : CallsA prog 19 [.agg (Ae p0)] h fun d h' => ∃ r, G r /\ d = .sl 1 (List.map (MQ 1 BF) r) 0 /\ h' = h := HH FUEL p0 G h hF
theorem Hr {β : Type} {f : (List (List Int)) -> Option β} {G : β -> Prop} {R : D -> Heap -> Prop} {p0 : Ab} (h : Heap) (hF : OptP ((BS p0).bind f) G) (hk : ∀ r, BS p0 = some r -> OptP (f r) G -> R (.sl 1 (List.map (MQ 1 BF) r) 0) h) : CallsA prog 19 [.agg (Ae p0)] h R := by
 obtain ⟨r0, hr, hF⟩ := Br hF;refine (HP (G := fun r => r = r0) p0 h ⟨r0, hr, rfl⟩).mono ?_;rintro _ _ ⟨r, rfl, rfl, rfl⟩;exact hk _ hr hF
theorem HA (p0 : Int) {G : (List By8) -> Prop} (h : Heap) (hF : OptP (BC p0) G) : CallsA prog 56 [.int .i64 p0] h fun d h' => ∃ r, G r /\ d = .str r /\ h' = h := by
 refine CallsA.ret ?_;refine Bb func56 rfl Ae2 ntmps56 rfl (fun ok => ?_);rw [BC] at hF;refine BG ?_;refine S_a (v := .str []) rfl ?_;refine GH ?_;refine S_a (v := .str []) rfl ?_;refine A8 ?_;refine AP hF (fun (a5 : (List By8)) s' => Zs h [] 17 [(3, .str a5)] s') (fun J6 hF => ?_) ?_
 ·refine KO ?_;refine BN (σ := Int × (List By8)) hF (fun (v : Int × (List By8)) s' => match v with | (a7, a8) => Zs h [] 17 [(0, .int .i64 a7), (3, .str a8)] s') ?_ ?_
  ·exact ⟨oy ok, wy ok⟩
  ·rintro G9 hG10 rec11 ⟨a7, a8⟩ s' ih12 hF ⟨ok, hws⟩;refine AM hws ?_;rw [ES] at hF;refine MN ?_;refine Xn ?_;refine A8 ?_;refine Bp rfl hF (fun hb13 hF => ?_) fun hb13 hF => ?_
   ·refine Wy ?_;refine HQ ?_;refine Dc rfl rfl (Afb rfl) ?_;refine PM ?_;refine Nf rfl (Agv QM Oa) ?_;obtain ⟨b14, hb14, hF⟩ := Br hF;replace hb14 := Yg hb14;refine CF (es := List.map U6 [b14]) rfl Ub rfl rfl (by simp only [List.map_cons, List.map_nil, U6, hb14]; rfl) ?_;refine Nf rfl (Agr In QM Bo) ?_;refine NV ?_;refine PB rfl rfl hF (fun hF => ?_);refine U8 ?_;refine A8 ?_;refine Va ?_;refine Dc rfl rfl (Agn rfl) ?_;refine IL ?_;refine ih12 ((IntKind.wrap .i64 (Int.tdiv a7 10)), ([b14] ++ a8)) _ hF ?_;exact ⟨oy ok, wy ok⟩
   ·refine Fm ?_;replace hF := hG10 _ (As hF);exact ⟨a8, hF, oy ok, wy ok⟩
 ·rintro a5 s' hF ⟨ok, hws⟩;refine AM hws ?_;refine KW ?_;refine U8 ?_;refine KD ?_;exact rt
theorem Ha {β : Type} {f : (List By8) -> Option β} {G : β -> Prop} {R : D -> Heap -> Prop} {p0 : Int} (h : Heap) (hF : OptP ((BC p0).bind f) G) (hk : ∀ r, BC p0 = some r -> OptP (f r) G -> R (.str r) h) : CallsA prog 56 [.int .i64 p0] h R := by
 obtain ⟨r0, hr, hF⟩ := Br hF;refine (HA (G := fun r => r = r0) p0 h ⟨r0, hr, rfl⟩).mono ?_;rintro _ _ ⟨r, rfl, rfl, rfl⟩;exact hk _ hr hF
theorem G3 (p0 : List Int) {G : (List By8) -> Prop} (h : Heap) (hF : OptP (Cp p0) G) : CallsA prog 20 [.sl 1 (List.map BF p0) 0] h fun d h' => ∃ r, G r /\ d = .str r /\ h' = h := by
 refine CallsA.ret ?_;refine Bb func20 rfl Afe ntmps20 rfl (fun ok => ?_);rw [Cp] at hF;refine BG ?_;refine S_a (v := .str []) rfl ?_;refine GH ?_;refine S_a (v := .str []) rfl ?_;refine A8 ?_;refine AP hF (fun (a6 : (List By8)) s' => Zs h [] 21 [(3, .str a6)] s') (fun J7 hF => ?_) ?_
 ·refine XO ?_;refine KM ?_;refine BN (σ := (List By8) × Int) hF (fun (v : (List By8) × Int) s' => match v with | (a8, a9) => Zs h [] 21 [(3, .str a8), (6, .sl 1 (List.map BF p0) 0), (7, .int .i64 (p0.length : Int)), (8, .int .i64 a9)] s') ?_ ?_
  ·exact ⟨oy ok, wy ok⟩
  ·rintro G10 hG11 rec12 ⟨a8, a9⟩ s' ih13 hF ⟨ok, hws⟩;refine AM hws ?_;rw [BZ] at hF;refine IG ?_;refine Bp rfl hF (fun hb14 hF => ?_) fun hb14 hF => ?_
   ·refine YM ?_;refine BG ?_;refine Gb rfl rfl Ep AF hF (fun x15 _ hF => ?_);refine Ve ?_;refine IL ?_;refine Mr ?_;refine NV ?_;refine PB rfl rfl hF (fun hF => ?_);refine Zy ?_;refine cl (Ha _ hF fun x16 _ hF => ?_);refine PB rfl rfl hF (fun hF => ?_);refine PB rfl rfl hF (fun hF => ?_);refine U8 ?_;refine A8 ?_;refine Ml ?_;refine ih13 ((((a8 ++ [47, 110, 111, 100, 101, 40, 41, 91]) ++ x16) ++ [93]), (IntKind.wrap .i64 (a9 + 1))) _ hF ?_;exact ⟨oy ok, wy ok⟩
   ·refine Fm ?_;replace hF := hG11 _ (As hF);exact ⟨a8, hF, oy ok, wy ok⟩
 ·rintro a6 s' hF ⟨ok, hws⟩;refine AM hws ?_;refine KW ?_;refine U8 ?_;refine KD ?_;exact rt
theorem Kk (p0 : Ak) (p1 : Ak) {G : Int -> Prop} (h : Heap) (hF : OptP (Eg p0 p1) G) : CallsA prog 23 [.agg (Aq p0), .agg (Aq p1)] h fun d h' => ∃ r, G r /\ d = .int .i64 r /\ h' = h := by
 refine CallsA.ret ?_;refine Bb func23 rfl Af7 ntmps23 rfl (fun ok => ?_);rw [Eg] at hF;refine BG ?_;refine Cy rfl rfl rfl rfl ?_;refine Cy rfl rfl rfl rfl ?_;refine IL ?_;refine AP hF (fun (_ : Unit) s' => Zs h [] 61 [(2, .iptr (Aq p0)), (3, .iptr (Aq p1))] s') (fun J7 hF => ?_) ?_
 ·refine BG ?_;refine ZA ?_;refine U7 ?_;refine ZA ?_;refine U7 ?_;refine Aa7 rfl rfl ?_;refine KM ?_;refine BN (σ := Int) hF (fun (a8 : Int) s' => Zs h [] 61 [(2, .iptr (Aq p0)), (3, .iptr (Aq p1)), (14, .int .i64 (if (p1.Steps.length : Int) < (p0.Steps.length : Int) then (p1.Steps.length : Int) else (p0.Steps.length : Int))), (15, .int .i64 a8)] s') ?_ ?_
  ·exact ⟨oy ok, wy ok⟩
  ·rintro G9 hG10 rec11 a8 s' ih12 hF ⟨ok, hws⟩;refine AM hws ?_;rw [CO] at hF;refine IG ?_;refine Bp rfl hF (fun hb13 hF => ?_) fun hb13 hF => ?_
   ·refine XG ?_;refine Gy ?_;refine HJ (mdl [(19, 3), (22, 3), (24, 3), (27, 3)]) (by kernel_rfl) (by kernel_rfl) ?_;refine ZA ?_;refine Fj ?_;refine Gb rfl rfl Ep AF hF (fun x14 _ hF => ?_);refine Ve ?_;refine ZA ?_;refine Fj ?_;refine Gb rfl rfl Ep AF hF (fun x15 _ hF => ?_);refine Ve ?_;refine cl (Bz (fun _ h hF => Gk _ _ h hF) _ hF fun x16 _ hF => ?_);refine IL ?_;refine Ads ?_;refine Bp rfl hF (fun hb17 hF => ?_) fun hb17 hF => ?_
    ·refine Vz ?_;replace hF := hG10 _ (As hF);exact rt
    ·refine Th ?_;refine ih12 (IntKind.wrap .i64 (a8 + 1)) _ hF ?_;exact ⟨oy ok, wy ok⟩
   ·refine Fm ?_;replace hF := hG10 _ (As hF);exact ⟨(), hF, oy ok, wy ok⟩
 ·rintro ⟨⟩ s' hF ⟨ok, hws⟩;refine AM hws ?_;refine Xf ?_;refine ZA ?_;refine U7 ?_;refine ZA ?_;refine U7 ?_;refine cl (Bz (fun _ h hF => Gk _ _ h hF) _ hF fun x18 _ hF => ?_);refine IL ?_;refine Ads ?_;refine Bp rfl hF (fun hb19 hF => ?_) fun hb19 hF => ?_
  ·refine Vz ?_;exact rt
  ·refine YM ?_;refine BG ?_;refine Zu ?_;refine XN ?_;refine Do ?_;refine B9 (b := p0.Attr) 3 49 (.bool (p0.Attr && p1.Attr)) (fun hb20 => ?_) (fun hb20 => ?_) ?_
   ·refine Ek ?_;refine Zu ?_;refine Bs ?_;refine XN ?_;refine Ho ?_;exact th
   ·refine Mi ?_;exact th
   refine F1 ?_;refine Bp rfl hF (fun hb21 hF => ?_) fun hb21 hF => ?_
   ·refine BG ?_;refine By rfl Kc AG rfl ?_;refine AW rfl (Bj (vs := Au p0.Name) BM AG rfl rfl) ?_;refine By rfl Kc AG rfl ?_;refine AW rfl (Bj (vs := Au p1.Name) BM AG rfl rfl) ?_;refine cl (Bz (fun _ h hF => IM _ _ h hF) _ hF fun x22 _ hF => ?_);refine Vf ?_;exact rt
   ·refine BG ?_;refine Zu ?_;refine XN ?_;refine F1 ?_;refine Bp rfl hF (fun hb23 hF => ?_) fun hb23 hF => ?_
    ·refine LO ?_;exact rt
    ·refine BG ?_;refine Zu ?_;refine XN ?_;refine F1 ?_;refine Bp rfl hF (fun hb24 hF => ?_) fun hb24 hF => ?_
     ·refine LO ?_;exact rt
     ·refine Zv ?_;exact rt
theorem EO (p0 : List By8) {G : Bool -> Prop} (h : Heap) (hF : OptP (Bf p0) G) : CallsA prog 24 [.str p0] h fun d h' => ∃ r, G r /\ d = .bool r /\ h' = h := by
 refine CallsA.ret ?_;refine Bb func24 rfl Ae8 ntmps24 rfl (fun ok => ?_);rw [Bf] at hF;refine Ku ?_;refine AP hF (fun (_ : Unit) s' => Zs h [] 14 [] s') (fun J5 hF => ?_) ?_
 ·refine PN ?_;refine KO ?_;refine BN (σ := Int) hF (fun (a6 : Int) s' => Zs h [] 14 [(0, .str p0), (3, .int .i64 a6)] s') ?_ ?_
  ·exact ⟨oy ok, wy ok⟩
  ·rintro G7 hG8 rec9 a6 s' ih10 hF ⟨ok, hws⟩;refine AM hws ?_;rw [BY] at hF;refine MN ?_;refine NV ?_;refine LG ?_;refine R1 ?_;refine Bp rfl hF (fun hb11 hF => ?_) fun hb11 hF => ?_
   ·refine YM ?_;refine Zj ?_;refine I4 rfl rfl Bo hF (fun x12 _ hF => ?_);refine RF ?_;refine Bp rfl hF (fun hb13 hF => ?_) fun hb13 hF => ?_
    ·refine KN ?_;replace hF := hG8 _ (As hF);exact rt
    ·refine DD ?_;refine V0 ?_;refine ih10 (IntKind.wrap .i64 (a6 + 1)) _ hF ?_;exact ⟨oy ok, wy ok⟩
   ·refine Fm ?_;replace hF := hG8 _ (As hF);exact ⟨(), hF, oy ok, wy ok⟩
 ·rintro ⟨⟩ s' hF ⟨ok, hws⟩;refine AM hws ?_;refine KN ?_;exact rt
theorem GP (p0 : Ab) (p1 : List By8) {G : Bool -> Prop} (h : Heap) (hF : OptP (BR p0 p1) G) : CallsA prog 5 [.agg (Ae p0), .str p1] h fun d h' => ∃ r, G r /\ d = .bool r := by
 refine CallsA.ret ?_;refine Bb func5 rfl Ah5 ntmps5 rfl (fun ok => ?_);rw [BR] at hF;refine BG ?_;refine Cy (v := .agg (Ae p0)) (cs := Ae p0) rfl rfl rfl rfl ?_;refine ZF ?_;refine cl (Bz (fun _ h hF => HM h hF) _ hF fun x1 _ hF => ?_);refine YD ?_;refine Bp rfl hF (fun hb2 hF => ?_) fun hb2 hF => ?_
 ·refine KN ?_;exact rt
 ·refine Vc ?_;refine AW rfl (Bj (vs := Ae p0) Bq AJ (by rw [Ac]; rfl) (by rw [Ac]; rfl)) ?_;refine NV ?_;refine PB rfl rfl hF (fun hF => ?_);refine cl (Bz (fun _ h hF => E5 _ _ h hF) _ hF fun x3 _ hF => ?_);refine WK ?_;refine Mz ?_;refine BG ?_;refine AW rfl (Bj (vs := Ae p0) Bq AJ (by rw [Ac]; rfl) (by rw [Ac]; rfl)) ?_;refine NV ?_;refine PB rfl rfl hF (fun hF => ?_);refine cl (Bz (fun _ h hF => E5 _ _ h hF) _ hF fun x4 _ hF => ?_);refine WK ?_;refine WY ?_;refine Fj ?_;refine RS ?_;refine Bp rfl hF (fun hb5 hF => ?_) fun hb5 hF => ?_
  ·refine HQ ?_;refine Zr ?_;exact rt
  ·refine Ou ?_;refine HQ ?_;refine Ty ?_;refine Do ?_;refine BW 4 51 hF (fun J7 hb6 hF => ?_) (fun J7 hb6 hF => ?_) (fun v8 hF => ?_)
   ·refine O5 ?_;exact tw
   ·refine Ek ?_;refine AW rfl (Bj (vs := Ae p0) Bq AJ (by rw [Ac]; rfl) (by rw [Ac]; rfl)) ?_;refine Bs ?_;refine cl (HD _ hF fun x9 _ hF => ?_);refine Zn ?_;exact tw
   ·refine Do ?_;refine BW 4 56 hF (fun J11 hb10 hF => ?_) (fun J11 hb10 hF => ?_) (fun v12 hF => ?_)
    ·refine O5 ?_;exact tw
    ·refine Ek ?_;refine AW rfl (Bj (vs := Ae p0) Bq AJ (by rw [Ac]; rfl) (by rw [Ac]; rfl)) ?_;refine Bs ?_;refine cl (HL _ hF fun x13 _ hF => ?_);refine Ye ?_;refine Iy ?_;exact tw
    ·refine Do ?_;refine BW 10 67 hF (fun J15 hb14 hF => ?_) (fun J15 hb14 hF => ?_) (fun v16 hF => ?_)
     ·refine JR ?_;refine U9 ?_;refine U9 ?_;refine YH ?_;exact tw
     ·refine U4 ?_;refine YN ?_;refine Ye ?_;refine Xp ?_;refine BW 5 66 hF (fun J18 hb17 hF => ?_) (fun J18 hb17 hF => ?_) (fun v19 hF => ?_)
      ·refine U4 ?_;refine Gb rfl rfl HB EI hF (fun x20 _ hF => ?_);refine Bs ?_;refine Zu ?_;refine Bs ?_;refine XN ?_;refine Bs ?_;refine VD ?_;exact tw
      ·refine JR ?_;refine Ek ?_;refine Vq ?_;exact tw
      ·refine Sv ?_;exact tw
     ·refine A8 ?_;refine Bp rfl hF (fun hb21 hF => ?_) fun hb21 hF => ?_
      ·refine KN ?_;exact rt
      ·refine DD ?_;refine PN ?_;refine AP hF (fun (a253 : Int) s' => Zs h [] 136 [(1, .str p1), (5, .sl 4 (List.map Aq x3.1) 0), (11, .int .i64 a253)] s') (fun J254 hF => ?_) ?_
       ·refine BG ?_;refine AW rfl (Bj (vs := Ae p0) Bq AJ (by rw [Ac]; rfl) (by rw [Ac]; rfl)) ?_;refine cl (Hr _ hF fun x255 _ hF => ?_);refine DP rfl K5 ?_;refine KM ?_;refine BN (σ := Int × Int) hF (fun (v : Int × Int) s' => match v with | (a256, a257) => Zs h [] 136 [(1, .str p1), (2, .iptr (Ae p0)), (5, .sl 4 (List.map Aq x3.1) 0), (11, .int .i64 a256), (69, .sl 1 (List.map (MQ 1 BF) x255) 0), (70, .int .i64 (x255.length : Int)), (71, .int .i64 a257)] s') ?_ ?_
        ·exact ⟨oy ok, wy ok⟩
        ·rintro G258 hG259 rec260 ⟨a256, a257⟩ s' ih261 hF ⟨ok, hws⟩;refine AM hws ?_;rw [Bi] at hF;refine IG ?_;refine Bp rfl hF (fun hb262 hF => ?_) fun hb262 hF => ?_
         ·refine DD ?_;refine AP hF (fun (a376 : Int) s' => Zs h [] 136 [(1, .str p1), (2, .iptr (Ae p0)), (5, .sl 4 (List.map Aq x3.1) 0), (11, .int .i64 a376), (69, .sl 1 (List.map (MQ 1 BF) x255) 0), (70, .int .i64 (x255.length : Int)), (71, .int .i64 a257)] s') (fun J377 hF => ?_) ?_
          ·refine KO ?_;refine BG ?_;refine Gb rfl rfl K5 Hu hF (fun x378 _ hF => ?_);refine XZ ?_;refine XL ?_;refine ID ?_;refine O8 (mdl [(76, 3)]) [0, 1, 4, 2, 3, 5, 6, 7, 8, 9, 10, 11, 12, 13] [_, _, _, _, _, _, _, _, _, _, _, _, _, _] (by kernel_rfl) rfl rfl (by kernel_rfl) ?_;refine AW rfl (Bj (vs := Ae p0) Bq AJ (by rw [Ac]; rfl) (by rw [Ac]; rfl)) ?_;refine Ox ?_;refine NV ?_;refine cl (Bz (fun _ h hF => G3 _ h hF) _ hF fun x379 _ hF => ?_);refine PB rfl rfl hF (fun hF => ?_);refine PB rfl rfl hF (fun hF => ?_);refine cl (Bz (fun _ h hF => E5 _ _ h hF) _ hF fun x380 _ hF => ?_);refine WK ?_;refine WY ?_;refine RS ?_;refine Bp rfl hF (fun hb381 hF => ?_) fun hb381 hF => ?_
           ·refine XO ?_;refine Zz ?_;refine B9 (b := (decide (17 < (x378.length : Int)))) 3 94 (.bool ((decide (17 < (x378.length : Int))) || (x380.2.2 == 5))) (fun hb382 => ?_) (fun hb382 => ?_) ?_
            ·refine Qm ?_;exact th
            ·refine TJ ?_;exact th
            refine GB ?_;replace hF := hG259 _ (As hF);exact rt
           ·refine DD ?_;refine AP hF (fun (_ : Unit) s' => Zs h [] 136 [(1, .str p1), (2, .iptr (Ae p0)), (5, .sl 4 (List.map Aq x3.1) 0), (11, .int .i64 a256), (14, .sl 4 (List.map Aq x380.1) 0), (69, .sl 1 (List.map (MQ 1 BF) x255) 0), (70, .int .i64 (x255.length : Int)), (71, .int .i64 a257)] s') (fun J437 hF => ?_) ?_
            ·refine I0 ?_;refine YN ?_;refine KM ?_;refine BN (σ := Int) hF (fun (a438 : Int) s' => Zs h [] 136 [(1, .str p1), (2, .iptr (Ae p0)), (5, .sl 4 (List.map Aq x3.1) 0), (11, .int .i64 a256), (14, .sl 4 (List.map Aq x380.1) 0), (69, .sl 1 (List.map (MQ 1 BF) x255) 0), (70, .int .i64 (x255.length : Int)), (71, .int .i64 a257), (95, .sl 4 (List.map Aq x380.1) 0), (96, .int .i64 (x380.1.length : Int)), (97, .int .i64 a438)] s') ?_ ?_
             ·exact ⟨oy ok, wy ok⟩
             ·rintro G439 hG440 rec441 a438 s' ih442 hF ⟨ok, hws⟩;refine AM hws ?_;rw [BD] at hF;refine IG ?_;refine Bp rfl hF (fun hb443 hF => ?_) fun hb443 hF => ?_
              ·refine DD ?_;refine AP hF (fun (_ : Unit) s' => Zs h [] 136 [(1, .str p1), (2, .iptr (Ae p0)), (5, .sl 4 (List.map Aq x3.1) 0), (11, .int .i64 a256), (14, .sl 4 (List.map Aq x380.1) 0), (69, .sl 1 (List.map (MQ 1 BF) x255) 0), (70, .int .i64 (x255.length : Int)), (71, .int .i64 a257), (95, .sl 4 (List.map Aq x380.1) 0), (96, .int .i64 (x380.1.length : Int)), (97, .int .i64 a438)] s') (fun J470 hF => ?_) ?_
               ·refine QT ?_;refine CD (mdl [(18, 1)]) ?_;refine Gb rfl rfl HB EI hF (fun x471 _ hF => ?_);refine AW rfl (Bj (vs := Aq x471) La EI rfl rfl) ?_;refine Cf ok rfl K6 ?_;intro i472 hi472 ok;refine Ga (j := 0) (cs' := [.sl 1 (List.map BF x471.Steps) 0, .bool x471.Attr, .str x471.Name.URI, .str x471.Name.Local]) ok rfl rfl rfl hi472 rfl EI rfl rfl (fun ok => ?_);refine GH ?_;refine F1 ?_;refine AP hF (fun (a482 : Bool) s' => Zs h [] 136 [(1, .str p1), (2, .iptr (Ae p0)), (5, .sl 4 (List.map Aq x3.1) 0), (11, .int .i64 a256), (14, .sl 4 (List.map Aq x380.1) 0), (19, .bool a482), (69, .sl 1 (List.map (MQ 1 BF) x255) 0), (70, .int .i64 (x255.length : Int)), (71, .int .i64 a257), (95, .sl 4 (List.map Aq x380.1) 0), (96, .int .i64 (x380.1.length : Int)), (97, .int .i64 a438)] s') (fun J483 hF => ?_) ?_
                ·refine I0 ?_;refine YN ?_;refine KM ?_;refine BN (σ := Bool × Int) hF (fun (v : Bool × Int) s' => match v with | (a484, a485) => Zs h [(i472, .cells [.sl 1 (List.map BF x471.Steps) 0, .bool x471.Attr, .str x471.Name.URI, .str x471.Name.Local])] 136 [(1, .str p1), (2, .iptr (Ae p0)), (5, .sl 4 (List.map Aq x3.1) 0), (11, .int .i64 a256), (14, .sl 4 (List.map Aq x380.1) 0), (18, .ptr i472 0), (19, .bool a484), (69, .sl 1 (List.map (MQ 1 BF) x255) 0), (70, .int .i64 (x255.length : Int)), (71, .int .i64 a257), (95, .sl 4 (List.map Aq x380.1) 0), (96, .int .i64 (x380.1.length : Int)), (97, .int .i64 a438), (101, .sl 4 (List.map Aq x3.1) 0), (102, .int .i64 (x3.1.length : Int)), (103, .int .i64 a485)] s') ?_ ?_
                 ·exact ⟨oy ok, wy ok⟩
                 ·rintro G486 hG487 rec488 ⟨a484, a485⟩ s' ih489 hF ⟨ok, hws⟩;refine AM hws ?_;rw [BE] at hF;refine IG ?_;refine Bp rfl hF (fun hb490 hF => ?_) fun hb490 hF => ?_
                  ·refine Vl ?_;refine CD (mdl [(21, 1)]) ?_;refine Gb rfl rfl HB EI hF (fun x491 _ hF => ?_);refine AW rfl (Bj (vs := Aq x491) La EI rfl rfl) ?_;refine Cf ok rfl K6 ?_;intro i492 hi492 ok;refine Ga (j := 0) (cs' := [.sl 1 (List.map BF x491.Steps) 0, .bool x491.Attr, .str x491.Name.URI, .str x491.Name.Local]) ok rfl rfl rfl hi492 rfl EI rfl rfl (fun ok => ?_);refine A8 ?_;refine Mr ?_;refine Zt ?_;refine BW 5 113 hF (fun J494 hb493 hF => ?_) (fun J494 hb493 hF => ?_) (fun v495 hF => ?_)
                   ·refine Q0 ?_;exact tw
                   ·refine Ek ?_;refine Cv (j := 1) ok rfl rfl rfl hi472 (Bj (vs := Aq x471) La EI rfl rfl) ?_;refine Bs ?_;refine Cv (j := 0) ok rfl rfl rfl hi492 (Bj (vs := Aq x491) La EI rfl rfl) ?_;refine Bs ?_;refine cl (Bz (fun _ h hF => Kk _ _ h hF) _ hF fun x496 _ hF => ?_);refine Abd ?_;refine Iy ?_;exact tw
                   ·refine F1 ?_;refine Ml ?_;refine ih489 (v495, (IntKind.wrap .i64 (a485 + 1))) _ hF ?_;exact ⟨oy ok, wy ok⟩
                  ·refine Fm ?_;replace hF := hG487 _ (As hF);exact ⟨a484, hF, oy ok, wy ok⟩
                ·rintro a482 s' hF ⟨ok, hws⟩;refine AM hws ?_;refine BG ?_;refine Do ?_;refine Xj ?_;refine BW 3 120 hF (fun J498 hb497 hF => ?_) (fun J498 hb497 hF => ?_) (fun v499 hF => ?_)
                 ·refine Ek ?_;refine WU ?_;refine cl (Bz (fun _ h hF => EO _ h hF) _ hF fun x500 _ hF => ?_);refine Ho ?_;exact tw
                 ·refine Mi ?_;exact tw
                 ·refine A8 ?_;refine Bp rfl hF (fun hb501 hF => ?_) fun hb501 hF => ?_
                  ·refine KN ?_;replace hF := hG440 _ (As hF);replace hF := hG259 _ (As hF);exact rt
                  ·refine DD ?_;exact ⟨(), hF, oy ok, wy ok⟩
               ·rintro ⟨⟩ s' hF ⟨ok, hws⟩;refine AM hws ?_;refine Ml ?_;refine ih442 (IntKind.wrap .i64 (a438 + 1)) _ hF ?_;exact ⟨oy ok, wy ok⟩
              ·refine Fm ?_;replace hF := hG440 _ (As hF);exact ⟨(), hF, oy ok, wy ok⟩
            ·rintro ⟨⟩ s' hF ⟨ok, hws⟩;refine AM hws ?_;refine Va ?_;refine Ox ?_;refine YN ?_;refine Ac8 ?_;exact ⟨(IntKind.wrap .i64 (a256 + (x380.1.length : Int))), hF, oy ok, wy ok⟩
          ·rintro a376 s' hF ⟨ok, hws⟩;refine AM hws ?_;refine Ml ?_;refine ih261 (a376, (IntKind.wrap .i64 (a257 + 1))) _ hF ?_;exact ⟨oy ok, wy ok⟩
         ·refine Fm ?_;replace hF := hG259 _ (As hF);exact ⟨a256, hF, oy ok, wy ok⟩
       ·rintro a253 s' hF ⟨ok, hws⟩;refine AM hws ?_;refine KW ?_;refine cl (Bz (fun _ h hF => EO _ h hF) _ hF fun x502 _ hF => ?_);refine Xj ?_;refine B9 (b := (!x502)) 5 135 (.bool ((!x502) || (a253 == (x3.1.length : Int)))) (fun hb503 => ?_) (fun hb503 => ?_) ?_
        ·refine Q0 ?_;exact th
        ·refine MA ?_;refine Abv ?_;refine YN ?_;refine Abd ?_;refine Iy ?_;exact th
        refine GB ?_;exact rt
end Go.Proofs.YtmnbjcpikllknaaGreatDoor
