/- The walks. No condition. -/
import Derived.Test.YtmnbjcpikllknaaGreatDoorXR
import Derived.Test.YtmnbjcpikllknaaGreatDoorWkA
set_option linter.unusedVariables false
set_option linter.unusedSimpArgs false
set_option maxRecDepth 20000
set_option maxHeartbeats 8000000
namespace Go.Proofs.YtmnbjcpikllknaaGreatDoor
open Go.Proofs.Tryz
theorem EO {G : Ab -> Prop} (h : Heap) (hF : OptP (Df) G) : CallsA prog 30 [] h fun d h' => ∃ r, G r /\ d = .agg (Ae r) /\ h' = h := by
 refine CallsA.ret ?_;refine Bb func30 rfl Adt ntmps30 rfl (fun ok => ?_);rw [Df] at hF;refine Gy ?_;refine Cz (mdl [(0, 1)]) ?_;refine B3 ok rfl Dh ?_;intro i1 hi1 ok;refine I4 ?_;refine Cz (mdl [(1, 1)]) ?_;refine C6 (v := .agg (As (⟨[], [98]⟩ : Aa))) (Gw CA Ei rfl) ?_;refine C6 (v := .agg [.int .i64 2, .str (⟨[], [98]⟩ : Aa).URI, .str (⟨[], [98]⟩ : Aa).Local, .snil, .snil, .str []]) (Gw Dh KR rfl) ?_;refine B3 ok rfl Dh ?_;intro i2 hi2 ok;refine Oy Ae ok (fun ok => ?_);refine FU (j := 1) (cs' := [.int .i64 2, .str (⟨[], [98]⟩ : Aa).URI, .str (⟨[], [98]⟩ : Aa).Local, .snil, .snil, .str []]) ok rfl rfl rfl hi2 rfl AE rfl rfl (fun ok => ?_);refine Oy Ae ok (fun ok => ?_);refine I4 ?_;refine Cz (mdl [(8, 1), (2, 1)]) ?_;refine C6 (v := .agg (As (⟨[], [97]⟩ : Aa))) (Gw CA Ei rfl) ?_;refine B6 (j := 2) ok rfl rfl rfl hi2 (Bc (vs := [.int .i64 2, .str (⟨[], [98]⟩ : Aa).URI, .str (⟨[], [98]⟩ : Aa).Local, .snil, Dm 6 0 ([] : List Ab), .str []]) Bq AE rfl rfl) ?_;refine DW 6 (v := .agg (Ae (⟨2, (⟨[], [98]⟩ : Aa), [], [], []⟩ : Ab))) (Wd.toE (.aggC (.cons (.refl _) (.cons (.refl _) (.cons (.refl _) (.cons (.nil _) (.cons (.nil _) (.cons (.refl _) (.nil)))))))) (Ac _)) ?_;refine B6 (j := 2) ok rfl rfl rfl hi2 (Bc (vs := [.int .i64 2, .str (⟨[], [98]⟩ : Aa).URI, .str (⟨[], [98]⟩ : Aa).Local, .snil, Dm 6 0 ([] : List Ab), .str []]) Bq AE rfl rfl) ?_;refine DW 7 (v := .agg (Ae (⟨2, (⟨[], [98]⟩ : Aa), [], [], []⟩ : Ab))) (Wd.toE (.aggC (.cons (.refl _) (.cons (.refl _) (.cons (.refl _) (.cons (.nil _) (.cons (.nil _) (.cons (.refl _) (.nil)))))))) (Ac _)) ?_;refine Na (d := 6) (v := .agg [.int .i64 (⟨2, (⟨[], [98]⟩ : Aa), [], [], []⟩ : Ab).Kind, .str (⟨2, (⟨[], [98]⟩ : Aa), [], [], []⟩ : Ab).Name.URI, .str (⟨2, (⟨[], [98]⟩ : Aa), [], [], []⟩ : Ab).Name.Local, .sl 3 (List.map An (⟨2, (⟨[], [98]⟩ : Aa), [], [], []⟩ : Ab).Attrs) 0, .sl 6 (List.map Ae (⟨2, (⟨[], [98]⟩ : Aa), [], [], []⟩ : Ab).Kids) 0, .str (⟨2, (⟨[], [98]⟩ : Aa), [], [], []⟩ : Ab).Text]) (congrArg D.agg (Ac (⟨2, (⟨[], [98]⟩ : Aa), [], [], []⟩ : Ab))) ?_;refine Na (d := 7) (v := .agg [.int .i64 (⟨2, (⟨[], [98]⟩ : Aa), [], [], []⟩ : Ab).Kind, .str (⟨2, (⟨[], [98]⟩ : Aa), [], [], []⟩ : Ab).Name.URI, .str (⟨2, (⟨[], [98]⟩ : Aa), [], [], []⟩ : Ab).Name.Local, .sl 3 (List.map An (⟨2, (⟨[], [98]⟩ : Aa), [], [], []⟩ : Ab).Attrs) 0, .sl 6 (List.map Ae (⟨2, (⟨[], [98]⟩ : Aa), [], [], []⟩ : Ab).Kids) 0, .str (⟨2, (⟨[], [98]⟩ : Aa), [], [], []⟩ : Ab).Text]) (congrArg D.agg (Ac (⟨2, (⟨[], [98]⟩ : Aa), [], [], []⟩ : Ab))) ?_
 refine Yt (cs := [.int .i64 (⟨2, (⟨[], [98]⟩ : Aa), [], [], []⟩ : Ab).Kind, .str (⟨2, (⟨[], [98]⟩ : Aa), [], [], []⟩ : Ab).Name.URI, .str (⟨2, (⟨[], [98]⟩ : Aa), [], [], []⟩ : Ab).Name.Local, .sl 3 (List.map An (⟨2, (⟨[], [98]⟩ : Aa), [], [], []⟩ : Ab).Attrs) 0, .sl 6 (List.map Ae (⟨2, (⟨[], [98]⟩ : Aa), [], [], []⟩ : Ab).Kids) 0, .str (⟨2, (⟨[], [98]⟩ : Aa), [], [], []⟩ : Ab).Text, .int .i64 (⟨2, (⟨[], [98]⟩ : Aa), [], [], []⟩ : Ab).Kind, .str (⟨2, (⟨[], [98]⟩ : Aa), [], [], []⟩ : Ab).Name.URI, .str (⟨2, (⟨[], [98]⟩ : Aa), [], [], []⟩ : Ab).Name.Local, .sl 3 (List.map An (⟨2, (⟨[], [98]⟩ : Aa), [], [], []⟩ : Ab).Attrs) 0, .sl 6 (List.map Ae (⟨2, (⟨[], [98]⟩ : Aa), [], [], []⟩ : Ab).Kids) 0, .str (⟨2, (⟨[], [98]⟩ : Aa), [], [], []⟩ : Ab).Text]) (c := Ae) (e := [(⟨2, (⟨[], [98]⟩ : Aa), [], [], []⟩ : Ab), (⟨2, (⟨[], [98]⟩ : Aa), [], [], []⟩ : Ab)]) ok rfl GB rfl (by kernel_rfl) (by kernel_rfl) ?_;intro u5 zu5 ok;refine C6 (v := .agg [.int .i64 2, .str (⟨[], [97]⟩ : Aa).URI, .str (⟨[], [97]⟩ : Aa).Local, .snil, Dm 6 u5 ([(⟨2, (⟨[], [98]⟩ : Aa), [], [], []⟩ : Ab), (⟨2, (⟨[], [98]⟩ : Aa), [], [], []⟩ : Ab)]), .str []]) (Gw Dh KR (by cases u5 <;> rfl)) ?_;refine DW 9 (v := .agg [.int .i64 2, .str (⟨[], [97]⟩ : Aa).URI, .str (⟨[], [97]⟩ : Aa).Local, .sl 3 (List.map An []) 0, Dm 6 u5 ([(⟨2, (⟨[], [98]⟩ : Aa), [], [], []⟩ : Ab), (⟨2, (⟨[], [98]⟩ : Aa), [], [], []⟩ : Ab)]), .str []]) (.aggC (.cons (.refl _) (.cons (.refl _) (.cons (.refl _) (.cons (.nil _) (.cons (.refl _) (.cons (.refl _) (.nil)))))))) ?_;refine B3 ok rfl Dh ?_;intro i6 hi6 ok;refine Oy Ae ok (fun ok => ?_);refine FU (j := 1) (cs' := [.int .i64 2, .str (⟨[], [97]⟩ : Aa).URI, .str (⟨[], [97]⟩ : Aa).Local, .sl 3 (List.map An []) 0, Dm 6 u5 ([(⟨2, (⟨[], [98]⟩ : Aa), [], [], []⟩ : Ab), (⟨2, (⟨[], [98]⟩ : Aa), [], [], []⟩ : Ab)]), .str []]) ok rfl rfl rfl hi6 rfl AE rfl rfl (fun ok => ?_);refine Gi ?_;refine Wo ?_;refine Agl ?_;refine C6 (v := .agg (As (⟨[], [120]⟩ : Aa))) (Gw CA Ei rfl) ?_
 refine C6 (v := .agg (An (⟨(⟨[], [120]⟩ : Aa), [49]⟩ : Ah))) (Gw KW QW rfl) ?_;refine CD (cs := [.str (⟨(⟨[], [120]⟩ : Aa), [49]⟩ : Ah).Name.URI, .str (⟨(⟨[], [120]⟩ : Aa), [49]⟩ : Ah).Name.Local, .str (⟨(⟨[], [120]⟩ : Aa), [49]⟩ : Ah).Value]) (es := (List.map An [(⟨(⟨[], [120]⟩ : Aa), [49]⟩ : Ah)])) rfl NW rfl (by kernel_rfl) (by kernel_rfl) ?_;refine XS zu5 rfl rfl Eg AE hF (fun x8 hx8 hF => ?_);refine ZZ ?_;refine Yy (q := 6) (j := 2) (f0 := 3) (b := (⟨x8.Kind, x8.Name, [(⟨(⟨[], [120]⟩ : Aa), [49]⟩ : Ah)], x8.Kids, x8.Text⟩ : Ab)) ok zu5 rfl rfl rfl FY hx8 rfl rfl BI rfl (by rw [Ac x8, Ac (⟨x8.Kind, x8.Name, [(⟨(⟨[], [120]⟩ : Aa), [49]⟩ : Ah)], x8.Kids, x8.Text⟩ : Ab)]; rfl) (fun za9 ok => ?_);obtain ⟨a9, ha9, hF⟩ := N6 hF;rw [<- ha9] at ok za9;rw [<- ha9];have hms : Dm 6 u5 ([(⟨2, (⟨[], [98]⟩ : Aa), [], [], []⟩ : Ab), (⟨2, (⟨[], [98]⟩ : Aa), [], [], []⟩ : Ab)]) = Dm 6 u5 a9 := JL (by rw [ha9, List.length_set])
 try rw [hms] at ok
 try rw [hms]
 clear hms;refine Gi ?_;refine Wo ?_;refine Agl ?_;refine C6 (v := .agg (As (⟨[], [100]⟩ : Aa))) (Gw CA Ei rfl) ?_;refine C6 (v := .agg (An (⟨(⟨[], [100]⟩ : Aa), [77, 48, 32, 48, 32, 52, 32, 48, 32, 52, 32, 52, 90]⟩ : Ah))) (Gw KW QW rfl) ?_;refine CD (cs := [.str (⟨(⟨[], [100]⟩ : Aa), [77, 48, 32, 48, 32, 52, 32, 48, 32, 52, 32, 52, 90]⟩ : Ah).Name.URI, .str (⟨(⟨[], [100]⟩ : Aa), [77, 48, 32, 48, 32, 52, 32, 48, 32, 52, 32, 52, 90]⟩ : Ah).Name.Local, .str (⟨(⟨[], [100]⟩ : Aa), [77, 48, 32, 48, 32, 52, 32, 48, 32, 52, 32, 52, 90]⟩ : Ah).Value]) (es := (List.map An [(⟨(⟨[], [100]⟩ : Aa), [77, 48, 32, 48, 32, 52, 32, 48, 32, 52, 32, 52, 90]⟩ : Ah)])) rfl NW rfl (by kernel_rfl) (by kernel_rfl) ?_;refine XS za9 rfl rfl Eg AE hF (fun x10 hx10 hF => ?_);refine ZZ ?_;refine Yy (q := 6) (j := 2) (f0 := 3) (b := (⟨x10.Kind, x10.Name, [(⟨(⟨[], [100]⟩ : Aa), [77, 48, 32, 48, 32, 52, 32, 48, 32, 52, 32, 52, 90]⟩ : Ah)], x10.Kids, x10.Text⟩ : Ab)) ok za9 rfl rfl rfl FY hx10 rfl rfl BI rfl (by rw [Ac x10, Ac (⟨x10.Kind, x10.Name, [(⟨(⟨[], [100]⟩ : Aa), [77, 48, 32, 48, 32, 52, 32, 48, 32, 52, 32, 52, 90]⟩ : Ah)], x10.Kids, x10.Text⟩ : Ab)]; rfl) (fun za11 ok => ?_);obtain ⟨a11, ha11, hF⟩ := N6 hF;rw [<- ha11] at ok za11;rw [<- ha11];have hms : Dm 6 u5 a9 = Dm 6 u5 a11 := JL (by rw [ha11, List.length_set])
 try rw [hms] at ok
 try rw [hms]
 clear hms;refine Gi ?_;refine Aaj (c := Ae) (e := a11) (cs' := [.int .i64 2, .str (⟨[], [97]⟩ : Aa).URI, .str (⟨[], [97]⟩ : Aa).Local, .sl 3 (List.map An []) 0, .sl 6 (List.map Ae a11) 0, .str []]) 1 2 4 ok za11 rfl hi6 rfl (by decide) FY rfl rfl (fun ok => ?_);refine Kw 1 2 ok rfl rfl hi6 (fun ok => ?_);refine A2 rfl (Bc (vs := Ae (⟨2, (⟨[], [97]⟩ : Aa), [], a11, []⟩ : Ab)) Bq AE rfl (by rw [Ac]; rfl)) ?_;refine Na (d := 24) (v := .agg [.int .i64 (⟨2, (⟨[], [97]⟩ : Aa), [], a11, []⟩ : Ab).Kind, .str (⟨2, (⟨[], [97]⟩ : Aa), [], a11, []⟩ : Ab).Name.URI, .str (⟨2, (⟨[], [97]⟩ : Aa), [], a11, []⟩ : Ab).Name.Local, .sl 3 (List.map An (⟨2, (⟨[], [97]⟩ : Aa), [], a11, []⟩ : Ab).Attrs) 0, .sl 6 (List.map Ae (⟨2, (⟨[], [97]⟩ : Aa), [], a11, []⟩ : Ab).Kids) 0, .str (⟨2, (⟨[], [97]⟩ : Aa), [], a11, []⟩ : Ab).Text]) (congrArg D.agg (Ac (⟨2, (⟨[], [97]⟩ : Aa), [], a11, []⟩ : Ab))) ?_;refine CD (cs := [.int .i64 (⟨2, (⟨[], [97]⟩ : Aa), [], a11, []⟩ : Ab).Kind, .str (⟨2, (⟨[], [97]⟩ : Aa), [], a11, []⟩ : Ab).Name.URI, .str (⟨2, (⟨[], [97]⟩ : Aa), [], a11, []⟩ : Ab).Name.Local, .sl 3 (List.map An (⟨2, (⟨[], [97]⟩ : Aa), [], a11, []⟩ : Ab).Attrs) 0, .sl 6 (List.map Ae (⟨2, (⟨[], [97]⟩ : Aa), [], a11, []⟩ : Ab).Kids) 0, .str (⟨2, (⟨[], [97]⟩ : Aa), [], a11, []⟩ : Ab).Text]) (es := (List.map Ae [(⟨2, (⟨[], [97]⟩ : Aa), [], a11, []⟩ : Ab)])) rfl GB rfl (by kernel_rfl) (by simp only [List.map_cons, List.map_nil, Ac]; rfl) ?_;refine C6 (v := .agg [.int .i64 1, .str [], .str [], .snil, .sl 6 (List.map Ae [(⟨2, (⟨[], [97]⟩ : Aa), [], a11, []⟩ : Ab)]) 0, .str []]) (Gw Dh KR rfl) ?_;refine DW 26 (v := .agg [.int .i64 1, .str [], .str [], .sl 3 (List.map An []) 0, .sl 6 (List.map Ae [(⟨2, (⟨[], [97]⟩ : Aa), [], a11, []⟩ : Ab)]) 0, .str []]) (.aggC (.cons (.refl _) (.cons (.refl _) (.cons (.refl _) (.cons (.nil _) (.cons (.refl _) (.cons (.refl _) (.nil)))))))) ?_;refine FU (j := 6) (cs' := [.int .i64 1, .str [], .str [], .sl 3 (List.map An []) 0, .sl 6 (List.map Ae [(⟨2, (⟨[], [97]⟩ : Aa), [], a11, []⟩ : Ab)]) 0, .str []]) ok rfl rfl rfl hi1 rfl AE rfl rfl (fun ok => ?_);refine JO ?_;refine xr ?_;refine HP (fn := Tryz.f30) rfl (.cell rfl (CZ (j := 6) ok rfl hi1 (Bc (vs := [.int .i64 1, .str [], .str [], .sl 3 (List.map An []) 0, .sl 6 (List.map Ae [(⟨2, (⟨[], [97]⟩ : Aa), [], a11, []⟩ : Ab)]) 0, .str []]) Bq AE rfl rfl)) .nil) ?_
 exact ⟨_, _, (Wd.toE (.aggC (.cons (.refl _) (.cons (.refl _) (.cons (.refl _) (.cons (.refl _) (.cons (.refl _) (.cons (.refl _) (.nil)))))))) (Ac _)), ok.wh, _, At hF, rfl, rfl⟩
theorem NG : ∀ (N : Nat) {p0 : Ab} {p1 : List Ab} {rp1 : Nat} {G : (List Ab) -> Prop} (h : Heap) (O : List (Nat × AObj)) (hrp1 : rp1 ≠ 0) (ok : OK h ((rp1, .room) :: O)) (hF : OptP (iter Cs N (p0, p1)) G), CallsA prog 67 [.agg (Ae p0), .sl 6 (List.map Ae p1) rp1] (Hp h ((rp1, .room) :: O)) fun d h' => ∃ r, G r /\ ∃ rp1' : Nat, d = .sl 6 (List.map Ae r) rp1' /\ rp1' ≠ 0 /\ OK h ((rp1', .room) :: O) /\ h' = Hp h ((rp1', .room) :: O) := by
 intro N
 induction N with
 | zero => intro p0 p1 rp1 G h O hrp1 ok hF; exact Lv hF
 | succ N ih0 =>
 have self_ok : ∀ {β : Type} {f0 : (List Ab) -> Option β} {G : β -> Prop} {R : D -> Heap -> Prop} {p0 : Ab} {p1 : List Ab} {rp1 : Nat} (h : Heap) (O : List (Nat × AObj)) (hrp1 : rp1 ≠ 0) (ok : OK h ((rp1, .room) :: O)) (hF : OptP ((iter Cs N (p0, p1)).bind f0) G) (hk : ∀ r rp1', iter Cs N (p0, p1) = some r -> rp1' ≠ 0 -> OK h ((rp1', .room) :: O) -> OptP (f0 r) G -> R (.sl 6 (List.map Ae r) rp1') (Hp h ((rp1', .room) :: O))), CallsA prog 67 [.agg (Ae p0), .sl 6 (List.map Ae p1) rp1] (Hp h ((rp1, .room) :: O)) R := by
  intro β f0 G R p0 p1 rp1 h O hrp1 ok hF hk;obtain ⟨r0, hr, hF⟩ := Bs hF;refine (ih0 (G := fun r => r = r0) h O hrp1 ok ⟨r0, hr, rfl⟩).mono ?_;rintro _ _ ⟨r, rfl, rp, rfl, y0, ok', rfl⟩;exact hk _ _ hr y0 ok' hF
 clear ih0;intro p0 p1 rp1 G h O hrp1 ok hF;replace hF : OptP (Cs (iter Cs N) (p0, p1)) G := hF;refine CallsA.ret ?_;refine GO func67 rfl ZR ntmps67 rfl ?_;rw [Cs] at hF;refine Bz ?_;refine Co (v := .agg (Ae p0)) (cs := Ae p0) rfl rfl rfl rfl ?_;refine S_a (v := .snil) rfl ?_;refine I8 4 6 ok rfl rfl ?_;intro r1 hr1 ok;refine I4 ?_;refine Cz (mdl [(10, 2)]) ?_;refine Oe ?_;refine A2 rfl (Bc (vs := Ae p0) Bq AE (by rw [Ac]; rfl) (by rw [Ac]; rfl)) ?_;refine Na (d := 8) (v := .agg [.int .i64 p0.Kind, .str p0.Name.URI, .str p0.Name.Local, .sl 3 (List.map An p0.Attrs) 0, .sl 6 (List.map Ae p0.Kids) 0, .str p0.Text]) (congrArg D.agg (Ac p0)) ?_;refine CD (cs := [.int .i64 p0.Kind, .str p0.Name.URI, .str p0.Name.Local, .sl 3 (List.map An p0.Attrs) 0, .sl 6 (List.map Ae p0.Kids) 0, .str p0.Text]) (es := (List.map Ae [p0])) rfl GB rfl (by kernel_rfl) (by simp only [List.map_cons, List.map_nil, Ac]; rfl) ?_;refine F4 (j := 1) ok rfl rfl rfl rfl hrp1 GB NJ hF ?_;intro r2 hr2 ok hF;refine Vw ?_;refine AO hF (fun (a11 : (List Ab)) s' => ∃ g12 : Nat, g12 ≠ 0 /\ Zs h ((g12, .room) :: O) 23 [(1, .sl 6 (List.map Ae a11) g12)] s') (fun J13 hF => ?_) ?_
 ·refine Bz ?_;refine BC rfl DN BV (by rw [Ac]; rfl) ?_;refine A2 rfl (Be Ew BV (congrArg (List.drop 4) (Ac p0))) ?_;refine Xt ?_;refine BO (σ := (List Ab) × Int) hF (fun (v : (List Ab) × Int) s' => match v with | (a14, a16) => ∃ g15 : Nat, g15 ≠ 0 /\ Zs h ((g15, .room) :: O) 23 [(1, .sl 6 (List.map Ae a14) g15), (12, .sl 6 (List.map Ae p0.Kids) 0), (13, .int .i64 (p0.Kids.length : Int)), (14, .int .i64 a16)] s') ?_ ?_
  ·exact ⟨r2, hr2, oy ok, wy ok⟩
  ·rintro G17 hG18 rec19 ⟨a14, a16⟩ s' ih20 hF ⟨g15, hg15, ok, hws⟩;refine AM hws ?_;rw [Er] at hF;refine Je ?_;refine Bd rfl hF (fun hb21 hF => ?_) fun hb21 hF => ?_
   ·refine VZ ?_;refine Cz (mdl [(6, 1)]) ?_;refine F2 rfl rfl Eg AE hF (fun x22 _ hF => ?_);refine A2 rfl (Bc (vs := Ae x22) Bq AE (by rw [Ac]; rfl) (by rw [Ac]; rfl)) ?_;refine B3 ok rfl Dh ?_;intro i23 hi23 ok;refine FU (j := 0) (cs' := [.int .i64 x22.Kind, .str x22.Name.URI, .str x22.Name.Local, .sl 3 (List.map An x22.Attrs) 0, .sl 6 (List.map Ae x22.Kids) 0, .str x22.Text]) ok rfl (congrArg D.agg (Ac x22)) rfl hi23 rfl AE rfl rfl (fun ok => ?_);refine A4 ?_;refine KS ?_;refine B6 (j := 0) ok rfl rfl rfl hi23 (Bc (vs := Ae x22) Bq AE rfl (Ac x22).symm) ?_;refine Oe ?_;obtain ⟨hpe, ok⟩ := Hp_pull 1 ok rfl;rw [hpe]; clear hpe;refine cl (self_ok (p0 := x22) (p1 := a14) (rp1 := g15) h ((i23, .cells [.int .i64 x22.Kind, .str x22.Name.URI, .str x22.Name.Local, .sl 3 (List.map An x22.Attrs) 0, .sl 6 (List.map Ae x22.Kids) 0, .str x22.Text]) :: O) hg15 ok hF fun x24 r25 _ hr25 ok hF => ?_);refine Vw ?_;refine M6 ?_;refine ih20 (x24, (IntKind.wrap .i64 (a16 + 1))) _ hF ?_;exact ⟨r25, hr25, oy ok, wy ok⟩
   ·refine Ft ?_;replace hF := hG18 _ (At hF);exact ⟨a14, hF, g15, hg15, oy ok, wy ok⟩
 ·rintro a11 s' hF ⟨g12, hg12, ok, hws⟩;refine AM hws ?_;refine JJ ?_;refine SZ ?_;refine JO ?_;refine rr ?_;exact ⟨_, _, (.refl _), hy ok, _, At hF, g12, rfl, hg12, oy ok, rfl⟩
theorem N7 (p0 : Ab) (p1 : List Ab) (rp1 : Nat) {G : (List Ab) -> Prop} (h : Heap) (O : List (Nat × AObj)) (hrp1 : rp1 ≠ 0) (ok : OK h ((rp1, .room) :: O)) (hF : OptP (Fk p0 p1) G) : CallsA prog 67 [.agg (Ae p0), .sl 6 (List.map Ae p1) rp1] (Hp h ((rp1, .room) :: O)) fun d h' => ∃ r, G r /\ ∃ rp1' : Nat, d = .sl 6 (List.map Ae r) rp1' /\ rp1' ≠ 0 /\ OK h ((rp1', .room) :: O) /\ h' = Hp h ((rp1', .room) :: O) := NG FUEL h O hrp1 ok hF
theorem MJ {β : Type} {f0 : (List Ab) -> Option β} {G : β -> Prop} {R : D -> Heap -> Prop} {p0 : Ab} {p1 : List Ab} {rp1 : Nat} (h : Heap) (O : List (Nat × AObj)) (hrp1 : rp1 ≠ 0) (ok : OK h ((rp1, .room) :: O)) (hF : OptP ((Fk p0 p1).bind f0) G) (hk : ∀ r rp1', Fk p0 p1 = some r -> rp1' ≠ 0 -> OK h ((rp1', .room) :: O) -> OptP (f0 r) G -> R (.sl 6 (List.map Ae r) rp1') (Hp h ((rp1', .room) :: O))) : CallsA prog 67 [.agg (Ae p0), .sl 6 (List.map Ae p1) rp1] (Hp h ((rp1, .room) :: O)) R := by
 obtain ⟨r0, hr, hF⟩ := Bs hF;refine (N7 (G := fun r => r = r0) p0 p1 rp1 h O hrp1 ok ⟨r0, hr, rfl⟩).mono ?_;rintro _ _ ⟨r, rfl, rp, rfl, y0, ok', rfl⟩;exact hk _ _ hr y0 ok' hF
theorem Ej (p0 : List Ab) (p1 : Ab -> Option Bool) (f1 : FuncId) (fi1 ca1 : List D) (hf1 : ∀ (x0 : Ab) (G : Bool -> Prop) (h : Heap), OptP (p1 x0) G -> CallsA prog f1 (fi1 ++ [.agg (Ae x0)] ++ ca1) h fun d h' => ∃ r, G r /\ d = .bool r /\ h' = h) {G : Int -> Prop} (h : Heap) (hF : OptP (A5 p0 p1) G) : CallsA prog 104 [.sl 6 (List.map Ae p0) 0, .fn (.func f1) fi1 ca1] h fun d h' => ∃ r, G r /\ d = .int .i64 r /\ h' = h := by
 refine CallsA.ret ?_;refine Bb func104 rfl Aag ntmps104 rfl (fun ok => ?_);rw [A5] at hF;refine Pw ?_;refine AO hF (fun (_ : Unit) s' => Zs h [] 19 [] s') (fun J6 hF => ?_) ?_
 ·refine JJ ?_;refine Xt ?_;refine BO (σ := Int) hF (fun (a7 : Int) s' => Zs h [] 19 [(0, .sl 6 (List.map Ae p0) 0), (1, .fn (.func f1) fi1 ca1), (7, .int .i64 (p0.length : Int)), (8, .int .i64 a7)] s') ?_ ?_
  ·exact ⟨oy ok, wy ok⟩
  ·rintro G8 hG9 rec10 a7 s' ih11 hF ⟨ok, hws⟩;refine AM hws ?_;rw [Bf] at hF;refine Je ?_;refine Bd rfl hF (fun hb12 hF => ?_) fun hb12 hF => ?_
   ·refine WZ ?_;refine Bz ?_;refine Vu ?_;refine YX ?_;refine F2 rfl rfl Eg AE hF (fun x13 _ hF => ?_);refine A2 rfl (Bc (vs := Ae x13) Bq AE (by rw [Ac]; rfl) (by rw [Ac]; rfl)) ?_;refine Ll rfl (Bu (enc := fun r => .bool r) (fun G h hF => hf1 x13 G h hF) _ hF fun x14 _ hF => ?_) (.app (.app (.refl _) (.cons (.refl _) (.nil))) (.refl _));refine A4 ?_;refine Bd rfl hF (fun hb15 hF => ?_) fun hb15 hF => ?_
    ·refine VS ?_;replace hF := hG9 _ (At hF);exact rt
    ·refine Sr ?_;refine ih11 (IntKind.wrap .i64 (a7 + 1)) _ hF ?_;exact ⟨oy ok, wy ok⟩
   ·refine Ft ?_;replace hF := hG9 _ (At hF);exact ⟨(), hF, oy ok, wy ok⟩
 ·rintro ⟨⟩ s' hF ⟨ok, hws⟩;refine AM hws ?_;refine Ls ?_;exact rt
theorem D6 {β : Type} {f : Int -> Option β} {G : β -> Prop} {R : D -> Heap -> Prop} {p0 : List Ab} {p1 : Ab -> Option Bool} {f1 : FuncId} {fi1 ca1 : List D} (hf1 : ∀ (x0 : Ab) (G : Bool -> Prop) (h : Heap), OptP (p1 x0) G -> CallsA prog f1 (fi1 ++ [.agg (Ae x0)] ++ ca1) h fun d h' => ∃ r, G r /\ d = .bool r /\ h' = h) (h : Heap) (hF : OptP ((A5 p0 p1).bind f) G) (hk : ∀ r, A5 p0 p1 = some r -> OptP (f r) G -> R (.int .i64 r) h) : CallsA prog 104 [.sl 6 (List.map Ae p0) 0, .fn (.func f1) fi1 ca1] h R := by
 obtain ⟨r0, hr, hF⟩ := Bs hF;refine (Ej (G := fun r => r = r0) p0 p1 f1 fi1 ca1 hf1 h ⟨r0, hr, rfl⟩).mono ?_;rintro _ _ ⟨r, rfl, rfl, rfl⟩;exact hk _ hr hF
theorem DS (p0 : List Ab) (p1 : Ab -> Option Bool) (f1 : FuncId) (fi1 ca1 : List D) (hf1 : ∀ (x0 : Ab) (G : Bool -> Prop) (h : Heap), OptP (p1 x0) G -> CallsA prog f1 (fi1 ++ [.agg (Ae x0)] ++ ca1) h fun d h' => ∃ r, G r /\ d = .bool r /\ h' = h) {G : Bool -> Prop} (h : Heap) (hF : OptP (Ap p0 p1) G) : CallsA prog 68 [.sl 6 (List.map Ae p0) 0, .fn (.func f1) fi1 ca1] h fun d h' => ∃ r, G r /\ d = .bool r /\ h' = h := by
 refine CallsA.ret ?_;refine Bb func68 rfl Ad5 ntmps68 rfl (fun ok => ?_);rw [Ap] at hF;refine KU ?_;refine JJ ?_;refine Vu ?_;refine cl (D6 (f1 := f1) (fi1 := fi1) (ca1 := ca1) hf1 _ hF fun x1 _ hF => ?_);refine VK ?_;refine Fz ?_;exact rt
theorem AB {β : Type} {f : Bool -> Option β} {G : β -> Prop} {R : D -> Heap -> Prop} {p0 : List Ab} {p1 : Ab -> Option Bool} {f1 : FuncId} {fi1 ca1 : List D} (hf1 : ∀ (x0 : Ab) (G : Bool -> Prop) (h : Heap), OptP (p1 x0) G -> CallsA prog f1 (fi1 ++ [.agg (Ae x0)] ++ ca1) h fun d h' => ∃ r, G r /\ d = .bool r /\ h' = h) (h : Heap) (hF : OptP ((Ap p0 p1).bind f) G) (hk : ∀ r, Ap p0 p1 = some r -> OptP (f r) G -> R (.bool r) h) : CallsA prog 68 [.sl 6 (List.map Ae p0) 0, .fn (.func f1) fi1 ca1] h R := by
 obtain ⟨r0, hr, hF⟩ := Bs hF;refine (DS (G := fun r => r = r0) p0 p1 f1 fi1 ca1 hf1 h ⟨r0, hr, rfl⟩).mono ?_;rintro _ _ ⟨r, rfl, rfl, rfl⟩;exact hk _ hr hF
theorem OE (p0 : Int) (p1 : Int) {G : Bool -> Prop} (h : Heap) (hF : OptP (Ha p0 p1) G) : CallsA prog 106 [.int .i64 p0, .int .i64 p1] h fun d h' => ∃ r, G r /\ d = .bool r /\ h' = h := by
 refine CallsA.ret ?_;refine Bb func106 rfl Ab4 ntmps106 rfl (fun ok => ?_);rw [Ha] at hF;refine KU ?_;refine MA ?_;refine Zw ?_;refine Bd rfl hF (fun hb1 hF => ?_) fun hb1 hF => ?_
 ·refine Xs ?_;refine Bp (b := (p1 == 2)) 3 13 (.bool ((p1 == 2) || (p1 == 4))) (fun hb2 => ?_) (fun hb2 => ?_) ?_
  ·refine Ko ?_;exact th
  ·refine PO ?_;exact th
  refine Cy ?_;refine Bp (b := ((p1 == 2) || (p1 == 4))) 3 17 (.bool (((p1 == 2) || (p1 == 4)) || (p1 == 5))) (fun hb3 => ?_) (fun hb3 => ?_) ?_
  ·refine Ko ?_;exact th
  ·refine PO ?_;exact th
  refine Fz ?_;exact rt
 ·refine UO ?_;refine Bd rfl hF (fun hb4 hF => ?_) fun hb4 hF => ?_
  ·refine SF ?_;refine Bp (b := (decide (2 <= p1))) 3 25 (.bool ((decide (2 <= p1)) && (decide (p1 <= 5)))) (fun hb5 => ?_) (fun hb5 => ?_) ?_
   ·refine Ry ?_;exact th
   ·refine HS ?_;exact th
   refine Fz ?_;exact rt
  ·refine Wt ?_;exact rt
theorem MH (p0 : Ab) (p1 : Ab) {G : Bool -> Prop} (h : Heap) (hF : OptP (Dy p0 p1) G) : CallsA prog 105 [.agg (Ae p0), .iptr (Ae p1)] h fun d h' => ∃ r, G r /\ d = .bool r /\ h' = h := by
 refine CallsA.ret ?_;refine Bb func105 rfl Aa3 ntmps105 rfl (fun ok => ?_);rw [Dy] at hF;refine Bz ?_;refine Co (v := .agg (Ae p0)) (cs := Ae p0) rfl rfl rfl rfl ?_;refine R4 ?_;refine BC rfl Cm AJ (by rw [Ac]; rfl) ?_;refine A2 rfl (Be CN AJ (congrArg (List.drop 0) (Ac p1))) ?_;refine BC rfl Cm AJ (by rw [Ac]; rfl) ?_;refine A2 rfl (Be CN AJ (congrArg (List.drop 0) (Ac p0))) ?_;refine cl (Bu (fun _ h hF => OE _ _ h hF) _ hF fun x1 _ hF => ?_);refine Xo ?_;refine Fz ?_;exact rt
theorem Ou (p0 : Ab) {G : Bool -> Prop} (h : Heap) (hF : OptP (EI p0) G) : CallsA prog 69 [.agg (Ae p0)] h fun d h' => ∃ r, G r /\ d = .bool r /\ h' = h := by
 refine CallsA.ret ?_;refine Bb func69 rfl Afe ntmps69 rfl (fun ok => ?_);rw [EI] at hF;refine Bz ?_;refine Co (v := .agg (Ae p0)) (cs := Ae p0) rfl rfl rfl rfl ?_;refine R4 ?_;refine BC rfl Cm AJ (by rw [Ac]; rfl) ?_;refine A2 rfl (Be CN AJ (congrArg (List.drop 0) (Ac p0))) ?_;refine Y4 ?_;refine Bp (b := (p0.Kind != 2)) 5 12 (.bool ((p0.Kind != 2) && (decide (0 < (p0.Attrs.length : Int))))) (fun hb1 => ?_) (fun hb1 => ?_) ?_
 ·refine Eb ?_;refine BC rfl C8 BI (by rw [Ac]; rfl) ?_;refine Br ?_;refine A2 rfl (Be Ef BI (congrArg (List.drop 3) (Ac p0))) ?_;refine Br ?_;refine Zf ?_;refine Ye ?_;refine G5 ?_;exact th
 ·refine Ii ?_;refine Og ?_;exact th
 refine Ev ?_;refine AO hF (fun (a9 : Bool) s' => Zs h [] 57 [(1, .iptr (Ae p0)), (3, .bool a9)] s') (fun J10 hF => ?_) ?_
 ·refine Bz ?_;refine BC rfl Cm AJ (by rw [Ac]; rfl) ?_;refine A2 rfl (Be CN AJ (congrArg (List.drop 0) (Ac p0))) ?_;refine Zw ?_;refine Bd rfl hF (fun hb11 hF => ?_) fun hb11 hF => ?_
  ·refine KS ?_;refine Cy ?_;refine Cy ?_;refine Bp (b := ((p0.Kind != 2) && (decide (0 < (p0.Attrs.length : Int))))) 5 30 (.bool (((p0.Kind != 2) && (decide (0 < (p0.Attrs.length : Int)))) || (!((p0.Name.URI == (⟨[], []⟩ : Aa).URI) && ((p0.Name.Local == (⟨[], []⟩ : Aa).Local) && true))))) (fun hb12 => ?_) (fun hb12 => ?_) ?_
   ·refine SC ?_;exact th
   ·refine Eb ?_;refine BC rfl Fi AF (by rw [Ac]; rfl) ?_;refine Br ?_;refine A2 rfl (Bc (vs := As p0.Name) BB AF (by rw [Ac]; rfl) (by rw [Ac]; rfl)) ?_;refine Br ?_;refine C6 (v := .agg (As (⟨[], []⟩ : Aa))) (Gw CA Ei rfl) ?_;refine Br ?_;refine Dc rfl rfl (WE (b := ((p0.Name.URI == (⟨[], []⟩ : Aa).URI) && ((p0.Name.Local == (⟨[], []⟩ : Aa).Local) && true))) Dq Dp (by simp only [As, D7, EG, H1, Dp, Dq, BN, AI, Bm, BN, AI, Bm, Fw, FM, EC, FB, EF, Ey, Ea, List.drop_zero, List.drop_succ_cons, bi, bj, List.take_succ_cons, List.take_zero, Option.isSome_some, if_true, ba, Option.map_some, Nat.reduceAdd, Nat.reduceLeDiff])) ?_;refine GI ?_;exact th
   refine Cy ?_;refine Bp (b := (((p0.Kind != 2) && (decide (0 < (p0.Attrs.length : Int)))) || (!((p0.Name.URI == (⟨[], []⟩ : Aa).URI) && ((p0.Name.Local == (⟨[], []⟩ : Aa).Local) && true))))) 4 35 (.bool ((((p0.Kind != 2) && (decide (0 < (p0.Attrs.length : Int)))) || (!((p0.Name.URI == (⟨[], []⟩ : Aa).URI) && ((p0.Name.Local == (⟨[], []⟩ : Aa).Local) && true)))) || (!(p0.Text == [])))) (fun hb13 => ?_) (fun hb13 => ?_) ?_
   ·refine M7 ?_;exact th
   ·refine Eb ?_;refine BC rfl CE AI (by rw [Ac]; rfl) ?_;refine Br ?_;refine A2 rfl (Be BN AI (congrArg (List.drop 5) (Ac p0))) ?_;refine Br ?_;refine Zp ?_;refine GI ?_;exact th
   refine Ev ?_;exact ⟨((((p0.Kind != 2) && (decide (0 < (p0.Attrs.length : Int)))) || (!((p0.Name.URI == (⟨[], []⟩ : Aa).URI) && ((p0.Name.Local == (⟨[], []⟩ : Aa).Local) && true)))) || (!(p0.Text == []))), hF, oy ok, wy ok⟩
  ·refine UO ?_;refine Bd rfl hF (fun hb14 hF => ?_) fun hb14 hF => ?_
   ·refine KS ?_;refine BC rfl CE AI (by rw [Ac]; rfl) ?_;refine A2 rfl (Be BN AI (congrArg (List.drop 5) (Ac p0))) ?_;refine Zp ?_;refine Ev ?_;exact ⟨(!(p0.Text == [])), hF, oy ok, wy ok⟩
   ·refine UO ?_;refine Bd rfl hF (fun hb15 hF => ?_) fun hb15 hF => ?_
    ·refine KS ?_;refine Cy ?_;refine Cy ?_;refine Bp (b := ((p0.Kind != 2) && (decide (0 < (p0.Attrs.length : Int))))) 5 49 (.bool (((p0.Kind != 2) && (decide (0 < (p0.Attrs.length : Int)))) || (!(p0.Name.URI == [])))) (fun hb16 => ?_) (fun hb16 => ?_) ?_
     ·refine SC ?_;exact th
     ·refine Eb ?_;refine BC rfl Fi AF (by rw [Ac]; rfl) ?_;refine Br ?_;refine BC rfl Kg AI (by rw [Ac]; rfl) ?_;refine Br ?_;refine A2 rfl (Be BN AI (congrArg (List.drop 0) (congrArg (List.drop 1) (Ac p0)))) ?_;refine Br ?_;refine Zp ?_;refine GI ?_;exact th
     refine Ev ?_;exact ⟨(((p0.Kind != 2) && (decide (0 < (p0.Attrs.length : Int)))) || (!(p0.Name.URI == []))), hF, oy ok, wy ok⟩
    ·refine KS ?_;refine Cy ?_;refine Cy ?_;refine Bp (b := ((p0.Kind != 2) && (decide (0 < (p0.Attrs.length : Int))))) 5 21 (.bool (((p0.Kind != 2) && (decide (0 < (p0.Attrs.length : Int)))) || (!((p0.Name.URI == (⟨[], []⟩ : Aa).URI) && ((p0.Name.Local == (⟨[], []⟩ : Aa).Local) && true))))) (fun hb17 => ?_) (fun hb17 => ?_) ?_
     ·refine SC ?_;exact th
     ·refine Eb ?_;refine BC rfl Fi AF (by rw [Ac]; rfl) ?_;refine Br ?_;refine A2 rfl (Bc (vs := As p0.Name) BB AF (by rw [Ac]; rfl) (by rw [Ac]; rfl)) ?_;refine Br ?_;refine C6 (v := .agg (As (⟨[], []⟩ : Aa))) (Gw CA Ei rfl) ?_;refine Br ?_;refine Dc rfl rfl (WE (b := ((p0.Name.URI == (⟨[], []⟩ : Aa).URI) && ((p0.Name.Local == (⟨[], []⟩ : Aa).Local) && true))) Dq Dp (by simp only [As, D7, EG, H1, Dp, Dq, BN, AI, Bm, BN, AI, Bm, Fw, FM, EC, FB, EF, Ey, Ea, List.drop_zero, List.drop_succ_cons, bi, bj, List.take_succ_cons, List.take_zero, Option.isSome_some, if_true, ba, Option.map_some, Nat.reduceAdd, Nat.reduceLeDiff])) ?_;refine GI ?_;exact th
     refine Ev ?_;exact ⟨(((p0.Kind != 2) && (decide (0 < (p0.Attrs.length : Int)))) || (!((p0.Name.URI == (⟨[], []⟩ : Aa).URI) && ((p0.Name.Local == (⟨[], []⟩ : Aa).Local) && true)))), hF, oy ok, wy ok⟩
 ·rintro a9 s' hF ⟨ok, hws⟩;refine AM hws ?_;refine Bz ?_;refine Cy ?_;refine Cy ?_;refine BP 5 56 hF (fun J19 hb18 hF => ?_) (fun J19 hb18 hF => ?_) (fun v20 hF => ?_)
  ·refine SC ?_;exact tw
  ·refine Eb ?_;refine BC rfl DN BV (by rw [Ac]; rfl) ?_;refine Br ?_;refine A2 rfl (Be Ew BV (congrArg (List.drop 4) (Ac p0))) ?_;refine Br ?_;refine Wp (ca := [.iptr (Ae p0)]) rfl ?_;refine Br ?_;refine cl (AB (f1 := 105) (fi1 := []) (ca1 := [.iptr (Ae p0)]) (fun z0 G h hF => MH z0 p0 h hF) _ hF fun x21 _ hF => ?_);refine GI ?_;exact tw
  ·refine Fz ?_;exact rt
theorem Mm (rec0 : Ab × Int -> Option Bool) (hrec : ∀ (v : Ab × Int) (G : Bool -> Prop) (h : Heap), OptP (rec0 v) G -> CallsA prog 70 [.agg (Ae v.1), .int .i64 v.2] h fun d h' => ∃ r, G r /\ d = .bool r /\ h' = h) (p0 : Ab) (p1 : Int) {G : Bool -> Prop} (h : Heap) (hF : OptP (EQ rec0 p0 p1) G) : CallsA prog 107 [.agg (Ae p0), .iptr [.int .i64 p1]] h fun d h' => ∃ r, G r /\ d = .bool r /\ h' = h := by
 refine CallsA.ret ?_;refine Bb func107 rfl Ada ntmps107 rfl (fun ok => ?_);rw [EQ] at hF;refine Bz ?_;refine Co (v := .agg (Ae p0)) (cs := Ae p0) rfl rfl rfl rfl ?_;refine R4 ?_;refine A2 rfl (Bc (vs := Ae p0) Bq AE (by rw [Ac]; rfl) (by rw [Ac]; rfl)) ?_;refine V1 ?_;refine cl (Bu (enc := fun r => .bool r) (fun G h hF => hrec (p0, p1) G h hF) _ hF fun x1 _ hF => ?_);refine Fz ?_;exact rt
theorem Nq : ∀ (N : Nat) (v : Ab × Int) (G : Bool -> Prop) (h : Heap), OptP (iter CO N v) G -> CallsA prog 70 [.agg (Ae v.1), .int .i64 v.2] h fun d h' => ∃ r, G r /\ d = .bool r /\ h' = h := by
 intro N
 induction N with
 | zero => intro v G h hF; exact Lv hF
 | succ N ih0 =>
 rintro ⟨p0, p1⟩ G h hF;show CallsA prog 70 [.agg (Ae p0), .int .i64 p1] h fun d h' => ∃ r, G r /\ d = .bool r /\ h' = h;replace hF : OptP (CO (iter CO N) (p0, p1)) G := hF;refine CallsA.ret ?_;refine Bb func70 rfl Adu ntmps70 rfl (fun ok => ?_);rw [CO] at hF;refine Gy ?_;refine Cz (mdl [(3, 1)]) ?_;refine Co (v := .agg (Ae p0)) (cs := Ae p0) rfl rfl rfl rfl ?_;refine OO (cs := [.int .i64 p1]) ok rfl rfl rfl rfl ?_;intro i1 hi1 ok;refine Ev ?_;refine AO hF (fun (a4 : Int) s' => Zs h [(i1, .cells [.int .i64 a4])] 16 [(2, .iptr (Ae p0)), (3, .ptr i1 0)] s') (fun J5 hF => ?_) ?_
 ·refine Bz ?_;refine BC rfl Cm AJ (by rw [Ac]; rfl) ?_;refine A2 rfl (Be CN AJ (congrArg (List.drop 0) (Ac p0))) ?_;refine Om ?_;refine Bd rfl hF (fun hb6 hF => ?_) fun hb6 hF => ?_
  ·refine UY ?_;refine Rt ?_;refine Q6 ?_;refine A4 ?_;refine Bd rfl hF (fun hb7 hF => ?_) fun hb7 hF => ?_
   ·refine IT ?_;exact rt
   ·refine CU ?_;refine KS ?_;refine Rt ?_;refine Q5 ?_;refine st_ 0 ok hi1 AJ (fun ok => ?_);refine A4 ?_;exact ⟨(IntKind.wrap .i64 (p1 + 1)), hF, oy ok, wy ok⟩
  ·refine CU ?_;exact ⟨p1, hF, oy ok, wy ok⟩
 ·rintro a4 s' hF ⟨ok, hws⟩;refine AM hws ?_;refine Bz ?_;refine Kw 0 3 ok rfl rfl hi1 (fun ok => ?_);refine BC rfl DN BV (by rw [Ac]; rfl) ?_;refine A2 rfl (Be Ew BV (congrArg (List.drop 4) (Ac p0))) ?_;refine Wp (ca := [.iptr (CH a4)]) rfl ?_;refine cl (AB (f1 := 107) (fi1 := []) (ca1 := [.iptr (CH a4)]) (fun z0 G h hF => Mm (iter CO N) ih0 z0 a4 h hF) _ hF fun x10 _ hF => ?_);refine Fz ?_;exact rt
theorem NA (p0 : Ab) (p1 : Int) {G : Bool -> Prop} (h : Heap) (hF : OptP (IV p0 p1) G) : CallsA prog 70 [.agg (Ae p0), .int .i64 p1] h fun d h' => ∃ r, G r /\ d = .bool r /\ h' = h := Nq FUEL (p0, p1) G h hF
theorem KD (p0 : Ah) {G : Bool -> Prop} (h : Heap) (hF : OptP (Fr p0) G) : CallsA prog 108 [.agg (An p0)] h fun d h' => ∃ r, G r /\ d = .bool r /\ h' = h := by
 refine CallsA.ret ?_;refine Bb func108 rfl Acl ntmps108 rfl (fun ok => ?_);rw [Fr] at hF;refine Bz ?_;refine Co rfl rfl rfl rfl ?_;refine R4 ?_;refine BC rfl Io AI rfl ?_;refine Pt ?_;refine KF ?_;refine Q6 ?_;refine Fz ?_;exact rt
theorem DP (p0 : List Ah) (p1 : Ah -> Option Bool) (f1 : FuncId) (fi1 ca1 : List D) (hf1 : ∀ (x0 : Ah) (G : Bool -> Prop) (h : Heap), OptP (p1 x0) G -> CallsA prog f1 (fi1 ++ [.agg (An x0)] ++ ca1) h fun d h' => ∃ r, G r /\ d = .bool r /\ h' = h) {G : Bool -> Prop} (h : Heap) (hF : OptP (AA p0 p1) G) : CallsA prog 109 [.sl 3 (List.map An p0) 0, .fn (.func f1) fi1 ca1] h fun d h' => ∃ r, G r /\ d = .bool r /\ h' = h := by
 refine CallsA.ret ?_;refine Bb func109 rfl Z2 ntmps109 rfl (fun ok => ?_);rw [AA] at hF;refine KU ?_;refine JJ ?_;refine Vu ?_;refine cl (Cu (f1 := f1) (fi1 := fi1) (ca1 := ca1) hf1 _ hF fun x1 _ hF => ?_);refine VK ?_;refine Fz ?_;exact rt
theorem BD {β : Type} {f : Bool -> Option β} {G : β -> Prop} {R : D -> Heap -> Prop} {p0 : List Ah} {p1 : Ah -> Option Bool} {f1 : FuncId} {fi1 ca1 : List D} (hf1 : ∀ (x0 : Ah) (G : Bool -> Prop) (h : Heap), OptP (p1 x0) G -> CallsA prog f1 (fi1 ++ [.agg (An x0)] ++ ca1) h fun d h' => ∃ r, G r /\ d = .bool r /\ h' = h) (h : Heap) (hF : OptP ((AA p0 p1).bind f) G) (hk : ∀ r, AA p0 p1 = some r -> OptP (f r) G -> R (.bool r) h) : CallsA prog 109 [.sl 3 (List.map An p0) 0, .fn (.func f1) fi1 ca1] h R := by
 obtain ⟨r0, hr, hF⟩ := Bs hF;refine (DP (G := fun r => r = r0) p0 p1 f1 fi1 ca1 hf1 h ⟨r0, hr, rfl⟩).mono ?_;rintro _ _ ⟨r, rfl, rfl, rfl⟩;exact hk _ hr hF
theorem Mo (p0 : Ab) {G : Bool -> Prop} (h : Heap) (hF : OptP (Ez p0) G) : CallsA prog 71 [.agg (Ae p0)] h fun d h' => ∃ r, G r /\ d = .bool r /\ h' = h := by
 refine CallsA.ret ?_;refine Bb func71 rfl Ad6 ntmps71 rfl (fun ok => ?_);rw [Ez] at hF;refine Bz ?_;refine Co (v := .agg (Ae p0)) (cs := Ae p0) rfl rfl rfl rfl ?_;refine R4 ?_;refine S_a (v := .fn (.func 108) [] []) rfl ?_;refine Gi ?_;refine BC rfl C8 BI (by rw [Ac]; rfl) ?_;refine A2 rfl (Be Ef BI (congrArg (List.drop 3) (Ac p0))) ?_;refine Zf ?_;refine Q6 ?_;refine Cy ?_;refine Bp (b := (decide (64 < (p0.Attrs.length : Int)))) 5 13 (.bool ((decide (64 < (p0.Attrs.length : Int))) || (decide (8192 < (p0.Text.length : Int))))) (fun hb1 => ?_) (fun hb1 => ?_) ?_
 ·refine SC ?_;exact th
 ·refine Eb ?_;refine BC rfl CE AI (by rw [Ac]; rfl) ?_;refine Br ?_;refine A2 rfl (Be BN AI (congrArg (List.drop 5) (Ac p0))) ?_;refine Br ?_;refine KF ?_;refine Ye ?_;refine GI ?_;exact th
 refine Cy ?_;refine BP 5 19 hF (fun J3 hb2 hF => ?_) (fun J3 hb2 hF => ?_) (fun v4 hF => ?_)
 ·refine SC ?_;exact tw
 ·refine Eb ?_;refine BC rfl C8 BI (by rw [Ac]; rfl) ?_;refine Br ?_;refine A2 rfl (Be Ef BI (congrArg (List.drop 3) (Ac p0))) ?_;refine Br ?_;refine S_m (v := .fn (.func 108) [] []) rfl ?_;refine Br ?_;refine cl (BD (f1 := 108) (fi1 := []) (ca1 := []) (fun z0 G h hF => KD z0 h hF) _ hF fun x5 _ hF => ?_);refine GI ?_;exact tw
 ·refine Fz ?_;exact rt
theorem Jt (p0 : List By8) {G : Bool -> Prop} (h : Heap) (hF : OptP (Fd p0) G) : CallsA prog 112 [.str p0] h fun d h' => ∃ r, G r /\ d = .bool r /\ h' = h := by
 refine CallsA.ret ?_;refine Bb func112 rfl Z4 ntmps112 rfl (fun ok => ?_);rw [Fd] at hF;refine Zt ?_;refine KM ?_;refine MO ?_;refine Cy ?_;refine Bp (b := (p0 == [])) 4 11 (.bool ((p0 == []) || (decide (100 < (p0.length : Int))))) (fun hb1 => ?_) (fun hb1 => ?_) ?_
 ·refine M7 ?_;exact th
 ·refine Eb ?_;refine UZ ?_;refine KF ?_;refine Ye ?_;refine GI ?_;exact th
 refine Cy ?_;refine BP 4 16 hF (fun J3 hb2 hF => ?_) (fun J3 hb2 hF => ?_) (fun v4 hF => ?_)
 ·refine M7 ?_;exact tw
 ·refine Eb ?_;refine UZ ?_;refine cl (L_ValidString_ok _ hF fun x5 _ hF => ?_);refine Y8 ?_;exact tw
 ·refine A4 ?_;refine Bd rfl hF (fun hb6 hF => ?_) fun hb6 hF => ?_
  ·refine IT ?_;exact rt
  ·refine CU ?_;refine AO hF (fun (_ : Unit) s' => Zs h [] 35 [] s') (fun J18 hF => ?_) ?_
   ·refine KM ?_;refine Abz ok rfl Bm ?_;intro i19 hi19 ok;refine Abo ?_;refine BO (σ := Nat) hF (fun (a20 : Nat) s' => Zs h [(i19, .iter p0 a20)] 35 [(18, .ptr i19 0)] s') ?_ ?_
    ·exact ⟨oy ok, wy ok⟩
    ·rintro G21 hG22 rec23 a20 s' ih24 hF ⟨ok, hws⟩;refine AM hws ?_;rw [DK] at hF;refine Bz ?_;refine Acd (j := 0) ok rfl rfl hi19 hF (fun _ ok hF => ?_) (fun hF => ?_)
     ·refine Xv ?_;refine I4 ?_;refine Adp rfl rfl ?_;refine V0 ?_;refine Bz ?_;refine Agm ?_;refine LD ?_;refine Xs ?_;refine BP 4 29 hF (fun J26 hb25 hF => ?_) (fun J26 hb25 hF => ?_) (fun v27 hF => ?_)
      ·refine Kr ?_;refine cl (Bu (fun _ h hF => F1 _ h hF) _ hF fun x28 _ hF => ?_);refine Zi ?_;refine G5 ?_;exact tw
      ·refine Sb ?_;exact tw
      ·refine Cy ?_;refine BP 4 34 hF (fun J30 hb29 hF => ?_) (fun J30 hb29 hF => ?_) (fun v31 hF => ?_)
       ·refine M7 ?_;exact tw
       ·refine Kr ?_;refine cl (Bu (fun _ h hF => Id _ h hF) _ hF fun x32 _ hF => ?_);refine Y8 ?_;exact tw
       ·refine A4 ?_;refine Bd rfl hF (fun hb33 hF => ?_) fun hb33 hF => ?_
        ·refine IT ?_;replace hF := hG22 _ (At hF);exact rt
        ·refine CU ?_;refine ih24 (a20 + wdS p0 a20) _ hF ?_;exact ⟨oy ok, wy ok⟩
     ·refine Xv ?_;refine I4 ?_;refine Adf rfl rfl ?_;refine Ft ?_;replace hF := hG22 _ (At hF);exact ⟨(), hF, oy ok, wy ok⟩
   ·rintro ⟨⟩ s' hF ⟨ok, hws⟩;refine AM hws ?_;refine IT ?_;exact rt
theorem K7 (p0 : Int) {G : Bool -> Prop} (h : Heap) (hF : OptP (EP p0) G) : CallsA prog 187 [.int .i32 p0] h fun d h' => ∃ r, G r /\ d = .bool r /\ h' = h := by
 refine CallsA.ret ?_;refine Bb func187 rfl ZT ntmps187 rfl (fun ok => ?_);rw [EP] at hF;refine KU ?_;refine Xs ?_;refine Bp (b := (p0 == 9)) 3 8 (.bool ((p0 == 9) || (p0 == 10))) (fun hb1 => ?_) (fun hb1 => ?_) ?_
 ·refine Ko ?_;exact th
 ·refine PO ?_;exact th
 refine Cy ?_;refine Bp (b := ((p0 == 9) || (p0 == 10))) 3 12 (.bool (((p0 == 9) || (p0 == 10)) || (p0 == 13))) (fun hb2 => ?_) (fun hb2 => ?_) ?_
 ·refine Ko ?_;exact th
 ·refine PO ?_;exact th
 refine Cy ?_;refine BP 7 20 hF (fun J4 hb3 hF => ?_) (fun J4 hb3 hF => ?_) (fun v5 hF => ?_)
 ·refine Ii ?_;refine Ko ?_;exact tw
 ·refine Kr ?_;refine C6 (v := .agg (AZ (⟨32, 55295⟩ : Ao))) (Gw Ci Ct rfl) ?_;refine Br ?_;refine C6 (v := .agg (AZ (⟨57344, 65533⟩ : Ao))) (Gw Ci Ct rfl) ?_;refine Br ?_;refine C6 (v := .agg (AZ (⟨65536, 1114111⟩ : Ao))) (Gw Ci Ct rfl) ?_;refine Br ?_;refine CD (cs := [.int .i32 (⟨32, 55295⟩ : Ao).lo, .int .i32 (⟨32, 55295⟩ : Ao).hi, .int .i32 (⟨57344, 65533⟩ : Ao).lo, .int .i32 (⟨57344, 65533⟩ : Ao).hi, .int .i32 (⟨65536, 1114111⟩ : Ao).lo, .int .i32 (⟨65536, 1114111⟩ : Ao).hi]) (es := (List.map AZ [(⟨32, 55295⟩ : Ao), (⟨57344, 65533⟩ : Ao), (⟨65536, 1114111⟩ : Ao)])) rfl L0 rfl (by kernel_rfl) (by kernel_rfl) ?_;refine Br ?_;refine cl (Bu (fun _ h hF => Ja _ _ h hF) _ hF fun x6 _ hF => ?_);refine GI ?_;exact tw
 ·refine Fz ?_;exact rt
theorem NR (p0 : List By8) (p1 : Int) {G : Int × Int × Int -> Prop} (h : Heap) (hF : OptP (Gj p0 p1) G) : CallsA prog 176 [.sl 1 (List.map TS p0) 0, .int .i64 p1] h fun d h' => ∃ r, G r /\ d = .tup [.int .i32 r.1, .int .i64 r.2.1, .int .i64 r.2.2] /\ h' = h := by
 refine CallsA.ret ?_;refine Bb func176 rfl Abd ntmps176 rfl (fun ok => ?_);rw [Gj] at hF;refine WG ?_;refine Xb ?_;refine Sv ?_;refine Bp (b := (decide (p1 < 0))) 5 16 (.bool ((decide (p1 < 0)) || (decide ((p0.length : Int) <= p1)))) (fun hb1 => ?_) (fun hb1 => ?_) ?_
 ·refine SC ?_;exact th
 ·refine Kr ?_;refine Aa1 ?_;refine Zm ?_;refine YZ ?_;refine GI ?_;exact th
 refine A4 ?_;refine Bd rfl hF (fun hb2 hF => ?_) fun hb2 hF => ?_
 ·refine WG ?_;refine La ?_;exact rt
 ·refine CU ?_;refine Abj ?_;refine Ac0 rfl Hk GN (FN rfl) Acs hF (fun x3 _ hF => ?_);refine cl (L_DecodeRune_ok _ hF fun x4 _ hF => ?_);refine SM ?_;refine LD ?_;refine Gy ?_;refine Kq ?_;refine Xs ?_;refine Bp (b := (x4.1 == 65533)) 3 30 (.bool ((x4.1 == 65533) && (decide (x4.2 < 3)))) (fun hb5 => ?_) (fun hb5 => ?_) ?_
  ·refine Zd ?_;refine G5 ?_;exact th
  ·refine HS ?_;exact th
  refine Ev ?_;refine Bd rfl hF (fun hb6 hF => ?_) fun hb6 hF => ?_
  ·refine WG ?_;refine La ?_;exact rt
  ·refine GP ?_;refine cl (Bu (fun _ h hF => K7 _ h hF) _ hF fun x7 _ hF => ?_);refine Xo ?_;refine Ev ?_;refine Bd rfl hF (fun hb8 hF => ?_) fun hb8 hF => ?_
   ·refine WG ?_;refine La ?_;exact rt
   ·refine CU ?_;refine N2 ?_;refine W7 ?_;refine Jr ?_;refine La ?_;exact rt
theorem Mw (p0 : List By8) {G : Int × Int -> Prop} (h : Heap) (hF : OptP (FE p0) G) : CallsA prog 148 [.sl 1 (List.map TS p0) 0] h fun d h' => ∃ r, G r /\ d = .tup [.int .i64 r.1, .int .i64 r.2] /\ h' = h := by
 refine CallsA.ret ?_;refine Bb func148 rfl ZO ntmps148 rfl (fun ok => ?_);rw [FE] at hF;refine Bz ?_;refine LD ?_;refine AO hF (fun (_ : Unit) s' => Zs h [] 24 [] s') (fun J5 hF => ?_) ?_
 ·refine Pw ?_;refine Kq ?_;refine BO (σ := Int) hF (fun (a6 : Int) s' => Zs h [] 24 [(0, .sl 1 (List.map TS p0) 0), (4, .int .i64 a6)] s') ?_ ?_
  ·exact ⟨oy ok, wy ok⟩
  ·rintro G7 hG8 rec9 a6 s' ih10 hF ⟨ok, hws⟩;refine AM hws ?_;rw [D4] at hF;refine MA ?_;refine Oe ?_;refine Zm ?_;refine P3 ?_;refine Bd rfl hF (fun hb11 hF => ?_) fun hb11 hF => ?_
   ·refine V0 ?_;refine Abj ?_;refine cl (Bu (fun _ h hF => NR _ _ h hF) _ hF fun x12 _ hF => ?_);refine WY ?_;refine Jr ?_;refine Xb ?_;refine Sq ?_;refine Bd rfl hF (fun hb13 hF => ?_) fun hb13 hF => ?_
    ·refine N2 ?_;refine La ?_;replace hF := hG8 _ (At hF);exact rt
    ·refine CU ?_;refine Qw ?_;refine HD ?_;refine ih10 x12.2.1 _ hF ?_;exact ⟨oy ok, wy ok⟩
   ·refine Ft ?_;replace hF := hG8 _ (At hF);exact ⟨(), hF, oy ok, wy ok⟩
 ·rintro ⟨⟩ s' hF ⟨ok, hws⟩;refine AM hws ?_;refine Zv ?_;exact rt
theorem HU (p0 : List By8) {G : Bool -> Prop} (h : Heap) (hF : OptP (Fm p0) G) : CallsA prog 114 [.str p0] h fun d h' => ∃ r, G r /\ d = .bool r /\ h' = h := by
 refine CallsA.ret ?_;refine Bb func114 rfl Aaa ntmps114 rfl (fun ok => ?_);rw [Fm] at hF;refine KU ?_;refine KM ?_;refine Xm rfl rfl Hk Bm Tu ?_;refine cl (Bu (fun _ h hF => Mw _ h hF) _ hF fun x1 _ hF => ?_);refine SM ?_;refine LD ?_;refine GP ?_;refine SR ?_;refine Fz ?_;exact rt
theorem GD (p0 : Aa) {G : Bool -> Prop} (h : Heap) (hF : OptP (Da p0) G) : CallsA prog 111 [.agg (As p0)] h fun d h' => ∃ r, G r /\ d = .bool r /\ h' = h := by
 refine CallsA.ret ?_;refine Bb func111 rfl Acb ntmps111 rfl (fun ok => ?_);rw [Da] at hF;refine Bz ?_;refine Co rfl rfl rfl rfl ?_;refine R4 ?_;refine Y3 ?_;refine cl (Bu (fun _ h hF => Jt _ h hF) _ hF fun x1 _ hF => ?_);refine X5 ?_;refine Bp (b := (!x1)) 5 12 (.bool ((!x1) || (decide (100 < (p0.URI.length : Int))))) (fun hb2 => ?_) (fun hb2 => ?_) ?_
 ·refine SC ?_;exact th
 ·refine Eb ?_;refine WF ?_;refine Br ?_;refine Pt ?_;refine Br ?_;refine KF ?_;refine Ye ?_;refine GI ?_;exact th
 refine Cy ?_;refine BP 4 17 hF (fun J4 hb3 hF => ?_) (fun J4 hb3 hF => ?_) (fun v5 hF => ?_)
 ·refine M7 ?_;exact tw
 ·refine Eb ?_;refine WF ?_;refine Br ?_;refine Pt ?_;refine Br ?_;refine cl (Bu (fun _ h hF => HU _ h hF) _ hF fun x6 _ hF => ?_);refine GI ?_;exact tw
 ·refine Cy ?_;refine Bp (b := v5) 4 22 (.bool (v5 || (p0.URI == [104, 116, 116, 112, 58, 47, 47, 119, 119, 119, 46, 119, 51, 46, 111, 114, 103, 47, 50, 48, 48, 48, 47, 120, 109, 108, 110, 115, 47]))) (fun hb7 => ?_) (fun hb7 => ?_) ?_
  ·refine M7 ?_;exact th
  ·refine Eb ?_;refine WF ?_;refine Br ?_;refine Pt ?_;refine Br ?_;refine MO ?_;refine GI ?_;exact th
  refine Fz ?_;exact rt
theorem IY (p0 : Ah) {G : Bool -> Prop} (h : Heap) (hF : OptP (Ek p0) G) : CallsA prog 110 [.agg (An p0)] h fun d h' => ∃ r, G r /\ d = .bool r /\ h' = h := by
 refine CallsA.ret ?_;refine Bb func110 rfl Aas ntmps110 rfl (fun ok => ?_);rw [Ek] at hF;refine Bz ?_;refine Co rfl rfl rfl rfl ?_;refine R4 ?_;refine Y9 ?_;refine A2 rfl (Bc (vs := As p0.Name) BB AF rfl rfl) ?_;refine cl (Bu (fun _ h hF => GD _ h hF) _ hF fun x1 _ hF => ?_);refine Cy ?_;refine Bp (b := x1) 5 11 (.bool (x1 || ((p0.Name.URI == (⟨[], [120, 109, 108, 110, 115]⟩ : Aa).URI) && ((p0.Name.Local == (⟨[], [120, 109, 108, 110, 115]⟩ : Aa).Local) && true)))) (fun hb2 => ?_) (fun hb2 => ?_) ?_
 ·refine SC ?_;exact th
 ·refine Eb ?_;refine Y9 ?_;refine Br ?_;refine A2 rfl (Bc (vs := As p0.Name) BB AF rfl rfl) ?_;refine Br ?_;refine C6 (v := .agg (As (⟨[], [120, 109, 108, 110, 115]⟩ : Aa))) (Gw CA Ei rfl) ?_;refine Br ?_;refine Dc rfl rfl (RQ (b := ((p0.Name.URI == (⟨[], [120, 109, 108, 110, 115]⟩ : Aa).URI) && ((p0.Name.Local == (⟨[], [120, 109, 108, 110, 115]⟩ : Aa).Local) && true))) Dq Dp (by simp only [As, D7, EG, H1, Dp, Dq, BN, AI, Bm, BN, AI, Bm, Fw, FM, EC, FB, EF, Ey, Ea, List.drop_zero, List.drop_succ_cons, bi, bj, List.take_succ_cons, List.take_zero, Option.isSome_some, if_true, ba, Option.map_some, Nat.reduceAdd, Nat.reduceLeDiff])) ?_;refine GI ?_;exact th
 refine Fz ?_;exact rt
theorem HL (p0 : List By8) (p1 : List By8) {G : Bool -> Prop} (h : Heap) (hF : OptP (CY p0 p1) G) : CallsA prog 113 [.str p0, .str p1] h fun d h' => ∃ r, G r /\ d = .bool r /\ h' = h := by
 refine CallsA.ret ?_;refine Bb func113 rfl Aco ntmps113 rfl (fun ok => ?_);rw [CY] at hF;refine KU ?_;refine NP ?_;refine JW_step ?_;refine YF 0 rfl hF (fun (a49 : Int) s' => Zs h [] 123 [(0, .str p0), (1, .str p1), (5, .int .i64 a49)] s') ?_ ?_
 ·rintro a49 s' hF ⟨ok, hws⟩;refine AM hws ?_;refine Y7 ?_;refine JB rfl Bm (FN rfl) NB hF (fun x52 _ hF => ?_);refine Pv ?_;refine Gi ?_;refine LV ?_;refine E8 ?_;refine JB rfl Bm (FN rfl) NB hF (fun x53 _ hF => ?_);refine Pv ?_;refine A4 ?_;refine AO hF (fun (a80 : (List By8)) s' => Zs h [] 123 [(1, .str a80)] s') (fun J81 hF => ?_) ?_
  ·refine KM ?_;refine Abz ok rfl Bm ?_;intro i82 hi82 ok;refine Abo ?_;refine BO (σ := (List By8) × Nat) hF (fun (v : (List By8) × Nat) s' => match v with | (a83, a84) => Zs h [(i82, .iter x52 a84)] 123 [(1, .str a83), (67, .ptr i82 0)] s') ?_ ?_
   ·exact ⟨oy ok, wy ok⟩
   ·rintro G85 hG86 rec87 ⟨a83, a84⟩ s' ih88 hF ⟨ok, hws⟩;refine AM hws ?_;rw [Bi] at hF;refine Bz ?_;refine Acd (j := 0) ok rfl rfl hi82 hF (fun _ ok hF => ?_) (fun hF => ?_)
    ·refine Xv ?_;refine I4 ?_;refine Adp rfl rfl ?_;refine V0 ?_;refine Bz ?_;refine Xv ?_;refine HD ?_;refine Gy ?_;refine KM ?_;refine KF ?_;refine Om ?_;refine Bd rfl hF (fun hb89 hF => ?_) fun hb89 hF => ?_
     ·refine IT ?_;replace hF := hG86 _ (At hF);exact rt
     ·refine CU ?_;refine KM ?_;refine cl (L_DecodeRuneInString_ok _ hF fun x90 _ hF => ?_);refine SM ?_;refine LD ?_;refine Y7 ?_;refine JB rfl Bm (FN rfl) NB hF (fun x91 _ hF => ?_);refine Pv ?_;refine I4 ?_;refine N2 ?_;refine Om ?_;refine Bd rfl hF (fun hb92 hF => ?_) fun hb92 hF => ?_
      ·refine Ft ?_;refine ih88 (x91, (a84 + wdS x52 a84)) _ hF ?_;exact ⟨oy ok, wy ok⟩
      ·refine CU ?_;refine AO hF (fun (v : Int × Int) s' => match v with | (a94, a95) => Zs h [(i82, .iter x52 (a84 + wdS x52 a84))] 123 [(1, .str x91), (10, .int .i32 a94), (11, .int .i32 a95), (67, .ptr i82 0)] s') (fun J96 hF => ?_) ?_
       ·refine N2 ?_;refine P3 ?_;refine Bd rfl hF (fun hb97 hF => ?_) fun hb97 hF => ?_
        ·refine Qw ?_;refine E8 ?_;refine LD ?_;exact ⟨(x90.1, (rnS x52 a84)), hF, oy ok, wy ok⟩
        ·refine CU ?_;exact ⟨((rnS x52 a84), x90.1), hF, oy ok, wy ok⟩
       ·rintro ⟨a94, a95⟩ s' hF ⟨ok, hws⟩;refine AM hws ?_;refine MA ?_;refine P3 ?_;refine Bd rfl hF (fun hb98 hF => ?_) fun hb98 hF => ?_
        ·refine MA ?_;refine X6 ?_;refine Cy ?_;refine Bp (b := (decide (65 <= a94))) 3 97 (.bool ((decide (65 <= a94)) && (decide (a94 <= 90)))) (fun hb99 => ?_) (fun hb99 => ?_) ?_
         ·refine Ry ?_;exact th
         ·refine HS ?_;exact th
         refine Cy ?_;refine Bp (b := ((decide (65 <= a94)) && (decide (a94 <= 90)))) 6 104 (.bool (((decide (65 <= a94)) && (decide (a94 <= 90))) && (a95 == (IntKind.wrap .i32 ((IntKind.wrap .i32 (a94 + 97)) - 65))))) (fun hb100 => ?_) (fun hb100 => ?_) ?_
         ·refine Kr ?_;refine Pu ?_;refine Q5 ?_;refine Br ?_;refine Mt ?_;refine XA ?_;exact th
         ·refine Ii ?_;refine U6 ?_;exact th
         refine A4 ?_;refine Bd rfl hF (fun hb101 hF => ?_) fun hb101 hF => ?_
         ·refine Ft ?_;refine ih88 (x91, (a84 + wdS x52 a84)) _ hF ?_;exact ⟨oy ok, wy ok⟩
         ·refine Wt ?_;replace hF := hG86 _ (At hF);exact rt
        ·refine CU ?_;refine GP ?_;refine cl (L_SimpleFold_ok _ hF fun x102 _ hF => ?_);refine HD ?_;refine AO hF (fun (a107 : Int) s' => Zs h [(i82, .iter x52 (a84 + wdS x52 a84))] 123 [(1, .str x91), (11, .int .i32 a95), (13, .int .i32 a107), (67, .ptr i82 0)] s') (fun J108 hF => ?_) ?_
         ·refine Kq ?_;refine BO (σ := Int) hF (fun (a109 : Int) s' => Zs h [(i82, .iter x52 (a84 + wdS x52 a84))] 123 [(1, .str x91), (10, .int .i32 a94), (11, .int .i32 a95), (13, .int .i32 a109), (67, .ptr i82 0)] s') ?_ ?_
          ·exact ⟨oy ok, wy ok⟩
          ·rintro G110 hG111 rec112 a109 s' ih113 hF ⟨ok, hws⟩;refine AM hws ?_;rw [Bt] at hF;refine XH ?_;refine Y4 ?_;refine Bp (b := (a109 != a94)) 4 114 (.bool ((a109 != a94) && (decide (a109 < a95)))) (fun hb114 => ?_) (fun hb114 => ?_) ?_
           ·refine Kr ?_;refine Pu ?_;refine X7 ?_;refine G5 ?_;exact th
           ·refine Sb ?_;exact th
           refine A4 ?_;refine Bd rfl hF (fun hb115 hF => ?_) fun hb115 hF => ?_
           ·refine V0 ?_;refine Qw ?_;refine cl (L_SimpleFold_ok _ hF fun x116 _ hF => ?_);refine HD ?_;refine ih113 x116 _ hF ?_;exact ⟨oy ok, wy ok⟩
           ·refine Ft ?_;replace hF := hG111 _ (At hF);exact ⟨a109, hF, oy ok, wy ok⟩
         ·rintro a107 s' hF ⟨ok, hws⟩;refine AM hws ?_;refine XH ?_;refine Om ?_;refine Bd rfl hF (fun hb117 hF => ?_) fun hb117 hF => ?_
          ·refine Ft ?_;refine ih88 (x91, (a84 + wdS x52 a84)) _ hF ?_;exact ⟨oy ok, wy ok⟩
          ·refine Wt ?_;replace hF := hG86 _ (At hF);exact rt
    ·refine Xv ?_;refine I4 ?_;refine Adf rfl rfl ?_;refine Ft ?_;replace hF := hG86 _ (At hF);exact ⟨a83, hF, oy ok, wy ok⟩
  ·rintro a80 s' hF ⟨ok, hws⟩;refine AM hws ?_;refine KM ?_;refine KF ?_;refine Rs ?_;refine Fz ?_;exact rt
 ·intro J50 hJ51 hF;refine Pw ?_;refine AO hF (fun (_ : Unit) s' => Zs h [] 123 [(0, .str p0), (1, .str p1)] s') (fun J142 hF => ?_) ?_
  ·refine KM ?_;refine KF ?_;refine LV ?_;refine KF ?_;refine Ack rfl rfl ?_;refine HD ?_;refine Kq ?_;refine BO (σ := Int) hF (fun (a143 : Int) s' => Zs h [] 123 [(0, .str p0), (1, .str p1), (5, .int .i64 a143), (6, .int .i64 (if (p1.length : Int) < (p0.length : Int) then (p1.length : Int) else (p0.length : Int)))] s') ?_ ?_
   ·exact ⟨oy ok, wy ok⟩
   ·rintro G144 hG145 rec146 a143 s' ih147 hF ⟨ok, hws⟩;refine AM hws ?_;rw [BH] at hF;refine XH ?_;refine P3 ?_;refine Bd rfl hF (fun hb148 hF => ?_) fun hb148 hF => ?_
    ·refine CU ?_;refine AO hF (fun (_ : Unit) s' => Zs h [] 123 [(0, .str p0), (1, .str p1), (5, .int .i64 a143), (6, .int .i64 (if (p1.length : Int) < (p0.length : Int) then (p1.length : Int) else (p0.length : Int)))] s') (fun J160 hF => ?_) ?_
     ·refine Kq ?_;refine Y7 ?_;refine I1 rfl rfl Bm hF (fun x161 _ hF => ?_);refine HD ?_;refine Y7 ?_;refine I1 rfl rfl Bm hF (fun x162 _ hF => ?_);refine HD ?_;refine XH ?_;refine Dc rfl rfl (Ag6 ..) ?_;refine VK ?_;refine A4 ?_;refine Bd rfl hF (fun hb163 hF => ?_) fun hb163 hF => ?_
      ·refine NX ?_
       repeat (first | with_reducible refine Exit.sel_goto ?_ | with_reducible refine Exit.blk_goto ?_)
       refine KE rfl ?_;replace hF := hG145 _ (At hF);refine hJ51 a143 _ hF ?_;exact ⟨oy ok, wy ok⟩
      ·refine Oh ?_;refine N2 ?_;refine Om ?_;refine Bd rfl hF (fun hb164 hF => ?_) fun hb164 hF => ?_
       ·refine Ft ?_;exact ⟨(), hF, oy ok, wy ok⟩
       ·refine CU ?_;refine AO hF (fun (v : Int × Int) s' => match v with | (a166, a167) => Zs h [] 123 [(0, .str p0), (1, .str p1), (5, .int .i64 a143), (6, .int .i64 (if (p1.length : Int) < (p0.length : Int) then (p1.length : Int) else (p0.length : Int))), (7, .int .u8 a166), (8, .int .u8 a167)] s') (fun J168 hF => ?_) ?_
        ·refine N2 ?_;refine P3 ?_;refine Bd rfl hF (fun hb169 hF => ?_) fun hb169 hF => ?_
         ·refine Qw ?_;refine E8 ?_;refine LD ?_;exact ⟨((x162.toNat : Int), (x161.toNat : Int)), hF, oy ok, wy ok⟩
         ·refine CU ?_;exact ⟨((x161.toNat : Int), (x162.toNat : Int)), hF, oy ok, wy ok⟩
        ·rintro ⟨a166, a167⟩ s' hF ⟨ok, hws⟩;refine AM hws ?_;refine MA ?_;refine X6 ?_;refine Cy ?_;refine Bp (b := (decide (65 <= a166))) 3 47 (.bool ((decide (65 <= a166)) && (decide (a166 <= 90)))) (fun hb170 => ?_) (fun hb170 => ?_) ?_
         ·refine Ry ?_;exact th
         ·refine HS ?_;exact th
         refine Cy ?_;refine Bp (b := ((decide (65 <= a166)) && (decide (a166 <= 90)))) 6 54 (.bool (((decide (65 <= a166)) && (decide (a166 <= 90))) && (a167 == (IntKind.wrap .u8 ((IntKind.wrap .u8 (a166 + 97)) - 65))))) (fun hb171 => ?_) (fun hb171 => ?_) ?_
         ·refine Kr ?_;refine Pu ?_;refine Q5 ?_;refine Br ?_;refine Mt ?_;refine XA ?_;exact th
         ·refine Ii ?_;refine U6 ?_;exact th
         refine A4 ?_;refine Bd rfl hF (fun hb172 hF => ?_) fun hb172 hF => ?_
         ·refine Ft ?_;exact ⟨(), hF, oy ok, wy ok⟩
         ·refine Wt ?_;replace hF := hG145 _ (At hF);exact rt
     ·rintro ⟨⟩ s' hF ⟨ok, hws⟩;refine AM hws ?_;refine Sw ?_;refine ih147 (IntKind.wrap .i64 (a143 + 1)) _ hF ?_;exact ⟨oy ok, wy ok⟩
    ·refine Ft ?_;replace hF := hG145 _ (At hF);exact ⟨(), hF, oy ok, wy ok⟩
  ·rintro ⟨⟩ s' hF ⟨ok, hws⟩;refine AM hws ?_;refine Gy ?_;refine KM ?_;refine KF ?_;refine LV ?_;refine KF ?_;refine Rs ?_;refine Fz ?_;exact rt
theorem Kd (p0 : Ab) {G : Bool -> Prop} (h : Heap) (hF : OptP (Cv p0) G) : CallsA prog 72 [.agg (Ae p0)] h fun d h' => ∃ r, G r /\ d = .bool r /\ h' = h := by
 refine CallsA.ret ?_;refine Bb func72 rfl Aeo ntmps72 rfl (fun ok => ?_);rw [Cv] at hF;refine Bz ?_;refine Co (v := .agg (Ae p0)) (cs := Ae p0) rfl rfl rfl rfl ?_;refine R4 ?_;refine S_a (v := .fn (.func 110) [] []) rfl ?_;refine Zl ?_;refine BC rfl Cm AJ (by rw [Ac]; rfl) ?_;refine A2 rfl (Be CN AJ (congrArg (List.drop 0) (Ac p0))) ?_;refine Zw ?_;refine Bd rfl hF (fun hb1 hF => ?_) fun hb1 hF => ?_
 ·refine Bz ?_;refine BC rfl Fi AF (by rw [Ac]; rfl) ?_;refine A2 rfl (Bc (vs := As p0.Name) BB AF (by rw [Ac]; rfl) (by rw [Ac]; rfl)) ?_;refine cl (Bu (fun _ h hF => GD _ h hF) _ hF fun x2 _ hF => ?_);refine Cy ?_;refine BP 5 16 hF (fun J4 hb3 hF => ?_) (fun J4 hb3 hF => ?_) (fun v5 hF => ?_)
  ·refine SC ?_;exact tw
  ·refine Eb ?_;refine BC rfl C8 BI (by rw [Ac]; rfl) ?_;refine Br ?_;refine A2 rfl (Be Ef BI (congrArg (List.drop 3) (Ac p0))) ?_;refine Br ?_;refine S_m (v := .fn (.func 110) [] []) rfl ?_;refine Br ?_;refine cl (BD (f1 := 110) (fi1 := []) (ca1 := []) (fun z0 G h hF => IY z0 h hF) _ hF fun x6 _ hF => ?_);refine GI ?_;exact tw
  ·refine Fz ?_;exact rt
 ·refine UO ?_;refine Bd rfl hF (fun hb7 hF => ?_) fun hb7 hF => ?_
  ·refine Bz ?_;refine BC rfl Fi AF (by rw [Ac]; rfl) ?_;refine BC rfl Ip AI (by rw [Ac]; rfl) ?_;refine A2 rfl (Be BN AI (congrArg (List.drop 1) (congrArg (List.drop 1) (Ac p0)))) ?_;refine cl (Bu (fun _ h hF => Jt _ h hF) _ hF fun x8 _ hF => ?_);refine X5 ?_;refine BP 5 29 hF (fun J10 hb9 hF => ?_) (fun J10 hb9 hF => ?_) (fun v11 hF => ?_)
   ·refine SC ?_;exact tw
   ·refine Eb ?_;refine BC rfl Fi AF (by rw [Ac]; rfl) ?_;refine Br ?_;refine BC rfl Ip AI (by rw [Ac]; rfl) ?_;refine Br ?_;refine A2 rfl (Be BN AI (congrArg (List.drop 1) (congrArg (List.drop 1) (Ac p0)))) ?_;refine Br ?_;refine cl (Bu (fun _ h hF => HL _ _ h hF) _ hF fun x12 _ hF => ?_);refine GI ?_;exact tw
   ·refine Fz ?_;exact rt
  ·refine Wt ?_;exact rt
theorem JV (p0 : Ah) {G : Bool -> Prop} (h : Heap) (hF : OptP (EN p0) G) : CallsA prog 115 [.agg (An p0)] h fun d h' => ∃ r, G r /\ d = .bool r /\ h' = h := by
 refine CallsA.ret ?_;refine Bb func115 rfl Ac5 ntmps115 rfl (fun ok => ?_);rw [EN] at hF;refine Bz ?_;refine Co rfl rfl rfl rfl ?_;refine R4 ?_;refine BC rfl Io AI rfl ?_;refine Pt ?_;refine cl (Bu (fun _ h hF => HU _ h hF) _ hF fun x1 _ hF => ?_);refine Fz ?_;exact rt
theorem Lk (p0 : Ab) {G : Bool -> Prop} (h : Heap) (hF : OptP (De p0) G) : CallsA prog 73 [.agg (Ae p0)] h fun d h' => ∃ r, G r /\ d = .bool r /\ h' = h := by
 refine CallsA.ret ?_;refine Bb func73 rfl Afk ntmps73 rfl (fun ok => ?_);rw [De] at hF;refine Bz ?_;refine Co (v := .agg (Ae p0)) (cs := Ae p0) rfl rfl rfl rfl ?_;refine R4 ?_;refine BC rfl CE AI (by rw [Ac]; rfl) ?_;refine A2 rfl (Be BN AI (congrArg (List.drop 5) (Ac p0))) ?_;refine cl (Bu (fun _ h hF => HU _ h hF) _ hF fun x1 _ hF => ?_);refine Cy ?_;refine BP 4 10 hF (fun J3 hb2 hF => ?_) (fun J3 hb2 hF => ?_) (fun v4 hF => ?_)
 ·refine M7 ?_;exact tw
 ·refine Eb ?_;refine BC rfl C8 BI (by rw [Ac]; rfl) ?_;refine Br ?_;refine A2 rfl (Be Ef BI (congrArg (List.drop 3) (Ac p0))) ?_;refine Br ?_;refine cl (BD (f1 := 115) (fi1 := []) (ca1 := []) (fun z0 G h hF => JV z0 h hF) _ hF fun x5 _ hF => ?_);refine GI ?_;exact tw
 ·refine Fz ?_;exact rt
theorem F3 (p0 : List By8) {G : Bool -> Prop} (h : Heap) (hF : OptP (Dg p0) G) : CallsA prog 139 [.str p0] h fun d h' => ∃ r, G r /\ d = .bool r /\ h' = h := by
 refine CallsA.ret ?_;refine Bb func139 rfl Z0 ntmps139 rfl (fun ok => ?_);rw [Dg] at hF;refine KU ?_;refine KM ?_;refine LV ?_;refine Zp ?_;refine Fz ?_;exact rt
theorem Fa (p0 : List By8) (p1 : List By8) {G : Int -> Prop} (h : Heap) (hF : OptP (Cc p0 p1) G) : CallsA prog 97 [.str p0, .str p1] h fun d h' => ∃ r, G r /\ d = .int .i64 r /\ h' = h := by
 refine CallsA.ret ?_;refine Bb func97 rfl Aei ntmps97 rfl (fun ok => ?_);rw [Cc] at hF;refine Pw ?_;refine KM ?_;refine cl (Bu (fun _ h hF => F3 _ h hF) _ hF fun x1 _ hF => ?_);refine Ev ?_;refine KM ?_;refine cl (Bu (fun _ h hF => F3 _ h hF) _ hF fun x2 _ hF => ?_);refine Y5 ?_;refine U5 ?_;refine Bd rfl hF (fun hb3 hF => ?_) fun hb3 hF => ?_
 ·refine UY ?_;refine U5 ?_;refine Bd rfl hF (fun hb4 hF => ?_) fun hb4 hF => ?_
  ·refine Ls ?_;exact rt
  ·refine Zu ?_;exact rt
 ·refine Oh ?_;refine Bz ?_;refine U5 ?_;refine Bd rfl hF (fun hb5 hF => ?_) fun hb5 hF => ?_
  ·refine Ls ?_;exact rt
  ·refine Oh ?_;refine KM ?_;refine LV ?_;refine Dc rfl rfl Acv ?_;refine A4 ?_;refine Bd rfl hF (fun hb6 hF => ?_) fun hb6 hF => ?_
   ·refine Ls ?_;exact rt
   ·refine Oh ?_;refine KM ?_;refine LV ?_;refine Dc rfl rfl Z3 ?_;refine A4 ?_;refine Bd rfl hF (fun hb7 hF => ?_) fun hb7 hF => ?_
    ·refine Ls ?_;exact rt
    ·refine Zu ?_;exact rt
theorem MI (p0 : List Int) {G : Int -> Prop} (h : Heap) (hF : OptP (FS p0) G) : CallsA prog 96 [.sl 1 (List.map CH p0) 0] h fun d h' => ∃ r, G r /\ d = .int .i64 r /\ h' = h := by
 refine CallsA.ret ?_;refine Bb func96 rfl Af1 ntmps96 rfl (fun ok => ?_);rw [FS] at hF;refine Pw ?_;refine Pw ?_;refine AO hF (fun (_ : Unit) s' => Zs h [] 18 [(3, .int .i64 0)] s') (fun J5 hF => ?_) ?_
 ·refine Zk ?_;refine Lt ?_;refine BO (σ := Int) hF (fun (a6 : Int) s' => Zs h [] 18 [(3, .int .i64 0), (6, .sl 1 (List.map CH p0) 0), (7, .int .i64 (p0.length : Int)), (8, .int .i64 a6)] s') ?_ ?_
  ·exact ⟨oy ok, wy ok⟩
  ·rintro G7 hG8 rec9 a6 s' ih10 hF ⟨ok, hws⟩;refine AM hws ?_;rw [BJ] at hF;refine Je ?_;refine Bd rfl hF (fun hb11 hF => ?_) fun hb11 hF => ?_
   ·refine YV ?_;refine Bz ?_;refine F2 rfl rfl Ee AJ hF (fun x12 _ hF => ?_);refine V1 ?_;refine HD ?_;refine N2 ?_;refine Sq ?_;refine Bd rfl hF (fun hb13 hF => ?_) fun hb13 hF => ?_
    ·refine VS ?_;replace hF := hG8 _ (At hF);exact rt
    ·refine Sr ?_;refine ih10 (IntKind.wrap .i64 (a6 + 1)) _ hF ?_;exact ⟨oy ok, wy ok⟩
   ·refine Ft ?_;replace hF := hG8 _ (At hF);exact ⟨(), hF, oy ok, wy ok⟩
 ·rintro ⟨⟩ s' hF ⟨ok, hws⟩;refine AM hws ?_;refine VS ?_;exact rt
theorem ID (p0 : Aa) (p1 : Aa) {G : Int -> Prop} (h : Heap) (hF : OptP (EB p0 p1) G) : CallsA prog 58 [.agg (As p0), .agg (As p1)] h fun d h' => ∃ r, G r /\ d = .int .i64 r /\ h' = h := by
 refine CallsA.ret ?_;refine Bb func58 rfl Ae2 ntmps58 rfl (fun ok => ?_);rw [EB] at hF;refine Bz ?_;refine Co rfl rfl rfl rfl ?_;refine Co rfl rfl rfl rfl ?_;refine HD ?_;refine Gy ?_;refine QM (mdl [(6, 3), (8, 3), (11, 3), (13, 3)]) [0, 1, 2, 3, 5, 6, 7, 8, 4, 9, 10, 11, 12] [_, _, _, _, _, _, _, _, _, _, _, _, _] (by kernel_rfl) rfl rfl (by kernel_rfl) ?_;refine WF ?_;refine Pt ?_;refine WF ?_;refine Pt ?_;refine Y3 ?_;refine Y3 ?_;refine cl (Bu (fun _ h hF => Fa _ _ h hF) _ hF fun x1 _ hF => ?_);refine cl (Bu (fun _ h hF => Fa _ _ h hF) _ hF fun x2 _ hF => ?_);refine CD (cs := [.int .i64 x1, .int .i64 x2]) (es := (List.map CH [x1, x2])) rfl Fs rfl (by kernel_rfl) (by kernel_rfl) ?_;refine cl (Bu (fun _ h hF => MI _ h hF) _ hF fun x3 _ hF => ?_);refine QC ?_;exact rt
theorem Jw (p0 : Ab) {G : Bool -> Prop} (h : Heap) (hF : OptP (BW p0) G) : CallsA prog 74 [.agg (Ae p0)] h fun d h' => ∃ r, G r /\ d = .bool r /\ h' = h := by
 refine CallsA.ret ?_;refine Bb func74 rfl Aen ntmps74 rfl (fun ok => ?_);rw [BW] at hF;refine Bz ?_;refine Co (v := .agg (Ae p0)) (cs := Ae p0) rfl rfl rfl rfl ?_;refine Ev ?_;refine AO hF (fun (_ : Unit) s' => Zs h [] 30 [] s') (fun J15 hF => ?_) ?_
 ·refine Bz ?_;refine BC rfl C8 BI (by rw [Ac]; rfl) ?_;refine A2 rfl (Be Ef BI (congrArg (List.drop 3) (Ac p0))) ?_;refine Zf ?_;refine Lt ?_;refine BO (σ := Int) hF (fun (a16 : Int) s' => Zs h [] 30 [(1, .iptr (Ae p0)), (6, .int .i64 (p0.Attrs.length : Int)), (7, .int .i64 a16)] s') ?_ ?_
  ·exact ⟨oy ok, wy ok⟩
  ·rintro G17 hG18 rec19 a16 s' ih20 hF ⟨ok, hws⟩;refine AM hws ?_;rw [C4] at hF;refine Je ?_;refine Bd rfl hF (fun hb21 hF => ?_) fun hb21 hF => ?_
   ·refine WZ ?_;refine AO hF (fun (a27 : Bool) s' => Zs h [] 30 [(1, .iptr (Ae p0)), (6, .int .i64 (p0.Attrs.length : Int)), (7, .int .i64 a16), (28, .bool a27)] s') (fun J28 hF => ?_) ?_
    ·refine G2 (mdl [(14, 3), (19, 3), (21, 3), (25, 3)]) (by kernel_rfl) (by kernel_rfl) ?_;refine E8 ?_;refine Q6 ?_;refine Cy ?_;refine Rg (b := (decide (0 < a16))) hF (fun hb29 hF => ?_) (fun hb30 hF => ?_)
     ·refine Eb ?_;refine BC rfl C8 BI (by rw [Ac]; rfl) ?_;refine Br ?_;refine A2 rfl (Be Ef BI (congrArg (List.drop 3) (Ac p0))) ?_;refine X9 ?_;refine XN ?_;refine F2 rfl rfl Hv EM hF (fun x31 _ hF => ?_);refine Br ?_;refine Y9 ?_;refine Br ?_;refine A2 rfl (Bc (vs := As x31.Name) BB AF rfl rfl) ?_;refine Br ?_;refine BC rfl C8 BI (by rw [Ac]; rfl) ?_;refine Br ?_;refine A2 rfl (Be Ef BI (congrArg (List.drop 3) (Ac p0))) ?_;refine X9 ?_;refine F2 rfl rfl Hv EM hF (fun x32 _ hF => ?_);refine Br ?_;refine Y9 ?_;refine Br ?_;refine A2 rfl (Bc (vs := As x32.Name) BB AF rfl rfl) ?_;refine Br ?_;refine cl (Bu (fun _ h hF => ID _ _ h hF) _ hF fun x33 _ hF => ?_);refine YZ ?_;refine G5 ?_;exact ⟨(decide (0 <= x33)), hF, oy ok, wy ok⟩
     ·refine Sy ?_;refine Ii ?_;refine Sb ?_;exact ⟨false, hF, oy ok, wy ok⟩
    ·rintro a27 s' hF ⟨ok, hws⟩;refine AM hws ?_;refine Bd rfl hF (fun hb34 hF => ?_) fun hb34 hF => ?_
     ·refine IT ?_;replace hF := hG18 _ (At hF);exact rt
     ·refine Sr ?_;refine ih20 (IntKind.wrap .i64 (a16 + 1)) _ hF ?_;exact ⟨oy ok, wy ok⟩
   ·refine Ft ?_;replace hF := hG18 _ (At hF);exact ⟨(), hF, oy ok, wy ok⟩
 ·rintro ⟨⟩ s' hF ⟨ok, hws⟩;refine AM hws ?_;refine IT ?_;exact rt
theorem GR (p0 : List By8) (p1 : List By8) {G : Bool -> Prop} (h : Heap) (hF : OptP (CM p0 p1) G) : CallsA prog 150 [.str p0, .str p1] h fun d h' => ∃ r, G r /\ d = .bool r /\ h' = h := by
 refine CallsA.ret ?_;refine Bb func150 rfl Aa7 ntmps150 rfl (fun ok => ?_);rw [CM] at hF;refine KU ?_;refine KM ?_;refine KF ?_;refine LV ?_;refine KF ?_;refine Adc ?_;refine BP 10 20 hF (fun J2 hb1 hF => ?_) (fun J2 hb1 hF => ?_) (fun v3 hF => ?_)
 ·refine Eb ?_;refine UZ ?_;refine UZ ?_;refine KF ?_;refine Br ?_;refine UZ ?_;refine KF ?_;refine Br ?_;refine XN ?_;refine JB rfl Bm (FN rfl) NB hF (fun x4 _ hF => ?_);refine Br ?_;refine UZ ?_;refine MO ?_;refine G5 ?_;exact tw
 ·refine Sy ?_;refine U6 ?_;exact tw
 ·refine Fz ?_;exact rt
theorem HQ (p0 : List By8) (p1 : List By8) {G : Bool -> Prop} (h : Heap) (hF : OptP (C5 p0 p1) G) : CallsA prog 117 [.str p0, .str p1] h fun d h' => ∃ r, G r /\ d = .bool r /\ h' = h := by
 refine CallsA.ret ?_;refine Bb func117 rfl Acq ntmps117 rfl (fun ok => ?_);rw [C5] at hF;refine KU ?_;refine KM ?_;refine LV ?_;refine cl (Bu (fun _ h hF => GR _ _ h hF) _ hF fun x1 _ hF => ?_);refine Fz ?_;exact rt
theorem Jn (p0 : Ab) {G : Bool -> Prop} (h : Heap) (hF : OptP (Cd p0) G) : CallsA prog 75 [.agg (Ae p0)] h fun d h' => ∃ r, G r /\ d = .bool r /\ h' = h := by
 refine CallsA.ret ?_;refine Bb func75 rfl Ae3 ntmps75 rfl (fun ok => ?_);rw [Cd] at hF;refine Bz ?_;refine Co (v := .agg (Ae p0)) (cs := Ae p0) rfl rfl rfl rfl ?_;refine Ev ?_;refine AO hF (fun (_ : Unit) s' => Zs h [] 71 [(1, .iptr (Ae p0))] s') (fun J11 hF => ?_) ?_
 ·refine Bz ?_;refine BC rfl DN BV (by rw [Ac]; rfl) ?_;refine A2 rfl (Be Ew BV (congrArg (List.drop 4) (Ac p0))) ?_;refine Xt ?_;refine BO (σ := Int) hF (fun (a12 : Int) s' => Zs h [] 71 [(1, .iptr (Ae p0)), (6, .sl 6 (List.map Ae p0.Kids) 0), (7, .int .i64 (p0.Kids.length : Int)), (8, .int .i64 a12)] s') ?_ ?_
  ·exact ⟨oy ok, wy ok⟩
  ·rintro G13 hG14 rec15 a12 s' ih16 hF ⟨ok, hws⟩;refine AM hws ?_;rw [C0] at hF;refine Je ?_;refine Bd rfl hF (fun hb17 hF => ?_) fun hb17 hF => ?_
   ·refine VZ ?_;refine Cz (mdl [(4, 1)]) ?_;refine E8 ?_;refine F2 rfl rfl Eg AE hF (fun x18 _ hF => ?_);refine A2 rfl (Bc (vs := Ae x18) Bq AE (by rw [Ac]; rfl) (by rw [Ac]; rfl)) ?_;refine B3 ok rfl Dh ?_;intro i19 hi19 ok;refine Jr ?_;refine FU (j := 0) (cs' := [.int .i64 x18.Kind, .str x18.Name.URI, .str x18.Name.Local, .sl 3 (List.map An x18.Attrs) 0, .sl 6 (List.map Ae x18.Kids) 0, .str x18.Text]) ok rfl (congrArg D.agg (Ac x18)) rfl hi19 rfl AE rfl rfl (fun ok => ?_);refine A4 ?_;refine GP ?_;refine Q6 ?_;refine Cy ?_;refine Bp (b := (decide (0 < a12))) 4 19 (.bool ((decide (0 < a12)) && (x18.Kind == 3))) (fun hb20 => ?_) (fun hb20 => ?_) ?_
    ·refine Eb ?_;refine YJ ?_;refine Vr ?_;refine XA ?_;exact th
    ·refine Sb ?_;exact th
    refine Cy ?_;refine BP 9 29 hF (fun J22 hb21 hF => ?_) (fun J22 hb21 hF => ?_) (fun v23 hF => ?_)
    ·refine Eb ?_;refine BC rfl DN BV (by rw [Ac]; rfl) ?_;refine Br ?_;refine A2 rfl (Be Ew BV (congrArg (List.drop 4) (Ac p0))) ?_;refine X9 ?_;refine XN ?_;refine F2 rfl rfl Eg AE hF (fun x24 _ hF => ?_);refine Br ?_;refine BC rfl Cm AJ (by rw [Ac]; rfl) ?_;refine Br ?_;refine A2 rfl (Be CN AJ (congrArg (List.drop 0) (Ac x24))) ?_;refine XA ?_;exact tw
    ·refine Sy ?_;refine Og ?_;exact tw
    ·refine A4 ?_;refine Bd rfl hF (fun hb25 hF => ?_) fun hb25 hF => ?_
     ·refine IT ?_;replace hF := hG14 _ (At hF);exact rt
     ·refine Sr ?_;refine ih16 (IntKind.wrap .i64 (a12 + 1)) _ hF ?_;exact ⟨oy ok, wy ok⟩
   ·refine Ft ?_;replace hF := hG14 _ (At hF);exact ⟨(), hF, oy ok, wy ok⟩
 ·rintro ⟨⟩ s' hF ⟨ok, hws⟩;refine AM hws ?_;refine UY ?_;refine BC rfl Cm AJ (by rw [Ac]; rfl) ?_;refine A2 rfl (Be CN AJ (congrArg (List.drop 0) (Ac p0))) ?_;refine Zw ?_;refine Bd rfl hF (fun hb26 hF => ?_) fun hb26 hF => ?_
  ·refine Bz ?_;refine BC rfl CE AI (by rw [Ac]; rfl) ?_;refine A2 rfl (Be BN AI (congrArg (List.drop 5) (Ac p0))) ?_;refine MO ?_;refine Fz ?_;exact rt
  ·refine UO ?_;refine Bd rfl hF (fun hb27 hF => ?_) fun hb27 hF => ?_
   ·refine Bz ?_;refine BC rfl CE AI (by rw [Ac]; rfl) ?_;refine A2 rfl (Be BN AI (congrArg (List.drop 5) (Ac p0))) ?_;refine cl (L_Contains_ok _ hF fun x28 _ hF => ?_);refine Cy ?_;refine BP 4 47 hF (fun J30 hb29 hF => ?_) (fun J30 hb29 hF => ?_) (fun v31 hF => ?_)
    ·refine M7 ?_;exact tw
    ·refine Eb ?_;refine BC rfl CE AI (by rw [Ac]; rfl) ?_;refine Br ?_;refine A2 rfl (Be BN AI (congrArg (List.drop 5) (Ac p0))) ?_;refine Br ?_;refine cl (Bu (fun _ h hF => HQ _ _ h hF) _ hF fun x32 _ hF => ?_);refine GI ?_;exact tw
    ·refine Cy ?_;refine BP 4 52 hF (fun J34 hb33 hF => ?_) (fun J34 hb33 hF => ?_) (fun v35 hF => ?_)
     ·refine M7 ?_;exact tw
     ·refine Eb ?_;refine BC rfl CE AI (by rw [Ac]; rfl) ?_;refine Br ?_;refine A2 rfl (Be BN AI (congrArg (List.drop 5) (Ac p0))) ?_;refine Br ?_;refine cl (L_Contains_ok _ hF fun x36 _ hF => ?_);refine GI ?_;exact tw
     ·refine Fz ?_;exact rt
   ·refine UO ?_;refine Bd rfl hF (fun hb37 hF => ?_) fun hb37 hF => ?_
    ·refine AO hF (fun (a45 : Bool) s' => Zs h [] 71 [(2, .bool a45)] s') (fun J46 hF => ?_) ?_
     ·refine G2 (mdl [(56, 3), (60, 3), (65, 3), (67, 3)]) (by kernel_rfl) (by kernel_rfl) ?_;refine BC rfl CE AI (by rw [Ac]; rfl) ?_;refine A2 rfl (Be BN AI (congrArg (List.drop 5) (Ac p0))) ?_;refine cl (L_Contains_ok _ hF fun x47 _ hF => ?_);refine Cy ?_;refine Rg (b := x47) hF (fun hb48 hF => ?_) (fun hb49 hF => ?_)
      ·refine RH ?_;refine U3 ?_;refine Cy ?_;refine Te ?_;refine WW ?_;refine PE (v := .bool _) rfl rfl rfl ?_;refine Ev ?_;exact ⟨true, hF, oy ok, wy ok⟩
      ·refine Eb ?_;refine BC rfl CE AI (by rw [Ac]; rfl) ?_;refine Br ?_;refine A2 rfl (Be BN AI (congrArg (List.drop 5) (Ac p0))) ?_;refine Br ?_;refine cl (L_Contains_ok _ hF fun x50 _ hF => ?_);refine A4 ?_;refine UV ?_;refine Cy ?_;refine Rg (b := x50) hF (fun hb51 hF => ?_) (fun hb52 hF => ?_)
       ·refine Ii ?_;refine NM ?_;refine U3 ?_;refine Ev ?_;exact ⟨true, hF, oy ok, wy ok⟩
       ·refine Eb ?_;refine BC rfl CE AI (by rw [Ac]; rfl) ?_;refine Br ?_;refine A2 rfl (Be BN AI (congrArg (List.drop 5) (Ac p0))) ?_;refine Br ?_;refine BC rfl CE AI (by rw [Ac]; rfl) ?_;refine Br ?_;refine A2 rfl (Be BN AI (congrArg (List.drop 5) (Ac p0))) ?_;refine Br ?_;refine cl (L_TrimLeft_ok _ hF fun x53 _ hF => ?_);refine Br ?_;refine Zp ?_;refine A4 ?_;refine UV ?_;refine Ev ?_;exact ⟨(!(p0.Text == x53)), hF, oy ok, wy ok⟩
     ·rintro a45 s' hF ⟨ok, hws⟩;refine AM hws ?_;refine Aah ?_;exact rt
    ·refine Wt ?_;exact rt
theorem Mv (p0 : Ab) {G : Int -> Prop} (h : Heap) (hF : OptP (Dd p0) G) : CallsA prog 33 [.agg (Ae p0)] h fun d h' => ∃ r, G r /\ d = .int .i64 r /\ h' = h := by
 refine CallsA.ret ?_;refine Bb func33 rfl Aec ntmps33 rfl (fun ok => ?_);rw [Dd] at hF;refine Bz ?_;refine Co (v := .agg (Ae p0)) (cs := Ae p0) rfl rfl rfl rfl ?_;refine HD ?_;refine Bz ?_;refine A2 rfl (Bc (vs := Ae p0) Bq AE (by rw [Ac]; rfl) (by rw [Ac]; rfl)) ?_;refine cl (CallsA.ghost (ds := [.agg (Ae p0), .snil]) 1 6 ZR ok rfl fun r3 hr3 ok => MJ (p0 := p0) (p1 := []) (rp1 := r3) h [] hr3 ok hF fun x1 r2 _ hr2 ok hF => ?_);refine SZ ?_;refine DW 3 (v := .sl 6 (List.map Ae x1) 0) (.zero _ _ _) ?_;refine I4 ?_;refine Kq ?_;refine Bz ?_;refine BC rfl Cm AJ (by rw [Ac]; rfl) ?_;refine A2 rfl (Be CN AJ (congrArg (List.drop 0) (Ac p0))) ?_;refine Y4 ?_;refine BP 3 16 hF (fun J5 hb4 hF => ?_) (fun J5 hb4 hF => ?_) (fun v6 hF => ?_)
 ·refine Ko ?_;exact tw
 ·refine Rz ?_;refine cl (AB (f1 := 69) (fi1 := []) (ca1 := []) (fun z0 G h hF => Ou z0 h hF) _ hF fun x7 _ hF => ?_);refine GI ?_;exact tw
 ·refine Ev ?_;refine Bd rfl hF (fun hb8 hF => ?_) fun hb8 hF => ?_
  ·refine Ls ?_;exact rt
  ·refine Bz ?_;refine A2 rfl (Bc (vs := Ae p0) Bq AE (by rw [Ac]; rfl) (by rw [Ac]; rfl)) ?_;refine cl (Bu (fun _ h hF => NA _ _ h hF) _ hF fun x9 _ hF => ?_);refine Ev ?_;refine Bd rfl hF (fun hb10 hF => ?_) fun hb10 hF => ?_
   ·refine Ls ?_;exact rt
   ·refine JJ ?_;refine Afv ?_;refine Mt ?_;refine Q6 ?_;refine Cy ?_;refine BP 3 28 hF (fun J12 hb11 hF => ?_) (fun J12 hb11 hF => ?_) (fun v13 hF => ?_)
    ·refine Ko ?_;exact tw
    ·refine Rz ?_;refine cl (AB (f1 := 71) (fi1 := []) (ca1 := []) (fun z0 G h hF => Mo z0 h hF) _ hF fun x14 _ hF => ?_);refine GI ?_;exact tw
    ·refine Ev ?_;refine Bd rfl hF (fun hb15 hF => ?_) fun hb15 hF => ?_
     ·refine Ls ?_;exact rt
     ·refine JJ ?_;refine cl (AB (f1 := 72) (fi1 := []) (ca1 := []) (fun z0 G h hF => Kd z0 h hF) _ hF fun x16 _ hF => ?_);refine Ev ?_;refine Bd rfl hF (fun hb17 hF => ?_) fun hb17 hF => ?_
      ·refine Ls ?_;exact rt
      ·refine JJ ?_;refine cl (AB (f1 := 73) (fi1 := []) (ca1 := []) (fun z0 G h hF => Lk z0 h hF) _ hF fun x18 _ hF => ?_);refine Ev ?_;refine Bd rfl hF (fun hb19 hF => ?_) fun hb19 hF => ?_
       ·refine Ls ?_;exact rt
       ·refine JJ ?_;refine cl (AB (f1 := 74) (fi1 := []) (ca1 := []) (fun z0 G h hF => Jw z0 h hF) _ hF fun x20 _ hF => ?_);refine Ev ?_;refine Bd rfl hF (fun hb21 hF => ?_) fun hb21 hF => ?_
        ·refine Ls ?_;exact rt
        ·refine JJ ?_;refine cl (AB (f1 := 75) (fi1 := []) (ca1 := []) (fun z0 G h hF => Jn z0 h hF) _ hF fun x22 _ hF => ?_);refine Ev ?_;refine Bd rfl hF (fun hb23 hF => ?_) fun hb23 hF => ?_
         ·refine Ls ?_;exact rt
         ·refine CU ?_;refine Pw ?_;refine AO hF (fun (a34 : Int) s' => Zs h [] 56 [(4, .int .i64 a34)] s') (fun J35 hF => ?_) ?_
          ·refine Bz ?_;refine BC rfl DN BV (by rw [Ac]; rfl) ?_;refine A2 rfl (Be Ew BV (congrArg (List.drop 4) (Ac p0))) ?_;refine Xt ?_;refine BO (σ := Int × Int) hF (fun (v : Int × Int) s' => match v with | (a36, a37) => Zs h [] 56 [(4, .int .i64 a36), (42, .sl 6 (List.map Ae p0.Kids) 0), (43, .int .i64 (p0.Kids.length : Int)), (44, .int .i64 a37)] s') ?_ ?_
           ·exact ⟨oy ok, wy ok⟩
           ·rintro G38 hG39 rec40 ⟨a36, a37⟩ s' ih41 hF ⟨ok, hws⟩;refine AM hws ?_;rw [D1] at hF;refine Je ?_;refine Bd rfl hF (fun hb42 hF => ?_) fun hb42 hF => ?_
            ·refine CU ?_;refine AO hF (fun (a46 : Int) s' => Zs h [] 56 [(4, .int .i64 a46), (42, .sl 6 (List.map Ae p0.Kids) 0), (43, .int .i64 (p0.Kids.length : Int)), (44, .int .i64 a37)] s') (fun J47 hF => ?_) ?_
             ·refine Rw ?_;refine Cz (mdl [(6, 1)]) ?_;refine F2 rfl rfl Eg AE hF (fun x48 _ hF => ?_);refine A2 rfl (Bc (vs := Ae x48) Bq AE (by rw [Ac]; rfl) (by rw [Ac]; rfl)) ?_;refine B3 ok rfl Dh ?_;intro i49 hi49 ok;refine FU (j := 0) (cs' := [.int .i64 x48.Kind, .str x48.Name.URI, .str x48.Name.Local, .sl 3 (List.map An x48.Attrs) 0, .sl 6 (List.map Ae x48.Kids) 0, .str x48.Text]) ok rfl (congrArg D.agg (Ac x48)) rfl hi49 rfl AE rfl rfl (fun ok => ?_);refine Gi ?_;refine YJ ?_;refine Rt ?_;refine Om ?_;refine Bd rfl hF (fun hb50 hF => ?_) fun hb50 hF => ?_
              ·refine Sw ?_;exact ⟨(IntKind.wrap .i64 (a36 + 1)), hF, oy ok, wy ok⟩
              ·refine CU ?_;exact ⟨a36, hF, oy ok, wy ok⟩
             ·rintro a46 s' hF ⟨ok, hws⟩;refine AM hws ?_;refine M6 ?_;refine ih41 (a46, (IntKind.wrap .i64 (a37 + 1))) _ hF ?_;exact ⟨oy ok, wy ok⟩
            ·refine Ft ?_;replace hF := hG39 _ (At hF);exact ⟨a36, hF, oy ok, wy ok⟩
          ·rintro a34 s' hF ⟨ok, hws⟩;refine AM hws ?_;refine MA ?_;refine Sq ?_;refine Bd rfl hF (fun hb51 hF => ?_) fun hb51 hF => ?_
           ·refine Ls ?_;exact rt
           ·refine Zu ?_;exact rt
theorem MD (p0 : List Ag) (p1 : Ai) {G : (List Ak) -> Prop} (h : Heap) (hF : OptP (FD p0 p1) G) : CallsA prog 34 [.sl 7 (List.map Aj p0) 0, .agg (Ar p1)] h fun d h' => ∃ r, G r /\ d = .sl 4 (List.map Aq r) 0 /\ h' = h := by
 refine CallsA.ret ?_;refine Bb func34 rfl Ad3 ntmps34 rfl (fun ok => ?_);rw [FD] at hF;refine Bz ?_;refine Co rfl rfl rfl rfl ?_;refine S_a (v := .snil) rfl ?_;refine DW 4 (v := .sl 4 (List.map Aq []) 0) (.nil _) ?_;refine Gi ?_;refine S_a (v := .snil) rfl ?_;refine I8 5 4 ok rfl rfl ?_;intro r1 hr1 ok;refine A4 ?_;refine AO hF (fun (a60 : (List Ak)) s' => ∃ g61 : Nat, g61 ≠ 0 /\ Zs h [(g61, .room)] 46 [(5, .sl 4 (List.map Aq a60) g61)] s') (fun J62 hF => ?_) ?_
 ·refine Adn ?_;refine Lt ?_;refine BO (σ := (List Ak) × Int) hF (fun (v : (List Ak) × Int) s' => match v with | (a63, a65) => ∃ g64 : Nat, g64 ≠ 0 /\ Zs h [(g64, .room)] 46 [(3, .iptr (Ar p1)), (5, .sl 4 (List.map Aq a63) g64), (10, .sl 7 (List.map Aj p0) 0), (11, .int .i64 (p0.length : Int)), (12, .int .i64 a65)] s') ?_ ?_
  ·exact ⟨r1, hr1, oy ok, wy ok⟩
  ·rintro G66 hG67 rec68 ⟨a63, a65⟩ s' ih69 hF ⟨g64, hg64, ok, hws⟩;refine AM hws ?_;rw [D0] at hF;refine Je ?_;refine Bd rfl hF (fun hb70 hF => ?_) fun hb70 hF => ?_
   ·refine CU ?_;refine AO hF (fun (a97 : (List Ak)) s' => ∃ g98 : Nat, g98 ≠ 0 /\ Zs h [(g98, .room)] 46 [(3, .iptr (Ar p1)), (5, .sl 4 (List.map Aq a97) g98), (10, .sl 7 (List.map Aj p0) 0), (11, .int .i64 (p0.length : Int)), (12, .int .i64 a65)] s') (fun J99 hF => ?_) ?_
    ·refine Rw ?_;refine Cz (mdl [(7, 1)]) ?_;refine F2 rfl rfl CS Bw hF (fun x100 _ hF => ?_);refine A2 rfl (Bc (vs := Aj x100) El Bw rfl rfl) ?_;refine B3 ok rfl F5 ?_;intro i101 hi101 ok;refine FU (j := 0) (cs' := [.sl 1 (List.map CH x100.path) 0, .int .i64 x100.node.Kind, .str x100.node.Name.URI, .str x100.node.Name.Local, .sl 3 (List.map An x100.node.Attrs) 0, .sl 6 (List.map Ae x100.node.Kids) 0, .str x100.node.Text]) ok rfl rfl rfl hi101 rfl Bw rfl rfl (fun ok => ?_);refine Gi ?_;refine Kw 0 7 ok rfl rfl hi101 (fun ok => ?_);refine Adq ?_;refine BC rfl C8 BI rfl ?_;refine A2 rfl (Be Ef BI rfl) ?_;refine Zf ?_;refine Lt ?_;refine BO (σ := (List Ak) × Int) hF (fun (v : (List Ak) × Int) s' => match v with | (a104, a106) => ∃ g105 : Nat, g105 ≠ 0 /\ Zs h [(g105, .room)] 46 [(3, .iptr (Ar p1)), (5, .sl 4 (List.map Aq a104) g105), (7, .iptr (Aj x100)), (10, .sl 7 (List.map Aj p0) 0), (11, .int .i64 (p0.length : Int)), (12, .int .i64 a65), (18, .sl 3 (List.map An x100.node.Attrs) 0), (19, .int .i64 (x100.node.Attrs.length : Int)), (20, .int .i64 a106)] s') ?_ ?_
     ·exact ⟨g64, hg64, oy ok, wy ok⟩
     ·rintro G107 hG108 rec109 ⟨a104, a106⟩ s' ih110 hF ⟨g105, hg105, ok, hws⟩;refine AM hws ?_;rw [Dw] at hF;refine Je ?_;refine Bd rfl hF (fun hb111 hF => ?_) fun hb111 hF => ?_
      ·refine CU ?_;refine AO hF (fun (a120 : (List Ak)) s' => ∃ g121 : Nat, g121 ≠ 0 /\ Zs h [(g121, .room)] 46 [(3, .iptr (Ar p1)), (5, .sl 4 (List.map Aq a120) g121), (7, .iptr (Aj x100)), (10, .sl 7 (List.map Aj p0) 0), (11, .int .i64 (p0.length : Int)), (12, .int .i64 a65), (18, .sl 3 (List.map An x100.node.Attrs) 0), (19, .int .i64 (x100.node.Attrs.length : Int)), (20, .int .i64 a106)] s') (fun J122 hF => ?_) ?_
       ·refine Rw ?_;refine Cz (mdl [(9, 1)]) ?_;refine F2 rfl rfl Hv EM hF (fun x123 _ hF => ?_);refine A2 rfl (Bc (vs := An x123) N9 EM rfl rfl) ?_;refine B3 ok rfl KW ?_;intro i124 hi124 ok;refine FU (j := 0) (cs' := [.str x123.Name.URI, .str x123.Name.Local, .str x123.Value]) ok rfl rfl rfl hi124 rfl EM rfl rfl (fun ok => ?_);refine Gi ?_;refine BC rfl Hj AI rfl ?_;refine Pt ?_;refine MO ?_;refine Cy ?_;refine Bp (b := (p1.test == [42])) 6 33 (.bool ((p1.test == [42]) || ((x123.Name.URI == p1.name.URI) && ((x123.Name.Local == p1.name.Local) && true)))) (fun hb125 => ?_) (fun hb125 => ?_) ?_
        ·refine Ii ?_;refine SG ?_;exact th
        ·refine Eb ?_;refine C3 rfl JZ AF ?_;refine Br ?_;refine B6 (j := 0) ok rfl rfl rfl hi124 (Bc (vs := As x123.Name) BB AF rfl rfl) ?_;refine Br ?_;refine BC rfl GU AF rfl ?_;refine Br ?_;refine A2 rfl (Bc (vs := As p1.name) BB AF rfl rfl) ?_;refine Br ?_;refine Dc rfl rfl (RQ (b := ((x123.Name.URI == p1.name.URI) && ((x123.Name.Local == p1.name.Local) && true))) Dq Dp (by simp only [As, D7, EG, H1, Dp, Dq, BN, AI, Bm, BN, AI, Bm, Fw, FM, EC, FB, EF, Ey, Ea, List.drop_zero, List.drop_succ_cons, bi, bj, List.take_succ_cons, List.take_zero, Option.isSome_some, if_true, ba, Option.map_some, Nat.reduceAdd, Nat.reduceLeDiff])) ?_;refine GI ?_;exact th
        refine A4 ?_;refine Bd rfl hF (fun hb126 hF => ?_) fun hb126 hF => ?_
        ·refine Adb ?_;show AU prog (mdl []) true #[] [] _ _;refine Kw 0 9 ok rfl rfl hi124 (fun ok => ?_);refine A4 ?_;refine QM (mdl [(42, 2), (36, 3), (39, 3)]) [0, 1, 2, 4, 5, 3, 6, 7, 8, 9] [_, _, _, _, _, _, _, _, _, _] (by kernel_rfl) rfl rfl (by kernel_rfl) ?_;refine Oe ?_;refine W9 ?_;refine Aar ?_;refine Y9 ?_;refine A2 rfl (Bc (vs := As x123.Name) BB AF rfl rfl) ?_;refine cl (L_CloneInts_ok _ hF fun x129 _ hF => ?_);refine C6 (v := .agg (Aq (⟨x129, true, x123.Name⟩ : Ak))) (Gw KQ Nm rfl) ?_;refine CD (cs := [.sl 1 (List.map CH (⟨x129, true, x123.Name⟩ : Ak).Steps) 0, .bool (⟨x129, true, x123.Name⟩ : Ak).Attr, .str (⟨x129, true, x123.Name⟩ : Ak).Name.URI, .str (⟨x129, true, x123.Name⟩ : Ak).Name.Local]) (es := (List.map Aq [(⟨x129, true, x123.Name⟩ : Ak)])) rfl KI rfl (by kernel_rfl) (by kernel_rfl) ?_;refine F4 (j := 1) ok rfl rfl rfl rfl hg105 KI QU hF ?_;intro r130 hr130 ok hF;refine Vw ?_;exact ⟨(a104 ++ [(⟨x129, true, x123.Name⟩ : Ak)]), hF, r130, hr130, oy ok, wy ok⟩
        ·refine CU ?_;exact ⟨a104, hF, g105, hg105, oy ok, wy ok⟩
       ·rintro a120 s' hF ⟨g121, hg121, ok, hws⟩;refine AM hws ?_;refine M6 ?_;refine ih110 (a120, (IntKind.wrap .i64 (a106 + 1))) _ hF ?_;exact ⟨g121, hg121, oy ok, wy ok⟩
      ·refine Ft ?_;replace hF := hG108 _ (At hF);exact ⟨a104, hF, g105, hg105, oy ok, wy ok⟩
    ·rintro a97 s' hF ⟨g98, hg98, ok, hws⟩;refine AM hws ?_;refine M6 ?_;refine ih69 (a97, (IntKind.wrap .i64 (a65 + 1))) _ hF ?_;exact ⟨g98, hg98, oy ok, wy ok⟩
   ·refine Ft ?_;replace hF := hG67 _ (At hF);exact ⟨a63, hF, g64, hg64, oy ok, wy ok⟩
 ·rintro a60 s' hF ⟨g61, hg61, ok, hws⟩;refine AM hws ?_;refine JJ ?_;refine DW 45 (v := .sl 4 (List.map Aq a60) 0) (.zero _ _ _) ?_;refine SZ ?_;refine JO ?_;exact rt
theorem Hh (p0 : List Int) (p1 : List Int) {G : Bool -> Prop} (h : Heap) (hF : OptP (Ch p0 p1) G) : CallsA prog 77 [.sl 1 (List.map CH p0) 0, .sl 1 (List.map CH p1) 0] h fun d h' => ∃ r, G r /\ d = .bool r /\ h' = h := by
 refine CallsA.ret ?_;refine Bb func77 rfl Ad9 ntmps77 rfl (fun ok => ?_);rw [Ch] at hF;refine Zt ?_;refine Zk ?_;refine Oe ?_;refine UU ?_;refine Sq ?_;refine Bd rfl hF (fun hb1 hF => ?_) fun hb1 hF => ?_
 ·refine IT ?_;exact rt
 ·refine CU ?_;refine AO hF (fun (_ : Unit) s' => Zs h [] 26 [] s') (fun J7 hF => ?_) ?_
  ·refine Zk ?_;refine Lt ?_;refine BO (σ := Int) hF (fun (a8 : Int) s' => Zs h [] 26 [(0, .sl 1 (List.map CH p0) 0), (1, .sl 1 (List.map CH p1) 0), (12, .int .i64 (p0.length : Int)), (13, .int .i64 a8)] s') ?_ ?_
   ·exact ⟨oy ok, wy ok⟩
   ·rintro G9 hG10 rec11 a8 s' ih12 hF ⟨ok, hws⟩;refine AM hws ?_;rw [BE] at hF;refine Je ?_;refine Bd rfl hF (fun hb13 hF => ?_) fun hb13 hF => ?_
    ·refine WZ ?_;refine Gy ?_;refine G2 (mdl [(19, 3), (23, 3)]) (by kernel_rfl) (by kernel_rfl) ?_;refine YX ?_;refine F2 rfl rfl Ee AJ hF (fun x14 _ hF => ?_);refine V1 ?_;refine YX ?_;refine F2 rfl rfl Ee AJ hF (fun x15 _ hF => ?_);refine V1 ?_;refine Sq ?_;refine Bd rfl hF (fun hb16 hF => ?_) fun hb16 hF => ?_
     ·refine IT ?_;replace hF := hG10 _ (At hF);exact rt
     ·refine Sr ?_;refine ih12 (IntKind.wrap .i64 (a8 + 1)) _ hF ?_;exact ⟨oy ok, wy ok⟩
    ·refine Ft ?_;replace hF := hG10 _ (At hF);exact ⟨(), hF, oy ok, wy ok⟩
  ·rintro ⟨⟩ s' hF ⟨ok, hws⟩;refine AM hws ?_;refine IT ?_;exact rt
theorem MB (p0 : List Ag) {G : (List Ag) -> Prop} (h : Heap) (hF : OptP (Fy p0) G) : CallsA prog 35 [.sl 7 (List.map Aj p0) 0] h fun d h' => ∃ r, G r /\ d = .sl 7 (List.map Aj r) 0 /\ h' = h := by
 refine CallsA.ret ?_;refine Bb func35 rfl Afr ntmps35 rfl (fun ok => ?_);rw [Fy] at hF;refine Bz ?_;refine S_a (v := .snil) rfl ?_;refine DW 2 (v := .sl 7 (List.map Aj []) 0) (.nil _) ?_;refine Gi ?_;refine S_a (v := .snil) rfl ?_;refine I8 3 7 ok rfl rfl ?_;intro r1 hr1 ok;refine A4 ?_;refine AO hF (fun (a62 : (List Ag)) s' => ∃ g63 : Nat, g63 ≠ 0 /\ Zs h [(g63, .room)] 56 [(3, .sl 7 (List.map Aj a62) g63)] s') (fun J64 hF => ?_) ?_
 ·refine Adn ?_;refine Lt ?_;refine BO (σ := (List Ag) × Int) hF (fun (v : (List Ag) × Int) s' => match v with | (a65, a67) => ∃ g66 : Nat, g66 ≠ 0 /\ Zs h [(g66, .room)] 56 [(3, .sl 7 (List.map Aj a65) g66), (7, .sl 7 (List.map Aj p0) 0), (8, .int .i64 (p0.length : Int)), (9, .int .i64 a67)] s') ?_ ?_
  ·exact ⟨r1, hr1, oy ok, wy ok⟩
  ·rintro G68 hG69 rec70 ⟨a65, a67⟩ s' ih71 hF ⟨g66, hg66, ok, hws⟩;refine AM hws ?_;rw [D3] at hF;refine Je ?_;refine Bd rfl hF (fun hb72 hF => ?_) fun hb72 hF => ?_
   ·refine CU ?_;refine AO hF (fun (a100 : (List Ag)) s' => ∃ g101 : Nat, g101 ≠ 0 /\ Zs h [(g101, .room)] 56 [(3, .sl 7 (List.map Aj a100) g101), (7, .sl 7 (List.map Aj p0) 0), (8, .int .i64 (p0.length : Int)), (9, .int .i64 a67)] s') (fun J102 hF => ?_) ?_
    ·refine Rw ?_;refine Cz (mdl [(5, 1)]) ?_;refine F2 rfl rfl CS Bw hF (fun x103 _ hF => ?_);refine A2 rfl (Bc (vs := Aj x103) El Bw rfl rfl) ?_;refine B3 ok rfl F5 ?_;intro i104 hi104 ok;refine FU (j := 0) (cs' := [.sl 1 (List.map CH x103.path) 0, .int .i64 x103.node.Kind, .str x103.node.Name.URI, .str x103.node.Name.Local, .sl 3 (List.map An x103.node.Attrs) 0, .sl 6 (List.map Ae x103.node.Kids) 0, .str x103.node.Text]) ok rfl rfl rfl hi104 rfl Bw rfl rfl (fun ok => ?_);refine Gi ?_;refine Oe ?_;refine DW 13 (v := .sl 7 (List.map Aj a65) 0) (.zero _ _ _) ?_;refine E9 rfl CS ?_;refine HD ?_;refine AO hF (fun (a116 : Bool) s' => Zs h [(g66, .room)] 56 [(3, .sl 7 (List.map Aj a65) g66), (5, .iptr (Aj x103)), (7, .sl 7 (List.map Aj p0) 0), (8, .int .i64 (p0.length : Int)), (9, .int .i64 a67), (49, .bool a116)] s') (fun J117 hF => ?_) ?_
     ·refine Adb ?_;show AU prog (mdl []) true #[] [] _ _;refine Kw 0 5 ok rfl rfl hi104 (fun ok => ?_);refine A4 ?_;refine G2 (mdl [(19, 3), (26, 3), (36, 3), (38, 3), (44, 3)]) (by kernel_rfl) (by kernel_rfl) ?_;refine E8 ?_;refine QL ?_;refine Rg (b := ((a65.length : Int) == 0)) hF (fun hb120 hF => ?_) (fun hb121 hF => ?_)
      ·refine Sy ?_;refine RH ?_;refine U3 ?_;refine Cy ?_;refine Te ?_;refine Te ?_;refine Te ?_;refine Te ?_;refine WW ?_;refine PE (v := .bool _) rfl rfl rfl ?_;refine A4 ?_;exact ⟨true, hF, oy ok, wy ok⟩
      ·refine Eb ?_;refine W9 ?_;refine Zb ?_;refine UU ?_;refine Br ?_;refine Aa1 ?_;refine Pu ?_;refine XN ?_;refine F2 rfl rfl CS Bw hF (fun x122 _ hF => ?_);refine Br ?_;refine W9 ?_;refine Zb ?_;refine UU ?_;refine Br ?_;refine P3 ?_;refine UV ?_;refine Cy ?_;refine Rg (b := (decide ((x103.path.length : Int) < (x122.path.length : Int)))) hF (fun hb123 hF => ?_) (fun hb124 hF => ?_)
       ·refine Sy ?_;refine Sy ?_;refine Ko ?_;exact ⟨true, hF, oy ok, wy ok⟩
       ·refine Rz ?_;refine Pu ?_;refine XN ?_;refine F2 rfl rfl CS Bw hF (fun x125 _ hF => ?_);refine Br ?_;refine W9 ?_;refine Zb ?_;refine W9 ?_;refine Zb ?_;refine Aa1 ?_;refine Pu ?_;refine XN ?_;refine F2 rfl rfl CS Bw hF (fun x126 _ hF => ?_);refine Br ?_;refine W9 ?_;refine Zb ?_;refine UU ?_;refine Br ?_;refine Ac0 rfl Ee AJ NB (FN rfl) hF (fun x127 _ hF => ?_);refine Br ?_;refine cl (Bu (fun _ h hF => Hh _ _ h hF) _ hF fun x128 _ hF => ?_);refine Y8 ?_;exact ⟨(!x128), hF, oy ok, wy ok⟩
     ·rintro a116 s' hF ⟨ok, hws⟩;refine AM hws ?_;refine Bd rfl hF (fun hb129 hF => ?_) fun hb129 hF => ?_
      ·refine Cz (mdl [(53, 2)]) ?_;refine Oe ?_;refine A2 rfl (Bc (vs := Aj x103) El Bw rfl rfl) ?_;refine CD (cs := [.sl 1 (List.map CH x103.path) 0, .int .i64 x103.node.Kind, .str x103.node.Name.URI, .str x103.node.Name.Local, .sl 3 (List.map An x103.node.Attrs) 0, .sl 6 (List.map Ae x103.node.Kids) 0, .str x103.node.Text]) (es := (List.map Aj [x103])) rfl Gz rfl (by kernel_rfl) (by kernel_rfl) ?_;refine F4 (j := 0) ok rfl rfl rfl rfl hg66 Gz Jk hF ?_;intro r130 hr130 ok hF;refine Vw ?_;exact ⟨(a65 ++ [x103]), hF, r130, hr130, oy ok, wy ok⟩
      ·refine CU ?_;exact ⟨a65, hF, g66, hg66, oy ok, wy ok⟩
    ·rintro a100 s' hF ⟨g101, hg101, ok, hws⟩;refine AM hws ?_;refine M6 ?_;refine ih71 (a100, (IntKind.wrap .i64 (a67 + 1))) _ hF ?_;exact ⟨g101, hg101, oy ok, wy ok⟩
   ·refine Ft ?_;replace hF := hG69 _ (At hF);exact ⟨a65, hF, g66, hg66, oy ok, wy ok⟩
 ·rintro a62 s' hF ⟨g63, hg63, ok, hws⟩;refine AM hws ?_;refine JJ ?_;refine DW 55 (v := .sl 7 (List.map Aj a62) 0) (.zero _ _ _) ?_;refine SZ ?_;refine JO ?_;exact rt
theorem Jb : ∀ (N : Nat) (v : Ai × Ag) (G : (List Ag) -> Prop) (h : Heap), OptP (iter BL N v) G -> CallsA prog 36 [.agg (Ar v.1), .agg (Aj v.2)] h fun d h' => ∃ r, G r /\ d = .sl 7 (List.map Aj r) 0 /\ h' = h := by
 intro N
 induction N with
 | zero => intro v G h hF; exact Lv hF
 | succ N ih0 =>
 rintro ⟨p0, p1⟩ G h hF;show CallsA prog 36 [.agg (Ar p0), .agg (Aj p1)] h fun d h' => ∃ r, G r /\ d = .sl 7 (List.map Aj r) 0 /\ h' = h;replace hF : OptP (BL (iter BL N) (p0, p1)) G := hF;refine CallsA.ret ?_;refine Bb func36 rfl Aes ntmps36 rfl (fun ok => ?_);rw [BL] at hF;refine Bz ?_;refine Co rfl rfl rfl rfl ?_;refine Co rfl rfl rfl rfl ?_;refine S_a (v := .snil) rfl ?_;refine DW 4 (v := .sl 7 (List.map Aj []) 0) (.nil _) ?_;refine Gi ?_;refine A2 rfl (Bc (vs := Ar p0) EZ Dl rfl rfl) ?_;refine A2 rfl (Bc (vs := Aj p1) El Bw rfl rfl) ?_;refine cl (OfR_ok h [] ok hF fun x1 r2 hr2 ok hF => ?_);refine Vw ?_;refine AO hF (fun (a17 : (List Ag)) s' => ∃ g18 : Nat, g18 ≠ 0 /\ Zs h [(g18, .room)] 34 [(5, .sl 7 (List.map Aj a17) g18)] s') (fun J19 hF => ?_) ?_
 ·refine Bz ?_;refine Adq ?_;refine BC rfl DN BV rfl ?_;refine A2 rfl (Be Ew BV rfl) ?_;refine Xt ?_;refine BO (σ := (List Ag) × Int) hF (fun (v : (List Ag) × Int) s' => match v with | (a20, a22) => ∃ g21 : Nat, g21 ≠ 0 /\ Zs h [(g21, .room)] 34 [(2, .iptr (Ar p0)), (3, .iptr (Aj p1)), (5, .sl 7 (List.map Aj a20) g21), (13, .sl 6 (List.map Ae p1.node.Kids) 0), (14, .int .i64 (p1.node.Kids.length : Int)), (15, .int .i64 a22)] s') ?_ ?_
  ·exact ⟨r2, hr2, oy ok, wy ok⟩
  ·rintro G23 hG24 rec25 ⟨a20, a22⟩ s' ih26 hF ⟨g21, hg21, ok, hws⟩;refine AM hws ?_;rw [CL] at hF;refine Je ?_;refine Bd rfl hF (fun hb27 hF => ?_) fun hb27 hF => ?_
   ·refine VZ ?_;refine Cz (mdl [(7, 1)]) ?_;refine E8 ?_;refine F2 rfl rfl Eg AE hF (fun x28 _ hF => ?_);refine A2 rfl (Bc (vs := Ae x28) Bq AE (by rw [Ac]; rfl) (by rw [Ac]; rfl)) ?_;refine B3 ok rfl Dh ?_;intro i29 hi29 ok;refine Jr ?_;refine FU (j := 0) (cs' := [.int .i64 x28.Kind, .str x28.Name.URI, .str x28.Name.Local, .sl 3 (List.map An x28.Attrs) 0, .sl 6 (List.map Ae x28.Kids) 0, .str x28.Text]) ok rfl (congrArg D.agg (Ac x28)) rfl hi29 rfl AE rfl rfl (fun ok => ?_);refine A4 ?_;refine Adb ?_;show AU prog (mdl []) true #[] [] _ _;refine Kw 0 7 ok rfl rfl hi29 (fun ok => ?_);refine A4 ?_;refine QM (mdl [(31, 2), (21, 3), (23, 3), (28, 3)]) [0, 1, 2, 3, 5, 6, 8, 4, 7, 9, 10, 11, 12] [_, _, _, _, _, _, _, _, _, _, _, _, _] (by kernel_rfl) rfl rfl (by kernel_rfl) ?_;refine Oe ?_;refine A2 rfl (Bc (vs := Ar p0) EZ Dl rfl rfl) ?_;refine W9 ?_;refine Aar ?_;refine E8 ?_;refine CD (cs := [.int .i64 a22]) (es := (List.map CH [a22])) rfl Fs rfl (by kernel_rfl) (by kernel_rfl) ?_;refine A2 rfl (Bc (vs := Ae x28) Bq AE rfl (by rw [Ac]; rfl)) ?_;refine QD (CloneR_ok h [(0, .room), (g21, .room)] ok hF fun x32 r33 hr33 ok hF => ?_) (.cons (.refl _) .nil);refine WU (j := 0) ok rfl rfl rfl rfl hr33 Fs KX hF (fun ok hF => ?_);refine C6 (v := .agg (Aj (⟨(x32 ++ [a22]), x28⟩ : Ag))) (Gw F5 NH (by rw [Ac x28]; rfl)) ?_;refine cl (Bu (enc := fun r => .sl 7 (List.map Aj r) 0) (fun G h hF => ih0 (p0, (⟨(x32 ++ [a22]), x28⟩ : Ag)) G h hF) _ hF fun x36 _ hF => ?_);refine F4 (j := 2) ok rfl rfl rfl rfl hg21 Gz Jk hF ?_;intro r37 hr37 ok hF;refine Vw ?_;refine M6 ?_;refine ih26 ((a20 ++ x36), (IntKind.wrap .i64 (a22 + 1))) _ hF ?_;exact ⟨r37, hr37, oy ok, wy ok⟩
   ·refine Ft ?_;replace hF := hG24 _ (At hF);exact ⟨a20, hF, g21, hg21, oy ok, wy ok⟩
 ·rintro a17 s' hF ⟨g18, hg18, ok, hws⟩;refine AM hws ?_;refine JJ ?_;refine DW 33 (v := .sl 7 (List.map Aj a17) 0) (.zero _ _ _) ?_;refine SZ ?_;refine JO ?_;exact rt
theorem I2 (p0 : Ai) (p1 : Ag) {G : (List Ag) -> Prop} (h : Heap) (hF : OptP (Fh p0 p1) G) : CallsA prog 36 [.agg (Ar p0), .agg (Aj p1)] h fun d h' => ∃ r, G r /\ d = .sl 7 (List.map Aj r) 0 /\ h' = h := Jb FUEL (p0, p1) G h hF
theorem Hg (p0 : Int) {G : Bool -> Prop} (h : Heap) (hF : OptP (Ec p0) G) : CallsA prog 95 [.int .i64 p0] h fun d h' => ∃ r, G r /\ d = .bool r /\ h' = h := by
 refine CallsA.ret ?_;refine Bb func95 rfl Adx ntmps95 rfl (fun ok => ?_);rw [Ec] at hF;refine KU ?_;refine N2 ?_;refine SR ?_;refine Fz ?_;exact rt
theorem Gl (p0 : Int) (p1 : Int) {G : Int -> Prop} (h : Heap) (hF : OptP (Ck p0 p1) G) : CallsA prog 57 [.int .i64 p0, .int .i64 p1] h fun d h' => ∃ r, G r /\ d = .int .i64 r /\ h' = h := by
 refine CallsA.ret ?_;refine Bb func57 rfl Ad8 ntmps57 rfl (fun ok => ?_);rw [Ck] at hF;refine Pw ?_;refine GP ?_;refine cl (Bu (fun _ h hF => Hg _ h hF) _ hF fun x1 _ hF => ?_);refine Ev ?_;refine GP ?_;refine cl (Bu (fun _ h hF => Hg _ h hF) _ hF fun x2 _ hF => ?_);refine Y5 ?_;refine U5 ?_;refine Bd rfl hF (fun hb3 hF => ?_) fun hb3 hF => ?_
 ·refine UY ?_;refine U5 ?_;refine Bd rfl hF (fun hb4 hF => ?_) fun hb4 hF => ?_
  ·refine Ls ?_;exact rt
  ·refine Zu ?_;exact rt
 ·refine Oh ?_;refine Bz ?_;refine U5 ?_;refine Bd rfl hF (fun hb5 hF => ?_) fun hb5 hF => ?_
  ·refine Ls ?_;exact rt
  ·refine Oh ?_;refine N2 ?_;refine P3 ?_;refine Bd rfl hF (fun hb6 hF => ?_) fun hb6 hF => ?_
   ·refine Ls ?_;exact rt
   ·refine Oh ?_;refine N2 ?_;refine Q6 ?_;refine A4 ?_;refine Bd rfl hF (fun hb7 hF => ?_) fun hb7 hF => ?_
    ·refine Ls ?_;exact rt
    ·refine Zu ?_;exact rt
theorem ES (p0 : Ab) (p1 : List By8) {G : (List Ak) × Int × Int -> Prop} (h : Heap) (hF : OptP (CI p0 p1) G) : CallsA prog 13 [.agg (Ae p0), .str p1] h fun d h' => ∃ r, G r /\ d = .tup [.sl 4 (List.map Aq r.1) 0, .int .i64 r.2.1, .int .i64 r.2.2] /\ h' = h := by
 refine CallsA.ret ?_;refine Bb func13 rfl Aeh ntmps13 rfl (fun ok => ?_);rw [CI] at hF;refine Bz ?_;refine Co (v := .agg (Ae p0)) (cs := Ae p0) rfl rfl rfl rfl ?_;refine S_a (v := .snil) rfl ?_;refine DW 4 (v := .sl 4 (List.map Aq []) 0) (.nil _) ?_;refine LD ?_;refine KM ?_;refine cl (IP _ hF fun x1 _ hF => ?_);refine Ae1 ?_;refine Xb ?_;refine Sq ?_;refine Bd rfl hF (fun hb2 hF => ?_) fun hb2 hF => ?_
 ·refine N2 ?_;refine S_a (v := .snil) rfl ?_;refine DW 4 (v := .sl 4 (List.map Aq []) 0) (.nil _) ?_;refine La ?_;exact rt
 ·refine Oh ?_;refine Bz ?_;refine A2 rfl (Bc (vs := Ae p0) Bq AE (by rw [Ac]; rfl) (by rw [Ac]; rfl)) ?_;refine cl (Bu (fun _ h hF => Mv _ h hF) _ hF fun x3 _ hF => ?_);refine HD ?_;refine ZS ?_;refine Bd rfl hF (fun hb4 hF => ?_) fun hb4 hF => ?_
  ·refine GP ?_;refine S_a (v := .snil) rfl ?_;refine DW 4 (v := .sl 4 (List.map Aq []) 0) (.nil _) ?_;refine La ?_;exact rt
  ·refine SD ?_;refine A2 rfl (Bc (vs := Ae p0) Bq AE (by rw [Ac]; rfl) (by rw [Ac]; rfl)) ?_;refine C6 (v := .agg [.snil, .int .i64 p0.Kind, .str p0.Name.URI, .str p0.Name.Local, .sl 3 (List.map An p0.Attrs) 0, .sl 6 (List.map Ae p0.Kids) 0, .str p0.Text]) (Gw F5 NH (by rw [Ac p0]; rfl)) ?_;refine DW 36 (v := .agg (Aj (⟨[], p0⟩ : Ag))) (.aggC (.cons (.nil _) (.cons (.refl _) (.cons (.refl _) (.cons (.refl _) (.cons (.refl _) (.cons (.refl _) (.cons (.refl _) (.nil))))))))) ?_;refine CD (cs := [.sl 1 (List.map CH (⟨[], p0⟩ : Ag).path) 0, .int .i64 (⟨[], p0⟩ : Ag).node.Kind, .str (⟨[], p0⟩ : Ag).node.Name.URI, .str (⟨[], p0⟩ : Ag).node.Name.Local, .sl 3 (List.map An (⟨[], p0⟩ : Ag).node.Attrs) 0, .sl 6 (List.map Ae (⟨[], p0⟩ : Ag).node.Kids) 0, .str (⟨[], p0⟩ : Ag).node.Text]) (es := (List.map Aj [(⟨[], p0⟩ : Ag)])) rfl Gz rfl (by kernel_rfl) (by kernel_rfl) ?_;refine Vw ?_;refine AO hF (fun (a143 : (List Ag)) s' => Zs h [] 90 [(11, .sl 7 (List.map Aj a143) 0)] s') (fun J144 hF => ?_) ?_
   ·refine JJ ?_;refine E9 rfl Hr ?_;refine Lt ?_;refine BO (σ := (List Ag) × Int) hF (fun (v : (List Ag) × Int) s' => match v with | (a145, a146) => Zs h [] 90 [(11, .sl 7 (List.map Aj a145) 0), (38, .sl 6 (List.map Ar x1.1) 0), (39, .int .i64 (x1.1.length : Int)), (40, .int .i64 a146)] s') ?_ ?_
    ·exact ⟨oy ok, wy ok⟩
    ·rintro G147 hG148 rec149 ⟨a145, a146⟩ s' ih150 hF ⟨ok, hws⟩;refine AM hws ?_;rw [DL] at hF;refine Je ?_;refine Bd rfl hF (fun hb151 hF => ?_) fun hb151 hF => ?_
     ·refine CU ?_;refine AO hF (fun (a219 : (List Ag)) s' => Zs h [] 90 [(11, .sl 7 (List.map Aj a219) 0), (38, .sl 6 (List.map Ar x1.1) 0), (39, .int .i64 (x1.1.length : Int)), (40, .int .i64 a146)] s') (fun J220 hF => ?_) ?_
      ·refine Rw ?_;refine Cz (mdl [(13, 1)]) ?_;refine F2 rfl rfl Hr Dl hF (fun x221 _ hF => ?_);refine A2 rfl (Bc (vs := Ar x221) EZ Dl rfl rfl) ?_;refine B3 ok rfl Nx ?_;intro i222 hi222 ok;refine FU (j := 0) (cs' := [.bool x221.deep, .bool x221.attr, .str x221.test, .str x221.name.URI, .str x221.name.Local, .sl 6 (List.map Al x221.conds) 0]) ok rfl rfl rfl hi222 rfl Dl rfl rfl (fun ok => ?_);refine Zl ?_;refine C3 rfl JX DD ?_;refine Af3 ?_;refine A4 ?_;refine Bd rfl hF (fun hb223 hF => ?_) fun hb223 hF => ?_
       ·refine JJ ?_;refine B6 (j := 0) ok rfl rfl rfl hi222 (Bc (vs := Ar x221) EZ Dl rfl rfl) ?_;refine cl (Bu (fun _ h hF => MD _ _ h hF) _ hF fun x224 _ hF => ?_);refine SZ ?_;refine La ?_;replace hF := hG148 _ (At hF);exact rt
       ·refine SD ?_;refine S_a (v := .snil) rfl ?_;refine Oy Aj ok (fun ok => ?_);refine A4 ?_;refine AO hF (fun (a228 : (List Ag)) s' => Zs h [mo 0 Aj [], (i222, .cells [.bool x221.deep, .bool x221.attr, .str x221.test, .str x221.name.URI, .str x221.name.Local, .sl 6 (List.map Al x221.conds) 0])] 90 [(11, .sl 7 (List.map Aj a228) 0), (13, .ptr i222 0), (14, Dm 7 0 ([] : List Ag)), (38, .sl 6 (List.map Ar x1.1) 0), (39, .int .i64 (x1.1.length : Int)), (40, .int .i64 a146)] s') (fun J229 hF => ?_) ?_
        ·refine Bz ?_;refine Ado ?_;refine B6 (j := 1) ok rfl rfl rfl (by assumption) (Be (v := .bool _) N4 DD rfl) ?_;refine A4 ?_;refine Bd rfl hF (fun hb230 hF => ?_) fun hb230 hF => ?_
         ·refine KS ?_;refine Oe ?_;refine cl (Bu (fun _ h hF => MB _ h hF) _ hF fun x231 _ hF => ?_);refine Vw ?_;exact ⟨x231, hF, oy ok, wy ok⟩
         ·refine CU ?_;exact ⟨a145, hF, oy ok, wy ok⟩
        ·rintro a228 s' hF ⟨ok, hws⟩;refine AM hws ?_;refine AO hF (fun (a259 : (List Ag)) s' => ∃ g258 : Nat, (g258 = 0 -> a259 = []) /\ Zs h [mo g258 Aj a259] 90 [(14, Dm 7 g258 a259), (38, .sl 6 (List.map Ar x1.1) 0), (39, .int .i64 (x1.1.length : Int)), (40, .int .i64 a146)] s') (fun J260 hF => ?_) ?_
         ·refine Adn ?_;refine Lt ?_;refine BO (σ := (List Ag) × Int) hF (fun (v : (List Ag) × Int) s' => match v with | (a262, a263) => ∃ g261 : Nat, (g261 = 0 -> a262 = []) /\ Zs h [mo g261 Aj a262, (i222, .cells [.bool x221.deep, .bool x221.attr, .str x221.test, .str x221.name.URI, .str x221.name.Local, .sl 6 (List.map Al x221.conds) 0])] 90 [(13, .ptr i222 0), (14, Dm 7 g261 a262), (38, .sl 6 (List.map Ar x1.1) 0), (39, .int .i64 (x1.1.length : Int)), (40, .int .i64 a146), (53, .sl 7 (List.map Aj a228) 0), (54, .int .i64 (a228.length : Int)), (55, .int .i64 a263)] s') ?_ ?_
          ·exact ⟨0, (fun _ => rfl), oy ok, wy ok⟩
          ·rintro G264 hG265 rec266 ⟨a262, a263⟩ s' ih267 hF ⟨g261, zg261, ok, hws⟩;refine AM hws ?_;rw [DJ] at hF;refine Je ?_;refine Bd rfl hF (fun hb268 hF => ?_) fun hb268 hF => ?_
           ·refine CU ?_;refine AO hF (fun (a280 : (List Ag)) s' => ∃ g279 : Nat, (g279 = 0 -> a280 = []) /\ Zs h [mo g279 Aj a280, (i222, .cells [.bool x221.deep, .bool x221.attr, .str x221.test, .str x221.name.URI, .str x221.name.Local, .sl 6 (List.map Al x221.conds) 0])] 90 [(13, .ptr i222 0), (14, Dm 7 g279 a280), (38, .sl 6 (List.map Ar x1.1) 0), (39, .int .i64 (x1.1.length : Int)), (40, .int .i64 a146), (53, .sl 7 (List.map Aj a228) 0), (54, .int .i64 (a228.length : Int)), (55, .int .i64 a263)] s') (fun J281 hF => ?_) ?_
            ·refine Rw ?_;refine Cz (mdl [(16, 1)]) ?_;refine F2 rfl rfl CS Bw hF (fun x282 _ hF => ?_);refine A2 rfl (Bc (vs := Aj x282) El Bw rfl rfl) ?_;refine B3 ok rfl F5 ?_;intro i283 hi283 ok;refine FU (j := 0) (cs' := [.sl 1 (List.map CH x282.path) 0, .int .i64 x282.node.Kind, .str x282.node.Name.URI, .str x282.node.Name.Local, .sl 3 (List.map An x282.node.Attrs) 0, .sl 6 (List.map Ae x282.node.Kids) 0, .str x282.node.Text]) ok rfl rfl rfl hi283 rfl Bw rfl rfl (fun ok => ?_);refine Gi ?_;refine Ado ?_;refine Agf ?_;refine A4 ?_;refine Bd rfl hF (fun hb284 hF => ?_) fun hb284 hF => ?_
             ·refine Cz (mdl [(65, 1)]) ?_;refine Aby ?_;refine B6 (j := 2) ok rfl rfl rfl hi222 (Bc (vs := Ar x221) EZ Dl rfl rfl) ?_;refine B6 (j := 0) ok rfl rfl rfl hi283 (Bc (vs := Aj x282) El Bw rfl rfl) ?_;refine cl (Bu (fun _ h hF => I2 _ _ h hF) _ hF fun x285 _ hF => ?_);refine QV (j := 1) (M := x285) ok zg261 rfl rfl Tc (fun _ => rfl) rfl Gz Jk hF ?_;intro u286 zu286 ok hF;obtain ⟨a287, ha287, hF⟩ := N6 hF;rw [<- ha287] at ok zu286;rw [<- ha287];refine Z8 ?_;refine A4 ?_;exact ⟨a287, hF, u286, zu286, oy ok, wy ok⟩
             ·refine Cz (mdl [(70, 1)]) ?_;refine Aby ?_;refine B6 (j := 2) ok rfl rfl rfl hi222 (Bc (vs := Ar x221) EZ Dl rfl rfl) ?_;refine B6 (j := 0) ok rfl rfl rfl hi283 (Bc (vs := Aj x282) El Bw rfl rfl) ?_;refine cl (OfR_ok h [(i283, .cells [.sl 1 (List.map CH x282.path) 0, .int .i64 x282.node.Kind, .str x282.node.Name.URI, .str x282.node.Name.Local, .sl 3 (List.map An x282.node.Attrs) 0, .sl 6 (List.map Ae x282.node.Kids) 0, .str x282.node.Text]), mo g261 Aj a262, (i222, .cells [.bool x221.deep, .bool x221.attr, .str x221.test, .str x221.name.URI, .str x221.name.Local, .sl 6 (List.map Al x221.conds) 0])] ok hF fun x288 r289 hr289 ok hF => ?_);refine QV (j := 2) (M := x288) ok zg261 rfl rfl Tc (fun _ => rfl) rfl Gz Jk hF ?_;intro u290 zu290 ok hF;obtain ⟨a291, ha291, hF⟩ := N6 hF;rw [<- ha291] at ok zu290;rw [<- ha291];refine Z8 ?_;refine A4 ?_;exact ⟨a291, hF, u290, zu290, oy ok, wy ok⟩
            ·rintro a280 s' hF ⟨g279, zg279, ok, hws⟩;refine AM hws ?_;refine M6 ?_;refine ih267 (a280, (IntKind.wrap .i64 (a263 + 1))) _ hF ?_;exact ⟨g279, zg279, oy ok, wy ok⟩
           ·refine Ft ?_;replace hF := hG265 _ (At hF);exact ⟨a262, hF, g261, zg261, oy ok, wy ok⟩
         ·rintro a259 s' hF ⟨g258, zg258, ok, hws⟩;refine AM hws ?_;refine Bz ?_;refine Aby ?_;refine QD (Sort_ok h [] zg258 ok hF fun x292 zr293 hlx292 ok hF => ?_) (.cons (.refl _) (.cons (.refl _) .nil));have hms : Dm 7 g258 a259 = Dm 7 g258 x292 := JL hlx292
          try rw [hms] at ok
          try rw [hms]
          clear hms;refine A4 ?_;refine KS ?_;refine Aby ?_;refine Z8 ?_;refine Wq 0 11 ok zr293 rfl rfl (fun _ => rfl) (fun ok => ?_);refine A4 ?_;exact ⟨x292, hF, oy ok, wy ok⟩
      ·rintro a219 s' hF ⟨ok, hws⟩;refine AM hws ?_;refine M6 ?_;refine ih150 (a219, (IntKind.wrap .i64 (a146 + 1))) _ hF ?_;exact ⟨oy ok, wy ok⟩
     ·refine Ft ?_;replace hF := hG148 _ (At hF);exact ⟨a145, hF, oy ok, wy ok⟩
   ·rintro a143 s' hF ⟨ok, hws⟩;refine AM hws ?_;refine Bz ?_;refine S_a (v := .snil) rfl ?_;refine I8 17 4 ok rfl rfl ?_;intro r295 hr295 ok;refine A4 ?_;refine AO hF (fun (a303 : (List Ak)) s' => ∃ g304 : Nat, g304 ≠ 0 /\ Zs h [(g304, .room)] 90 [(17, .sl 4 (List.map Aq a303) g304)] s') (fun J305 hF => ?_) ?_
    ·refine Adn ?_;refine Lt ?_;refine BO (σ := (List Ak) × Int) hF (fun (v : (List Ak) × Int) s' => match v with | (a306, a308) => ∃ g307 : Nat, g307 ≠ 0 /\ Zs h [(g307, .room)] 90 [(17, .sl 4 (List.map Aq a306) g307), (76, .sl 7 (List.map Aj a143) 0), (77, .int .i64 (a143.length : Int)), (78, .int .i64 a308)] s') ?_ ?_
     ·exact ⟨r295, hr295, oy ok, wy ok⟩
     ·rintro G309 hG310 rec311 ⟨a306, a308⟩ s' ih312 hF ⟨g307, hg307, ok, hws⟩;refine AM hws ?_;rw [DM] at hF;refine Je ?_;refine Bd rfl hF (fun hb313 hF => ?_) fun hb313 hF => ?_
      ·refine VZ ?_;refine Cz (mdl [(19, 1)]) ?_;refine F2 rfl rfl CS Bw hF (fun x314 _ hF => ?_);refine A2 rfl (Bc (vs := Aj x314) El Bw rfl rfl) ?_;refine B3 ok rfl F5 ?_;intro i315 hi315 ok;refine FU (j := 0) (cs' := [.sl 1 (List.map CH x314.path) 0, .int .i64 x314.node.Kind, .str x314.node.Name.URI, .str x314.node.Name.Local, .sl 3 (List.map An x314.node.Attrs) 0, .sl 6 (List.map Ae x314.node.Kids) 0, .str x314.node.Text]) ok rfl rfl rfl hi315 rfl Bw rfl rfl (fun ok => ?_);refine A4 ?_;refine Cz (mdl [(87, 2)]) ?_;refine Oe ?_;refine C3 rfl MR Ij ?_;refine Af6 ?_;refine C6 (v := .agg (Aq (⟨x314.path, false, (⟨[], []⟩ : Aa)⟩ : Ak))) (Gw KQ Nm rfl) ?_;refine CD (cs := [.sl 1 (List.map CH (⟨x314.path, false, (⟨[], []⟩ : Aa)⟩ : Ak).Steps) 0, .bool (⟨x314.path, false, (⟨[], []⟩ : Aa)⟩ : Ak).Attr, .str (⟨x314.path, false, (⟨[], []⟩ : Aa)⟩ : Ak).Name.URI, .str (⟨x314.path, false, (⟨[], []⟩ : Aa)⟩ : Ak).Name.Local]) (es := (List.map Aq [(⟨x314.path, false, (⟨[], []⟩ : Aa)⟩ : Ak)])) rfl KI rfl (by kernel_rfl) (by kernel_rfl) ?_;refine F4 (j := 1) ok rfl rfl rfl rfl hg307 KI QU hF ?_;intro r316 hr316 ok hF;refine Vw ?_;refine M6 ?_;refine ih312 ((a306 ++ [(⟨x314.path, false, (⟨[], []⟩ : Aa)⟩ : Ak)]), (IntKind.wrap .i64 (a308 + 1))) _ hF ?_;exact ⟨r316, hr316, oy ok, wy ok⟩
      ·refine Ft ?_;replace hF := hG310 _ (At hF);exact ⟨a306, hF, g307, hg307, oy ok, wy ok⟩
    ·rintro a303 s' hF ⟨g304, hg304, ok, hws⟩;refine AM hws ?_;refine JJ ?_;refine DW 89 (v := .sl 4 (List.map Aq a303) 0) (.zero _ _ _) ?_;refine SZ ?_;refine La ?_;exact rt
theorem Mp (p0 : List By8) {G : Int × Int -> Prop} (h : Heap) (hF : OptP (Ib p0) G) : CallsA prog 31 [.str p0] h fun d h' => ∃ r, G r /\ d = .tup [.int .i64 r.1, .int .i64 r.2] /\ h' = h := by
 refine CallsA.ret ?_;refine Bb func31 rfl Ael ntmps31 rfl (fun ok => ?_);rw [Ib] at hF;refine Bz ?_;refine LD ?_;refine KM ?_;refine cl (IP _ hF fun x1 _ hF => ?_);refine Y0 ?_;refine N2 ?_;refine La ?_;exact rt
theorem GQ (p0 : List Int) (p1 : List Int) {G : Bool -> Prop} (h : Heap) (hF : OptP (Cb p0 p1) G) : CallsA prog 21 [.sl 1 (List.map CH p0) 0, .sl 1 (List.map CH p1) 0] h fun d h' => ∃ r, G r /\ d = .bool r /\ h' = h := by
 refine CallsA.ret ?_;refine Bb func21 rfl Afg ntmps21 rfl (fun ok => ?_);rw [Cb] at hF;refine Zt ?_;refine Zk ?_;refine Oe ?_;refine UU ?_;refine Sq ?_;refine Bd rfl hF (fun hb1 hF => ?_) fun hb1 hF => ?_
 ·refine IT ?_;exact rt
 ·refine CU ?_;refine AO hF (fun (_ : Unit) s' => Zs h [] 26 [] s') (fun J7 hF => ?_) ?_
  ·refine Zk ?_;refine Lt ?_;refine BO (σ := Int) hF (fun (a8 : Int) s' => Zs h [] 26 [(0, .sl 1 (List.map CH p0) 0), (1, .sl 1 (List.map CH p1) 0), (12, .int .i64 (p0.length : Int)), (13, .int .i64 a8)] s') ?_ ?_
   ·exact ⟨oy ok, wy ok⟩
   ·rintro G9 hG10 rec11 a8 s' ih12 hF ⟨ok, hws⟩;refine AM hws ?_;rw [Em] at hF;refine Je ?_;refine Bd rfl hF (fun hb13 hF => ?_) fun hb13 hF => ?_
    ·refine WZ ?_;refine Gy ?_;refine G2 (mdl [(19, 3), (23, 3)]) (by kernel_rfl) (by kernel_rfl) ?_;refine YX ?_;refine F2 rfl rfl Ee AJ hF (fun x14 _ hF => ?_);refine V1 ?_;refine YX ?_;refine F2 rfl rfl Ee AJ hF (fun x15 _ hF => ?_);refine V1 ?_;refine Sq ?_;refine Bd rfl hF (fun hb16 hF => ?_) fun hb16 hF => ?_
     ·refine IT ?_;replace hF := hG10 _ (At hF);exact rt
     ·refine Sr ?_;refine ih12 (IntKind.wrap .i64 (a8 + 1)) _ hF ?_;exact ⟨oy ok, wy ok⟩
    ·refine Ft ?_;replace hF := hG10 _ (At hF);exact ⟨(), hF, oy ok, wy ok⟩
  ·rintro ⟨⟩ s' hF ⟨ok, hws⟩;refine AM hws ?_;refine IT ?_;exact rt
theorem Gx {β : Type} {f : Bool -> Option β} {G : β -> Prop} {R : D -> Heap -> Prop} {p0 : List Int} {p1 : List Int} (h : Heap) (hF : OptP ((Cb p0 p1).bind f) G) (hk : ∀ r, Cb p0 p1 = some r -> OptP (f r) G -> R (.bool r) h) : CallsA prog 21 [.sl 1 (List.map CH p0) 0, .sl 1 (List.map CH p1) 0] h R := by
 obtain ⟨r0, hr, hF⟩ := Bs hF;refine (GQ (G := fun r => r = r0) p0 p1 h ⟨r0, hr, rfl⟩).mono ?_;rintro _ _ ⟨r, rfl, rfl, rfl⟩;exact hk _ hr hF
theorem HC {G : Bool -> Prop} (h : Heap) (hF : OptP (Do) G) : CallsA prog 10 [] h fun d h' => ∃ r, G r /\ d = .bool r /\ h' = h := by
 refine CallsA.ret ?_;refine Bb func10 rfl Afm ntmps10 rfl (fun ok => ?_);rw [Do] at hF;refine KU ?_;refine Bz ?_;refine cl (Bu (fun _ h hF => EO h hF) _ hF fun x1 _ hF => ?_);refine cl (Bu (fun _ h hF => ES _ _ h hF) _ hF fun x2 _ hF => ?_);refine Y0 ?_;refine Bz ?_;refine cl (Bu (fun _ h hF => EO h hF) _ hF fun x3 _ hF => ?_);refine cl (Bu (fun _ h hF => ES _ _ h hF) _ hF fun x4 _ hF => ?_);refine Y0 ?_;refine Bz ?_;refine cl (Bu (fun _ h hF => Mp _ h hF) _ hF fun x5 _ hF => ?_);refine SM ?_;refine LD ?_;refine Xs ?_;refine Bp (b := (x2.2.2 == 0)) 3 30 (.bool ((x2.2.2 == 0) && (x4.2.2 == 0))) (fun hb6 => ?_) (fun hb6 => ?_) ?_
 ·refine Xr ?_;refine G5 ?_;exact th
 ·refine HS ?_;exact th
 refine Cy ?_;refine Bp (b := ((x2.2.2 == 0) && (x4.2.2 == 0))) 3 34 (.bool (((x2.2.2 == 0) && (x4.2.2 == 0)) && (x5.2 == 36))) (fun hb7 => ?_) (fun hb7 => ?_) ?_
 ·refine Xr ?_;refine G5 ?_;exact th
 ·refine HS ?_;exact th
 refine Cy ?_;refine Bp (b := (((x2.2.2 == 0) && (x4.2.2 == 0)) && (x5.2 == 36))) 3 38 (.bool ((((x2.2.2 == 0) && (x4.2.2 == 0)) && (x5.2 == 36)) && (x5.1 == 3))) (fun hb8 => ?_) (fun hb8 => ?_) ?_
 ·refine Xr ?_;refine G5 ?_;exact th
 ·refine HS ?_;exact th
 refine Cy ?_;refine Bp (b := ((((x2.2.2 == 0) && (x4.2.2 == 0)) && (x5.2 == 36)) && (x5.1 == 3))) 4 43 (.bool (((((x2.2.2 == 0) && (x4.2.2 == 0)) && (x5.2 == 36)) && (x5.1 == 3)) && ((x2.1.length : Int) == 1))) (fun hb9 => ?_) (fun hb9 => ?_) ?_
 ·refine Rz ?_;refine Ws ?_;refine XA ?_;exact th
 ·refine Sb ?_;exact th
 refine Cy ?_;refine BP 7 51 hF (fun J11 hb10 hF => ?_) (fun J11 hb10 hF => ?_) (fun v12 hF => ?_)
 ·refine Rz ?_;refine F2 rfl rfl GF Eh hF (fun x13 _ hF => ?_);refine Br ?_;refine Agh ?_;refine Zb ?_;refine CD (cs := [.int .i64 0, .int .i64 1]) (es := (List.map CH [0, 1])) rfl Fs rfl (by kernel_rfl) (by kernel_rfl) ?_;refine Br ?_;refine cl (Gx _ hF fun x14 _ hF => ?_);refine G5 ?_;exact tw
 ·refine Ii ?_;refine HS ?_;exact tw
 ·refine Cy ?_;refine Bp (b := v12) 4 56 (.bool (v12 && ((x4.1.length : Int) == 2))) (fun hb15 => ?_) (fun hb15 => ?_) ?_
  ·refine Rz ?_;refine Ws ?_;refine XA ?_;exact th
  ·refine Sb ?_;exact th
  refine Cy ?_;refine BP 5 62 hF (fun J17 hb16 hF => ?_) (fun J17 hb16 hF => ?_) (fun v18 hF => ?_)
  ·refine Rz ?_;refine F2 rfl rfl GF Eh hF (fun x19 _ hF => ?_);refine Br ?_;refine XU ?_;refine Br ?_;refine WK ?_;refine G5 ?_;exact tw
  ·refine Ii ?_;refine Og ?_;exact tw
  ·refine Cy ?_;refine BP 7 70 hF (fun J21 hb20 hF => ?_) (fun J21 hb20 hF => ?_) (fun v22 hF => ?_)
   ·refine Rz ?_;refine F2 rfl rfl GF Eh hF (fun x23 _ hF => ?_);refine Br ?_;refine Add ?_;refine Br ?_;refine Agk ?_;refine Br ?_;refine Pt ?_;refine Br ?_;refine MO ?_;refine G5 ?_;exact tw
   ·refine Ii ?_;refine HS ?_;exact tw
   ·refine Fz ?_;exact rt
theorem HV (p0 : List By8) (p1 : Int) {G : Int × Int -> Prop} (h : Heap) (hF : OptP (BX p0 p1) G) : CallsA prog 61 [.sl 1 (List.map TS p0) 0, .int .i64 p1] h fun d h' => ∃ r, G r /\ d = .tup [.int .i64 r.1, .int .i64 r.2] /\ h' = h := by
 refine CallsA.ret ?_;refine Bb func61 rfl Aev ntmps61 rfl (fun ok => ?_);rw [BX] at hF;refine Bz ?_;refine LD ?_;refine Abj ?_;refine F2 rfl rfl Hk GN hF (fun x1 _ hF => ?_);refine Afx ?_;refine MZ rfl (Afh PM Qr) ?_;refine HD ?_;refine GP ?_;refine Jr ?_;refine LD ?_;refine AO hF (fun (v : Int × Int × Int) s' => match v with | (a9, a10, a11) => Zs h [] 95 [(0, .sl 1 (List.map TS p0) 0), (1, .int .i64 p1), (7, .int .i64 a9), (8, .int .i64 a10), (9, .int .i64 a11)] s') (fun J12 hF => ?_) ?_
 ·refine Kq ?_;refine GP ?_;refine X7 ?_;refine Ev ?_;refine Bd rfl hF (fun hb13 hF => ?_) fun hb13 hF => ?_
  ·refine GP ?_;refine La ?_;exact rt
  ·refine SF ?_;refine Bp (b := (decide (192 <= (IntKind.wrap .i64 (x1.toNat : Int))))) 3 28 (.bool ((decide (192 <= (IntKind.wrap .i64 (x1.toNat : Int)))) && (decide ((IntKind.wrap .i64 (x1.toNat : Int)) < 224)))) (fun hb14 => ?_) (fun hb14 => ?_) ?_
   ·refine Zd ?_;refine G5 ?_;exact th
   ·refine HS ?_;exact th
   refine Ev ?_;refine Bd rfl hF (fun hb15 hF => ?_) fun hb15 hF => ?_
   ·refine Qw ?_;refine Mt ?_;refine Jr ?_;refine LD ?_;exact ⟨(2, (IntKind.wrap .i64 ((IntKind.wrap .i64 (x1.toNat : Int)) - 192)), 128), hF, oy ok, wy ok⟩
   ·refine SF ?_;refine Bp (b := (decide (224 <= (IntKind.wrap .i64 (x1.toNat : Int))))) 3 37 (.bool ((decide (224 <= (IntKind.wrap .i64 (x1.toNat : Int)))) && (decide ((IntKind.wrap .i64 (x1.toNat : Int)) < 240)))) (fun hb16 => ?_) (fun hb16 => ?_) ?_
    ·refine Zd ?_;refine G5 ?_;exact th
    ·refine HS ?_;exact th
    refine Ev ?_;refine Bd rfl hF (fun hb17 hF => ?_) fun hb17 hF => ?_
    ·refine Qw ?_;refine Mt ?_;refine Jr ?_;refine LD ?_;exact ⟨(3, (IntKind.wrap .i64 ((IntKind.wrap .i64 (x1.toNat : Int)) - 224)), 2048), hF, oy ok, wy ok⟩
    ·refine SF ?_;refine Bp (b := (decide (240 <= (IntKind.wrap .i64 (x1.toNat : Int))))) 3 46 (.bool ((decide (240 <= (IntKind.wrap .i64 (x1.toNat : Int)))) && (decide ((IntKind.wrap .i64 (x1.toNat : Int)) < 248)))) (fun hb18 => ?_) (fun hb18 => ?_) ?_
     ·refine Zd ?_;refine G5 ?_;exact th
     ·refine HS ?_;exact th
     refine Ev ?_;refine Bd rfl hF (fun hb19 hF => ?_) fun hb19 hF => ?_
     ·refine Qw ?_;refine Mt ?_;refine Jr ?_;refine LD ?_;exact ⟨(4, (IntKind.wrap .i64 ((IntKind.wrap .i64 (x1.toNat : Int)) - 240)), 65536), hF, oy ok, wy ok⟩
     ·refine Zv ?_;exact rt
 ·rintro ⟨a9, a10, a11⟩ s' hF ⟨ok, hws⟩;refine AM hws ?_;refine MA ?_;refine W7 ?_;refine Oe ?_;refine Zm ?_;refine Q6 ?_;refine A4 ?_;refine Bd rfl hF (fun hb20 hF => ?_) fun hb20 hF => ?_
  ·refine Zv ?_;exact rt
  ·refine CU ?_;refine AO hF (fun (a27 : Int) s' => Zs h [] 95 [(7, .int .i64 a9), (8, .int .i64 a27), (9, .int .i64 a11)] s') (fun J28 hF => ?_) ?_
   ·refine Pw ?_;refine Kq ?_;refine BO (σ := Int × Int) hF (fun (v : Int × Int) s' => match v with | (a29, a30) => Zs h [] 95 [(0, .sl 1 (List.map TS p0) 0), (1, .int .i64 p1), (7, .int .i64 a9), (8, .int .i64 a29), (9, .int .i64 a11), (10, .int .i64 a30)] s') ?_ ?_
    ·exact ⟨oy ok, wy ok⟩
    ·rintro G31 hG32 rec33 ⟨a29, a30⟩ s' ih34 hF ⟨ok, hws⟩;refine AM hws ?_;rw [BG] at hF;refine XH ?_;refine P3 ?_;refine Bd rfl hF (fun hb35 hF => ?_) fun hb35 hF => ?_
     ·refine YV ?_;refine Abj ?_;refine W7 ?_;refine F2 rfl rfl Hk GN hF (fun x36 _ hF => ?_);refine Afx ?_;refine MZ rfl (Afh PM Qr) ?_;refine HD ?_;refine MA ?_;refine Sv ?_;refine Bp (b := (decide ((IntKind.wrap .i64 (x36.toNat : Int)) < 128))) 3 72 (.bool ((decide ((IntKind.wrap .i64 (x36.toNat : Int)) < 128)) || (decide (191 < (IntKind.wrap .i64 (x36.toNat : Int)))))) (fun hb37 => ?_) (fun hb37 => ?_) ?_
      ·refine Ko ?_;exact th
      ·refine Kr ?_;refine Q6 ?_;refine GI ?_;exact th
      refine A4 ?_;refine Bd rfl hF (fun hb38 hF => ?_) fun hb38 hF => ?_
      ·refine Zv ?_;replace hF := hG32 _ (At hF);exact rt
      ·refine CU ?_;refine Qw ?_;refine Dc rfl rfl (Ww ..) ?_;refine W7 ?_;refine Mt ?_;refine HD ?_;refine Sw ?_;refine ih34 ((IntKind.wrap .i64 ((IntKind.wrap .i64 ((IntKind.wrap .i64 (64 * a29)) + (IntKind.wrap .i64 (x36.toNat : Int)))) - 128)), (IntKind.wrap .i64 (a30 + 1))) _ hF ?_;exact ⟨oy ok, wy ok⟩
     ·refine Ft ?_;replace hF := hG32 _ (At hF);exact ⟨a29, hF, oy ok, wy ok⟩
   ·rintro a27 s' hF ⟨ok, hws⟩;refine AM hws ?_;refine XH ?_;refine Sv ?_;refine Bp (b := (decide (a27 < a11))) 3 84 (.bool ((decide (a27 < a11)) || (decide (1114111 < a27)))) (fun hb39 => ?_) (fun hb39 => ?_) ?_
    ·refine Ko ?_;exact th
    ·refine Kr ?_;refine Q6 ?_;refine GI ?_;exact th
    refine Cy ?_;refine Bp (b := ((decide (a27 < a11)) || (decide (1114111 < a27)))) 7 92 (.bool (((decide (a27 < a11)) || (decide (1114111 < a27))) || ((decide (55296 <= a27)) && (decide (a27 <= 57343))))) (fun hb40 => ?_) (fun hb40 => ?_) ?_
    ·refine Xj ?_;refine SG ?_;exact th
    ·refine Zy ?_;refine RK ?_;refine Bp (b := (decide (55296 <= a27))) 3 91 (.bool ((decide (55296 <= a27)) && (decide (a27 <= 57343)))) (fun hb42 => ?_) (fun hb42 => ?_) ?_
     ·refine Zh ?_;refine Wg ?_;exact th
     ·refine NM ?_;refine V8 ?_;exact th
     refine Og ?_;exact th
    refine A4 ?_;refine Bd rfl hF (fun hb43 hF => ?_) fun hb43 hF => ?_
    ·refine Zv ?_;exact rt
    ·refine CU ?_;refine N2 ?_;refine La ?_;exact rt
theorem HH {β : Type} {f : Int × Int -> Option β} {G : β -> Prop} {R : D -> Heap -> Prop} {p0 : List By8} {p1 : Int} (h : Heap) (hF : OptP ((BX p0 p1).bind f) G) (hk : ∀ r, BX p0 p1 = some r -> OptP (f r) G -> R (.tup [.int .i64 r.1, .int .i64 r.2]) h) : CallsA prog 61 [.sl 1 (List.map TS p0) 0, .int .i64 p1] h R := by
 obtain ⟨r0, hr, hF⟩ := Bs hF;refine (HV (G := fun r => r = r0) p0 p1 h ⟨r0, hr, rfl⟩).mono ?_;rintro _ _ ⟨r, rfl, rfl, rfl⟩;exact hk _ hr hF
theorem HI (p0 : Int) {G : Bool -> Prop} (h : Heap) (hF : OptP (BF p0) G) : CallsA prog 63 [.int .i64 p0] h fun d h' => ∃ r, G r /\ d = .bool r /\ h' = h := by
 refine CallsA.ret ?_;refine Bb func63 rfl Afn ntmps63 rfl (fun ok => ?_);rw [BF] at hF;refine Zt ?_;refine Kq ?_;refine AO hF (fun (a5 : Bool) s' => Zs h [] 83 [(0, .int .i64 p0), (3, .bool a5)] s') (fun J6 hF => ?_) ?_
 ·refine SF ?_;refine Bp (b := (decide (65 <= p0))) 3 9 (.bool ((decide (65 <= p0)) && (decide (p0 <= 90)))) (fun hb7 => ?_) (fun hb7 => ?_) ?_
  ·refine Ry ?_;exact th
  ·refine HS ?_;exact th
  refine Ev ?_;refine Bd rfl hF (fun hb8 hF => ?_) fun hb8 hF => ?_
  ·refine CU ?_;exact ⟨((decide (65 <= p0)) && (decide (p0 <= 90))), hF, oy ok, wy ok⟩
  ·refine GP ?_;refine Adh ?_;refine Bd rfl hF (fun hb9 hF => ?_) fun hb9 hF => ?_
   ·refine CU ?_;exact ⟨(p0 == 95), hF, oy ok, wy ok⟩
   ·refine Qw ?_;refine Adc ?_;refine Bp (b := (decide (97 <= p0))) 3 17 (.bool ((decide (97 <= p0)) && (decide (p0 <= 122)))) (fun hb10 => ?_) (fun hb10 => ?_) ?_
    ·refine Ry ?_;exact th
    ·refine HS ?_;exact th
    refine Ev ?_;exact ⟨((decide (97 <= p0)) && (decide (p0 <= 122))), hF, oy ok, wy ok⟩
 ·rintro a5 s' hF ⟨ok, hws⟩;refine AM hws ?_;refine Bd rfl hF (fun hb11 hF => ?_) fun hb11 hF => ?_
  ·refine IT ?_;exact rt
  ·refine SF ?_;refine Bp (b := (decide (192 <= p0))) 3 24 (.bool ((decide (192 <= p0)) && (decide (p0 <= 767)))) (fun hb12 => ?_) (fun hb12 => ?_) ?_
   ·refine Ry ?_;exact th
   ·refine HS ?_;exact th
   refine Ev ?_;refine Bd rfl hF (fun hb13 hF => ?_) fun hb13 hF => ?_
   ·refine GP ?_;refine Y4 ?_;refine Bp (b := (p0 != 215)) 3 30 (.bool ((p0 != 215) && (p0 != 247))) (fun hb14 => ?_) (fun hb14 => ?_) ?_
    ·refine Kr ?_;refine SR ?_;refine G5 ?_;exact th
    ·refine HS ?_;exact th
    refine Fz ?_;exact rt
   ·refine SF ?_;refine Bp (b := (decide (880 <= p0))) 3 37 (.bool ((decide (880 <= p0)) && (decide (p0 <= 8191)))) (fun hb15 => ?_) (fun hb15 => ?_) ?_
    ·refine Ry ?_;exact th
    ·refine HS ?_;exact th
    refine Ev ?_;refine Bd rfl hF (fun hb16 hF => ?_) fun hb16 hF => ?_
    ·refine GP ?_;refine SR ?_;refine Fz ?_;exact rt
    ·refine AO hF (fun (a18 : Bool) s' => Zs h [] 83 [(0, .int .i64 p0), (40, .bool a18)] s') (fun J19 hF => ?_) ?_
     ·refine GP ?_;refine Adh ?_;refine Bd rfl hF (fun hb20 hF => ?_) fun hb20 hF => ?_
      ·refine CU ?_;exact ⟨(p0 == 8204), hF, oy ok, wy ok⟩
      ·refine Qw ?_;refine Adh ?_;exact ⟨(p0 == 8205), hF, oy ok, wy ok⟩
     ·rintro a18 s' hF ⟨ok, hws⟩;refine AM hws ?_;refine Bd rfl hF (fun hb21 hF => ?_) fun hb21 hF => ?_
      ·refine IT ?_;exact rt
      ·refine AO hF (fun (a27 : Bool) s' => Zs h [] 83 [(0, .int .i64 p0), (45, .bool a27)] s') (fun J28 hF => ?_) ?_
       ·refine SF ?_;refine Bp (b := (decide (8304 <= p0))) 3 51 (.bool ((decide (8304 <= p0)) && (decide (p0 <= 8591)))) (fun hb29 => ?_) (fun hb29 => ?_) ?_
        ·refine Ry ?_;exact th
        ·refine HS ?_;exact th
        refine Ev ?_;refine Bd rfl hF (fun hb30 hF => ?_) fun hb30 hF => ?_
        ·refine CU ?_;exact ⟨((decide (8304 <= p0)) && (decide (p0 <= 8591))), hF, oy ok, wy ok⟩
        ·refine SF ?_;refine Bp (b := (decide (11264 <= p0))) 3 57 (.bool ((decide (11264 <= p0)) && (decide (p0 <= 12271)))) (fun hb31 => ?_) (fun hb31 => ?_) ?_
         ·refine Ry ?_;exact th
         ·refine HS ?_;exact th
         refine Ev ?_;refine Bd rfl hF (fun hb32 hF => ?_) fun hb32 hF => ?_
         ·refine CU ?_;exact ⟨((decide (11264 <= p0)) && (decide (p0 <= 12271))), hF, oy ok, wy ok⟩
         ·refine Qw ?_;refine Adc ?_;refine Bp (b := (decide (12289 <= p0))) 3 63 (.bool ((decide (12289 <= p0)) && (decide (p0 <= 55295)))) (fun hb33 => ?_) (fun hb33 => ?_) ?_
          ·refine Ry ?_;exact th
          ·refine HS ?_;exact th
          refine Ev ?_;exact ⟨((decide (12289 <= p0)) && (decide (p0 <= 55295))), hF, oy ok, wy ok⟩
       ·rintro a27 s' hF ⟨ok, hws⟩;refine AM hws ?_;refine Bd rfl hF (fun hb34 hF => ?_) fun hb34 hF => ?_
        ·refine IT ?_;exact rt
        ·refine SF ?_;refine Bp (b := (decide (63744 <= p0))) 3 70 (.bool ((decide (63744 <= p0)) && (decide (p0 <= 65533)))) (fun hb35 => ?_) (fun hb35 => ?_) ?_
         ·refine Ry ?_;exact th
         ·refine HS ?_;exact th
         refine Ev ?_;refine Bd rfl hF (fun hb36 hF => ?_) fun hb36 hF => ?_
         ·refine GP ?_;refine Sv ?_;refine Bp (b := (decide (p0 < 64976))) 3 76 (.bool ((decide (p0 < 64976)) || (decide (65008 <= p0)))) (fun hb37 => ?_) (fun hb37 => ?_) ?_
          ·refine Ko ?_;exact th
          ·refine Zy ?_;refine GI ?_;exact th
          refine Fz ?_;exact rt
         ·refine CU ?_;refine SF ?_;refine Bp (b := (decide (65536 <= p0))) 3 82 (.bool ((decide (65536 <= p0)) && (decide (p0 <= 983039)))) (fun hb38 => ?_) (fun hb38 => ?_) ?_
          ·refine Ry ?_;exact th
          ·refine HS ?_;exact th
          refine Fz ?_;exact rt
theorem E5 {β : Type} {f : Bool -> Option β} {G : β -> Prop} {R : D -> Heap -> Prop} {p0 : Int} (h : Heap) (hF : OptP ((BF p0).bind f) G) (hk : ∀ r, BF p0 = some r -> OptP (f r) G -> R (.bool r) h) : CallsA prog 63 [.int .i64 p0] h R := by
 obtain ⟨r0, hr, hF⟩ := Bs hF;refine (HI (G := fun r => r = r0) p0 h ⟨r0, hr, rfl⟩).mono ?_;rintro _ _ ⟨r, rfl, rfl, rfl⟩;exact hk _ hr hF
theorem HT (p0 : Int) {G : Bool -> Prop} (h : Heap) (hF : OptP (Bl p0) G) : CallsA prog 62 [.int .i64 p0] h fun d h' => ∃ r, G r /\ d = .bool r /\ h' = h := by
 refine CallsA.ret ?_;refine Bb func62 rfl Afz ntmps62 rfl (fun ok => ?_);rw [Bl] at hF;refine KU ?_;refine GP ?_;refine cl (E5 _ hF fun x1 _ hF => ?_);refine Cy ?_;refine Bp (b := x1) 3 8 (.bool (x1 || (p0 == 45))) (fun hb2 => ?_) (fun hb2 => ?_) ?_
 ·refine Ko ?_;exact th
 ·refine PO ?_;exact th
 refine Cy ?_;refine Bp (b := (x1 || (p0 == 45))) 3 12 (.bool ((x1 || (p0 == 45)) || (p0 == 46))) (fun hb3 => ?_) (fun hb3 => ?_) ?_
 ·refine Ko ?_;exact th
 ·refine PO ?_;exact th
 refine Cy ?_;refine Bp (b := ((x1 || (p0 == 45)) || (p0 == 46))) 7 20 (.bool (((x1 || (p0 == 45)) || (p0 == 46)) || ((decide (48 <= p0)) && (decide (p0 <= 57))))) (fun hb4 => ?_) (fun hb4 => ?_) ?_
 ·refine Xj ?_;refine SG ?_;exact th
 ·refine Zy ?_;refine RK ?_;refine Bp (b := (decide (48 <= p0))) 3 19 (.bool ((decide (48 <= p0)) && (decide (p0 <= 57)))) (fun hb6 => ?_) (fun hb6 => ?_) ?_
  ·refine Zh ?_;refine Wg ?_;exact th
  ·refine NM ?_;refine V8 ?_;exact th
  refine Og ?_;exact th
 refine Cy ?_;refine Bp (b := (((x1 || (p0 == 45)) || (p0 == 46)) || ((decide (48 <= p0)) && (decide (p0 <= 57))))) 3 24 (.bool ((((x1 || (p0 == 45)) || (p0 == 46)) || ((decide (48 <= p0)) && (decide (p0 <= 57)))) || (p0 == 183))) (fun hb7 => ?_) (fun hb7 => ?_) ?_
 ·refine Ko ?_;exact th
 ·refine PO ?_;exact th
 refine Cy ?_;refine Bp (b := ((((x1 || (p0 == 45)) || (p0 == 46)) || ((decide (48 <= p0)) && (decide (p0 <= 57)))) || (p0 == 183))) 7 32 (.bool (((((x1 || (p0 == 45)) || (p0 == 46)) || ((decide (48 <= p0)) && (decide (p0 <= 57)))) || (p0 == 183)) || ((decide (768 <= p0)) && (decide (p0 <= 879))))) (fun hb8 => ?_) (fun hb8 => ?_) ?_
 ·refine Xj ?_;refine SG ?_;exact th
 ·refine Zy ?_;refine RK ?_;refine Bp (b := (decide (768 <= p0))) 3 31 (.bool ((decide (768 <= p0)) && (decide (p0 <= 879)))) (fun hb10 => ?_) (fun hb10 => ?_) ?_
  ·refine Zh ?_;refine Wg ?_;exact th
  ·refine NM ?_;refine V8 ?_;exact th
  refine Og ?_;exact th
 refine Cy ?_;refine Bp (b := (((((x1 || (p0 == 45)) || (p0 == 46)) || ((decide (48 <= p0)) && (decide (p0 <= 57)))) || (p0 == 183)) || ((decide (768 <= p0)) && (decide (p0 <= 879))))) 3 36 (.bool ((((((x1 || (p0 == 45)) || (p0 == 46)) || ((decide (48 <= p0)) && (decide (p0 <= 57)))) || (p0 == 183)) || ((decide (768 <= p0)) && (decide (p0 <= 879)))) || (p0 == 8255))) (fun hb11 => ?_) (fun hb11 => ?_) ?_
 ·refine Ko ?_;exact th
 ·refine PO ?_;exact th
 refine Cy ?_;refine Bp (b := ((((((x1 || (p0 == 45)) || (p0 == 46)) || ((decide (48 <= p0)) && (decide (p0 <= 57)))) || (p0 == 183)) || ((decide (768 <= p0)) && (decide (p0 <= 879)))) || (p0 == 8255))) 3 40 (.bool (((((((x1 || (p0 == 45)) || (p0 == 46)) || ((decide (48 <= p0)) && (decide (p0 <= 57)))) || (p0 == 183)) || ((decide (768 <= p0)) && (decide (p0 <= 879)))) || (p0 == 8255)) || (p0 == 8256))) (fun hb12 => ?_) (fun hb12 => ?_) ?_
 ·refine Ko ?_;exact th
 ·refine PO ?_;exact th
 refine Fz ?_;exact rt
theorem HG {β : Type} {f : Bool -> Option β} {G : β -> Prop} {R : D -> Heap -> Prop} {p0 : Int} (h : Heap) (hF : OptP ((Bl p0).bind f) G) (hk : ∀ r, Bl p0 = some r -> OptP (f r) G -> R (.bool r) h) : CallsA prog 62 [.int .i64 p0] h R := by
 obtain ⟨r0, hr, hF⟩ := Bs hF;refine (HT (G := fun r => r = r0) p0 h ⟨r0, hr, rfl⟩).mono ?_;rintro _ _ ⟨r, rfl, rfl, rfl⟩;exact hk _ hr hF
theorem HM (p0 : List By8) {G : Bool -> Prop} (h : Heap) (hF : OptP (B0 p0) G) : CallsA prog 28 [.str p0] h fun d h' => ∃ r, G r /\ d = .bool r /\ h' = h := by
 refine CallsA.ret ?_;refine Bb func28 rfl Adr ntmps28 rfl (fun ok => ?_);rw [B0] at hF;refine KU ?_;refine KM ?_;refine Xm rfl rfl Hk Bm Tu ?_;refine SZ ?_;refine I4 ?_;refine JJ ?_;refine Zm ?_;refine QL ?_;refine Bp (b := ((p0.length : Int) == 0)) 4 16 (.bool (((p0.length : Int) == 0) || (decide (100 < (p0.length : Int))))) (fun hb1 => ?_) (fun hb1 => ?_) ?_
 ·refine M7 ?_;exact th
 ·refine Rz ?_;refine Zm ?_;refine Ye ?_;refine GI ?_;exact th
 refine A4 ?_;refine Bd rfl hF (fun hb2 hF => ?_) fun hb2 hF => ?_
 ·refine IT ?_;exact rt
 ·refine CU ?_;refine AO hF (fun (_ : Unit) s' => Zs h [] 46 [] s') (fun J18 hF => ?_) ?_
  ·refine Pw ?_;refine Kq ?_;refine BO (σ := Int) hF (fun (a19 : Int) s' => Zs h [] 46 [(3, .sl 1 (List.map TS p0) 0), (4, .int .i64 a19)] s') ?_ ?_
   ·exact ⟨oy ok, wy ok⟩
   ·rintro G20 hG21 rec22 a19 s' ih23 hF ⟨ok, hws⟩;refine AM hws ?_;rw [Cj] at hF;refine MA ?_;refine Oe ?_;refine Zm ?_;refine P3 ?_;refine Bd rfl hF (fun hb24 hF => ?_) fun hb24 hF => ?_
    ·refine V0 ?_;refine Abj ?_;refine cl (HH _ hF fun x25 _ hF => ?_);refine SM ?_;refine Xb ?_;refine QL ?_;refine BP 4 33 hF (fun J27 hb26 hF => ?_) (fun J27 hb26 hF => ?_) (fun v28 hF => ?_)
     ·refine M7 ?_;exact tw
     ·refine Kr ?_;refine cl (HG _ hF fun x29 _ hF => ?_);refine Y8 ?_;exact tw
     ·refine Cy ?_;refine BP 8 42 hF (fun J31 hb30 hF => ?_) (fun J31 hb30 hF => ?_) (fun v32 hF => ?_)
      ·refine Xj ?_;refine Yr ?_;refine SG ?_;exact tw
      ·refine Xr ?_;refine RK ?_;refine BP 4 41 hF (fun J34 hb33 hF => ?_) (fun J34 hb33 hF => ?_) (fun v35 hF => ?_)
       ·refine Kr ?_;refine cl (E5 _ hF fun x36 _ hF => ?_);refine Zi ?_;refine Wg ?_;exact tw
       ·refine RH ?_;refine V8 ?_;exact tw
       ·refine Og ?_;exact tw
      ·refine A4 ?_;refine Bd rfl hF (fun hb37 hF => ?_) fun hb37 hF => ?_
       ·refine IT ?_;replace hF := hG21 _ (At hF);exact rt
       ·refine CU ?_;refine Qw ?_;refine E8 ?_;refine Z6 ?_;refine ih23 (IntKind.wrap .i64 (a19 + x25.2)) _ hF ?_;exact ⟨oy ok, wy ok⟩
    ·refine Ft ?_;replace hF := hG21 _ (At hF);exact ⟨(), hF, oy ok, wy ok⟩
  ·rintro ⟨⟩ s' hF ⟨ok, hws⟩;refine AM hws ?_;refine IT ?_;exact rt
theorem HA {β : Type} {f : Bool -> Option β} {G : β -> Prop} {R : D -> Heap -> Prop} {p0 : List By8} (h : Heap) (hF : OptP ((B0 p0).bind f) G) (hk : ∀ r, B0 p0 = some r -> OptP (f r) G -> R (.bool r) h) : CallsA prog 28 [.str p0] h R := by
 obtain ⟨r0, hr, hF⟩ := Bs hF;refine (HM (G := fun r => r = r0) p0 h ⟨r0, hr, rfl⟩).mono ?_;rintro _ _ ⟨r, rfl, rfl, rfl⟩;exact hk _ hr hF
theorem EV (p0 : List By8) (p1 : Int) {G : Bool -> Prop} (h : Heap) (hF : OptP (By p0 p1) G) : CallsA prog 29 [.str p0, .int .u8 p1] h fun d h' => ∃ r, G r /\ d = .bool r /\ h' = h := by
 refine CallsA.ret ?_;refine Bb func29 rfl Adv ntmps29 rfl (fun ok => ?_);rw [By] at hF;refine KU ?_;refine AO hF (fun (_ : Unit) s' => Zs h [] 17 [] s') (fun J5 hF => ?_) ?_
 ·refine Pw ?_;refine Kq ?_;refine BO (σ := Int) hF (fun (a6 : Int) s' => Zs h [] 17 [(0, .str p0), (1, .int .u8 p1), (5, .int .i64 a6)] s') ?_ ?_
  ·exact ⟨oy ok, wy ok⟩
  ·rintro G7 hG8 rec9 a6 s' ih10 hF ⟨ok, hws⟩;refine AM hws ?_;rw [B7] at hF;refine MA ?_;refine LV ?_;refine KF ?_;refine P3 ?_;refine Bd rfl hF (fun hb11 hF => ?_) fun hb11 hF => ?_
   ·refine YV ?_;refine Y7 ?_;refine I1 rfl rfl Bm hF (fun x12 _ hF => ?_);refine E8 ?_;refine Om ?_;refine Bd rfl hF (fun hb13 hF => ?_) fun hb13 hF => ?_
    ·refine IT ?_;replace hF := hG8 _ (At hF);exact rt
    ·refine CU ?_;refine Sw ?_;refine ih10 (IntKind.wrap .i64 (a6 + 1)) _ hF ?_;exact ⟨oy ok, wy ok⟩
   ·refine Ft ?_;replace hF := hG8 _ (At hF);exact ⟨(), hF, oy ok, wy ok⟩
 ·rintro ⟨⟩ s' hF ⟨ok, hws⟩;refine AM hws ?_;refine IT ?_;exact rt
theorem Oa : ∀ (N : Nat) (v : Ab) (G : Ab -> Prop) (h : Heap), OptP (iter Cr N v) G -> CallsA prog 98 [.agg (Ae v)] h fun d h' => ∃ r, G r /\ d = .agg (Ae r) /\ h' = h := by
 intro N
 induction N with
 | zero => intro v G h hF; exact Lv hF
 | succ N ih0 =>
 intro p0 G h hF;show CallsA prog 98 [.agg (Ae p0)] h fun d h' => ∃ r, G r /\ d = .agg (Ae r) /\ h' = h;replace hF : OptP (Cr (iter Cr N) p0) G := hF;refine CallsA.ret ?_;refine Bb func98 rfl Af2 ntmps98 rfl (fun ok => ?_);rw [Cr] at hF;refine Gy ?_;refine Cz (mdl [(1, 1), (2, 1)]) ?_;refine OO (cs := [.int .i64 p0.Kind, .str p0.Name.URI, .str p0.Name.Local, .sl 3 (List.map An p0.Attrs) 0, .sl 6 (List.map Ae p0.Kids) 0, .str p0.Text]) ok rfl rfl rfl (Ac p0) ?_;intro i1 hi1 ok;refine B3 ok rfl Dh ?_;intro i2 hi2 ok;refine Gi ?_;refine ZZ ?_;refine B6 (j := 1) ok rfl rfl rfl (by assumption) (Be (v := .sl _ _ _) Ef BI rfl) ?_;refine VE rfl rfl rfl NW VP hF (fun hF => ?_);refine ZZ ?_;refine st_ 1 ok hi1 BI (fun ok => ?_);refine Gi ?_;refine Wo ?_;refine Ad4 ?_;refine SZ ?_;refine Gi ?_;refine Wo ?_;refine st_ 1 ok hi1 BV (fun ok => ?_);refine KJ 1 4 6 (fun r3 => [.int .i64 p0.Kind, .str p0.Name.URI, .str p0.Name.Local, .sl 3 (List.map An ([] ++ p0.Attrs)) 0, .sl 6 (List.map Ae []) r3, .str p0.Text]) ok rfl hi1 rfl (fun _ => rfl) ?_;intro r3 hr3 ok;refine A4 ?_;refine AO hF (fun (v : Int × (List By8) × (List By8) × (List Ah) × (List Ab) × (List By8)) s' => match v with | (a19, a20, a21, a22, a23, a25) => ∃ g24 : Nat, g24 ≠ 0 /\ Zs h [(g24, .room), (i2, .cells [.int .i64 0, .str [], .str [], .sl 3 (List.map An []) 0, .sl 6 (List.map Ae []) 0, .str []]), (i1, .cells [.int .i64 a19, .str a20, .str a21, .sl 3 (List.map An a22) 0, .sl 6 (List.map Ae a23) g24, .str a25])] 28 [(1, .ptr i1 0), (2, .ptr i2 0)] s') (fun J26 hF => ?_) ?_
 ·refine JJ ?_;refine Xt ?_;refine BO (σ := Int × (List By8) × (List By8) × (List Ah) × (List Ab) × (List By8) × Int) hF (fun (v : Int × (List By8) × (List By8) × (List Ah) × (List Ab) × (List By8) × Int) s' => match v with | (a27, a28, a29, a30, a31, a33, a34) => ∃ g32 : Nat, g32 ≠ 0 /\ Zs h [(g32, .room), (i2, .cells [.int .i64 0, .str [], .str [], .sl 3 (List.map An []) 0, .sl 6 (List.map Ae []) 0, .str []]), (i1, .cells [.int .i64 a27, .str a28, .str a29, .sl 3 (List.map An a30) 0, .sl 6 (List.map Ae a31) g32, .str a33])] 28 [(1, .ptr i1 0), (2, .ptr i2 0), (13, .sl 6 (List.map Ae p0.Kids) 0), (14, .int .i64 (p0.Kids.length : Int)), (15, .int .i64 a34)] s') ?_ ?_
  ·have hwo : WO [(r3, .room), (i2, .cells [.int .i64 0, .str [], .str [], .snil, .snil, .str []]), (i1, .cells [.int .i64 p0.Kind, .str p0.Name.URI, .str p0.Name.Local, .sl 3 (List.map An ([] ++ p0.Attrs)) 0, .sl 6 (List.map Ae []) r3, .str p0.Text])] [(r3, .room), (i2, .cells [.int .i64 0, .str [], .str [], .sl 3 (List.map An []) 0, .sl 6 (List.map Ae []) 0, .str []]), (i1, .cells [.int .i64 p0.Kind, .str p0.Name.URI, .str p0.Name.Local, .sl 3 (List.map An ([] ++ p0.Attrs)) 0, .sl 6 (List.map Ae []) r3, .str p0.Text])] := (.keep (.weak (.cons (.refl _) (.cons (.refl _) (.cons (.refl _) (.cons (.nil _) (.cons (.nil _) (.cons (.refl _) (.nil))))))) (.keep .nil)))
   exact ⟨r3, hr3, (hwo.spec ok).1, WS.mk' (.cons (.refl _) (.cons (.refl _) (.cons (.refl _) (.cons (.refl _) (.cons (.refl _) .nil))))) ok hwo⟩
  ·rintro G35 hG36 rec37 ⟨a27, a28, a29, a30, a31, a33, a34⟩ s' ih38 hF ⟨g32, hg32, ok, hws⟩;refine AM hws ?_;rw [DO] at hF;refine Je ?_;refine Bd rfl hF (fun hb39 hF => ?_) fun hb39 hF => ?_
   ·refine VZ ?_;refine Cz (mdl [(5, 1)]) ?_;refine F2 rfl rfl Eg AE hF (fun x40 _ hF => ?_);refine A2 rfl (Bc (vs := Ae x40) Bq AE (by rw [Ac]; rfl) (by rw [Ac]; rfl)) ?_;refine B3 ok rfl Dh ?_;intro i41 hi41 ok;refine FU (j := 0) (cs' := [.int .i64 x40.Kind, .str x40.Name.URI, .str x40.Name.Local, .sl 3 (List.map An x40.Attrs) 0, .sl 6 (List.map Ae x40.Kids) 0, .str x40.Text]) ok rfl (congrArg D.agg (Ac x40)) rfl hi41 rfl AE rfl rfl (fun ok => ?_);refine A4 ?_;refine Aad (mdl [(24, 2)]) [0, 2] [1, 3, 4, 5, 6, 7] [3, 1, 4, 5, 6, 7] [_, _] [_, _, _, _, _, _] [_, _, _, _, _, _] (by kernel_rfl) rfl rfl rfl rfl (by kernel_rfl) ?_;refine Wo ?_;refine B6 (j := 0) ok rfl rfl rfl hi41 (Bc (vs := Ae x40) Bq AE rfl (Ac x40).symm) ?_;refine A4 ?_;refine ⟨?_, ?_⟩
    ·refine Agb ?_;refine cl (Bu (enc := fun r => .agg (Ae r)) (fun G h hF => ih0 x40 G h hF) _ hF fun x42 _ hF => ?_);refine Na (d := 22) (v := .agg [.int .i64 x42.Kind, .str x42.Name.URI, .str x42.Name.Local, .sl 3 (List.map An x42.Attrs) 0, .sl 6 (List.map Ae x42.Kids) 0, .str x42.Text]) (congrArg D.agg (Ac x42)) ?_;refine CD (cs := [.int .i64 x42.Kind, .str x42.Name.URI, .str x42.Name.Local, .sl 3 (List.map An x42.Attrs) 0, .sl 6 (List.map Ae x42.Kids) 0, .str x42.Text]) (es := (List.map Ae [x42])) rfl GB rfl (by kernel_rfl) (by simp only [List.map_cons, List.map_nil, Ac]; rfl) ?_;refine F4 (j := 1) ok rfl rfl rfl rfl hg32 GB NJ hF ?_;intro r43 hr43 ok hF;refine Wo ?_;refine st_ 3 ok hi1 BV (fun ok => ?_);refine A4 ?_;refine M6 ?_;refine ih38 (a27, a28, a29, a30, (a31 ++ [x42]), a33, (IntKind.wrap .i64 (a34 + 1))) _ hF ?_;exact ⟨r43, hr43, oy ok, wy ok⟩
    ·refine cl (Bu (enc := fun r => .agg (Ae r)) (fun G h hF => ih0 x40 G h hF) _ hF fun x44 _ hF => ?_);refine Agb ?_;refine Na (d := 22) (v := .agg [.int .i64 x44.Kind, .str x44.Name.URI, .str x44.Name.Local, .sl 3 (List.map An x44.Attrs) 0, .sl 6 (List.map Ae x44.Kids) 0, .str x44.Text]) (congrArg D.agg (Ac x44)) ?_;refine CD (cs := [.int .i64 x44.Kind, .str x44.Name.URI, .str x44.Name.Local, .sl 3 (List.map An x44.Attrs) 0, .sl 6 (List.map Ae x44.Kids) 0, .str x44.Text]) (es := (List.map Ae [x44])) rfl GB rfl (by kernel_rfl) (by simp only [List.map_cons, List.map_nil, Ac]; rfl) ?_;refine F4 (j := 1) ok rfl rfl rfl rfl hg32 GB NJ hF ?_;intro r45 hr45 ok hF;refine Wo ?_;refine st_ 3 ok hi1 BV (fun ok => ?_);refine A4 ?_;refine M6 ?_;refine ih38 (a27, a28, a29, a30, (a31 ++ [x44]), a33, (IntKind.wrap .i64 (a34 + 1))) _ hF ?_;exact ⟨r45, hr45, oy ok, wy ok⟩
   ·refine Ft ?_;replace hF := hG36 _ (At hF);exact ⟨(a27, a28, a29, a30, a31, a33), hF, g32, hg32, oy ok, wy ok⟩
 ·rintro ⟨a19, a20, a21, a22, a23, a25⟩ s' hF ⟨g24, hg24, ok, hws⟩;refine AM hws ?_;refine Bz ?_;refine B6 (j := 2) ok rfl rfl rfl hi1 (Bc (vs := [.int .i64 a19, .str a20, .str a21, .sl 3 (List.map An a22) 0, .sl 6 (List.map Ae a23) g24, .str a25]) Bq AE rfl rfl) ?_;refine DW 27 (v := .agg (Ae (⟨a19, (⟨a20, a21⟩ : Aa), a22, a23, a25⟩ : Ab))) (Wd.toE (.aggC (.cons (.refl _) (.cons (.refl _) (.cons (.refl _) (.cons (.refl _) (.cons (.zero _ _ _) (.cons (.refl _) (.nil)))))))) (Ac _)) ?_;refine FU (j := 1) (cs' := [.int .i64 (⟨a19, (⟨a20, a21⟩ : Aa), a22, a23, a25⟩ : Ab).Kind, .str (⟨a19, (⟨a20, a21⟩ : Aa), a22, a23, a25⟩ : Ab).Name.URI, .str (⟨a19, (⟨a20, a21⟩ : Aa), a22, a23, a25⟩ : Ab).Name.Local, .sl 3 (List.map An (⟨a19, (⟨a20, a21⟩ : Aa), a22, a23, a25⟩ : Ab).Attrs) 0, .sl 6 (List.map Ae (⟨a19, (⟨a20, a21⟩ : Aa), a22, a23, a25⟩ : Ab).Kids) 0, .str (⟨a19, (⟨a20, a21⟩ : Aa), a22, a23, a25⟩ : Ab).Text]) ok rfl (congrArg D.agg (Ac (⟨a19, (⟨a20, a21⟩ : Aa), a22, a23, a25⟩ : Ab))) rfl hi2 rfl AE rfl rfl (fun ok => ?_);refine JO ?_;refine xr ?_;refine HP (fn := Tryz.f98) rfl (.cell rfl (CZ (j := 1) ok rfl hi2 (Bc (vs := [.int .i64 (⟨a19, (⟨a20, a21⟩ : Aa), a22, a23, a25⟩ : Ab).Kind, .str (⟨a19, (⟨a20, a21⟩ : Aa), a22, a23, a25⟩ : Ab).Name.URI, .str (⟨a19, (⟨a20, a21⟩ : Aa), a22, a23, a25⟩ : Ab).Name.Local, .sl 3 (List.map An (⟨a19, (⟨a20, a21⟩ : Aa), a22, a23, a25⟩ : Ab).Attrs) 0, .sl 6 (List.map Ae (⟨a19, (⟨a20, a21⟩ : Aa), a22, a23, a25⟩ : Ab).Kids) 0, .str (⟨a19, (⟨a20, a21⟩ : Aa), a22, a23, a25⟩ : Ab).Text]) Bq AE rfl rfl)) .nil) ?_;exact ⟨_, _, (Wd.toE (.aggC (.cons (.refl _) (.cons (.refl _) (.cons (.refl _) (.cons (.refl _) (.cons (.refl _) (.cons (.refl _) (.nil)))))))) (Ac _)), ok.wh, _, At hF, rfl, rfl⟩
theorem NI (p0 : Ab) {G : Ab -> Prop} (h : Heap) (hF : OptP (I6 p0) G) : CallsA prog 98 [.agg (Ae p0)] h fun d h' => ∃ r, G r /\ d = .agg (Ae r) /\ h' = h := Oa FUEL p0 G h hF
theorem Qy (p0 : Ab) (p1 : List Int) {G : Ab × Int -> Prop} (h : Heap) (hF : OptP (HN p0 p1) G) : CallsA prog 59 [.agg (Ae p0), .sl 1 (List.map CH p1) 0] h fun d h' => ∃ r, G r /\ d = .tup [.agg (Ae r.1), .int .i64 r.2] /\ h' = h := by
 refine CallsA.ret ?_;refine Bb func59 rfl Afc ntmps59 rfl (fun ok => ?_);rw [HN] at hF;refine Gy ?_;refine Cz (mdl [(2, 1), (4, 1)]) ?_;refine OO (cs := [.int .i64 p0.Kind, .str p0.Name.URI, .str p0.Name.Local, .sl 3 (List.map An p0.Attrs) 0, .sl 6 (List.map Ae p0.Kids) 0, .str p0.Text]) ok rfl rfl rfl (Ac p0) ?_;intro i1 hi1 ok;refine B3 ok rfl Dh ?_;intro i2 hi2 ok;refine HD ?_;refine AO hF (fun (v : Int × (List By8) × (List By8) × (List Ah) × (List Ab) × (List By8) × Int × (List By8) × (List By8) × (List Ah) × (List Ab) × (List By8)) s' => match v with | (a21, a22, a23, a24, a25, a26, a27, a28, a29, a30, a31, a32) => Zs h [(i2, .cells [.int .i64 a27, .str a28, .str a29, .sl 3 (List.map An a30) 0, .sl 6 (List.map Ae a31) 0, .str a32]), (i1, .cells [.int .i64 a21, .str a22, .str a23, .sl 3 (List.map An a24) 0, .sl 6 (List.map Ae a25) 0, .str a26])] 32 [(2, .ptr i1 0), (4, .ptr i2 0)] s') (fun J33 hF => ?_) ?_
 ·refine Zk ?_;refine Lt ?_;refine BO (σ := Int × (List By8) × (List By8) × (List Ah) × (List Ab) × (List By8) × Int × (List By8) × (List By8) × (List Ah) × (List Ab) × (List By8) × Int) hF (fun (v : Int × (List By8) × (List By8) × (List Ah) × (List Ab) × (List By8) × Int × (List By8) × (List By8) × (List Ah) × (List Ab) × (List By8) × Int) s' => match v with | (a34, a35, a36, a37, a38, a39, a40, a41, a42, a43, a44, a45, a46) => Zs h [(i2, .cells [.int .i64 a40, .str a41, .str a42, .sl 3 (List.map An a43) 0, .sl 6 (List.map Ae a44) 0, .str a45]), (i1, .cells [.int .i64 a34, .str a35, .str a36, .sl 3 (List.map An a37) 0, .sl 6 (List.map Ae a38) 0, .str a39])] 32 [(2, .ptr i1 0), (4, .ptr i2 0), (8, .sl 1 (List.map CH p1) 0), (9, .int .i64 (p1.length : Int)), (10, .int .i64 a46)] s') ?_ ?_
  ·have hwo : WO [(i2, .cells [.int .i64 0, .str [], .str [], .snil, .snil, .str []]), (i1, .cells [.int .i64 p0.Kind, .str p0.Name.URI, .str p0.Name.Local, .sl 3 (List.map An p0.Attrs) 0, .sl 6 (List.map Ae p0.Kids) 0, .str p0.Text])] [(i2, .cells [.int .i64 0, .str [], .str [], .sl 3 (List.map An []) 0, .sl 6 (List.map Ae []) 0, .str []]), (i1, .cells [.int .i64 p0.Kind, .str p0.Name.URI, .str p0.Name.Local, .sl 3 (List.map An p0.Attrs) 0, .sl 6 (List.map Ae p0.Kids) 0, .str p0.Text])] := (.weak (.cons (.refl _) (.cons (.refl _) (.cons (.refl _) (.cons (.nil _) (.cons (.nil _) (.cons (.refl _) (.nil))))))) (.keep .nil))
   exact ⟨(hwo.spec ok).1, WS.mk' (.cons (.refl _) (.cons (.refl _) (.cons (.refl _) (.cons (.refl _) (.cons (.refl _) .nil))))) ok hwo⟩
  ·rintro G47 hG48 rec49 ⟨a34, a35, a36, a37, a38, a39, a40, a41, a42, a43, a44, a45, a46⟩ s' ih50 hF ⟨ok, hws⟩;refine AM hws ?_;rw [FI] at hF;refine Je ?_;refine Bd rfl hF (fun hb51 hF => ?_) fun hb51 hF => ?_
   ·refine YV ?_;refine Bz ?_;refine F2 rfl rfl Ee AJ hF (fun x52 _ hF => ?_);refine V1 ?_;refine HD ?_;refine MA ?_;refine Sv ?_;refine Bp (b := (decide (x52 < 0))) 6 22 (.bool ((decide (x52 < 0)) || (decide ((a38.length : Int) <= x52)))) (fun hb53 => ?_) (fun hb53 => ?_) ?_
    ·refine Ii ?_;refine SG ?_;exact th
    ·refine Kr ?_;refine Wo ?_;refine Br ?_;refine Ad4 ?_;refine Br ?_;refine Afv ?_;refine YZ ?_;refine GI ?_;exact th
    refine A4 ?_;refine Bd rfl hF (fun hb54 hF => ?_) fun hb54 hF => ?_
    ·refine Bz ?_;refine C6 (v := .agg [.int .i64 0, .str [], .str [], .snil, .snil, .str []]) (Gw Dh KR rfl) ?_;refine DW 23 (v := .agg (Ae (⟨0, (⟨[], []⟩ : Aa), [], [], []⟩ : Ab))) (Wd.toE (.aggC (.cons (.refl _) (.cons (.refl _) (.cons (.refl _) (.cons (.nil _) (.cons (.nil _) (.cons (.refl _) (.nil)))))))) (Ac _)) ?_;refine FU (j := 0) (cs' := [.int .i64 (⟨0, (⟨[], []⟩ : Aa), [], [], []⟩ : Ab).Kind, .str (⟨0, (⟨[], []⟩ : Aa), [], [], []⟩ : Ab).Name.URI, .str (⟨0, (⟨[], []⟩ : Aa), [], [], []⟩ : Ab).Name.Local, .sl 3 (List.map An (⟨0, (⟨[], []⟩ : Aa), [], [], []⟩ : Ab).Attrs) 0, .sl 6 (List.map Ae (⟨0, (⟨[], []⟩ : Aa), [], [], []⟩ : Ab).Kids) 0, .str (⟨0, (⟨[], []⟩ : Aa), [], [], []⟩ : Ab).Text]) ok rfl (congrArg D.agg (Ac (⟨0, (⟨[], []⟩ : Aa), [], [], []⟩ : Ab))) rfl hi2 rfl AE rfl rfl (fun ok => ?_);refine QC ?_;replace hF := hG48 _ (At hF);refine xr ?_;refine HP (fn := Tryz.f59) rfl (.cell rfl (CZ (j := 0) ok rfl hi2 (Bc (vs := [.int .i64 (⟨0, (⟨[], []⟩ : Aa), [], [], []⟩ : Ab).Kind, .str (⟨0, (⟨[], []⟩ : Aa), [], [], []⟩ : Ab).Name.URI, .str (⟨0, (⟨[], []⟩ : Aa), [], [], []⟩ : Ab).Name.Local, .sl 3 (List.map An (⟨0, (⟨[], []⟩ : Aa), [], [], []⟩ : Ab).Attrs) 0, .sl 6 (List.map Ae (⟨0, (⟨[], []⟩ : Aa), [], [], []⟩ : Ab).Kids) 0, .str (⟨0, (⟨[], []⟩ : Aa), [], [], []⟩ : Ab).Text]) Bq AE rfl rfl)) (.tmp (v := .int .i64 35) rfl .nil)) ?_;exact ⟨_, _, (.tupC (.cons (Wd.toE (.aggC (.cons (.refl _) (.cons (.refl _) (.cons (.refl _) (.cons (.refl _) (.cons (.refl _) (.cons (.refl _) (.nil)))))))) (Ac _)) (.cons (.refl _) (.nil)))), ok.wh, _, At hF, rfl, rfl⟩
    ·refine CU ?_;refine KS ?_;refine Wo ?_;refine Ad4 ?_;refine E8 ?_;refine F2 rfl rfl Eg AE hF (fun x55 _ hF => ?_);refine A2 rfl (Bc (vs := Ae x55) Bq AE (by rw [Ac]; rfl) (by rw [Ac]; rfl)) ?_;refine FU (j := 1) (cs' := [.int .i64 x55.Kind, .str x55.Name.URI, .str x55.Name.Local, .sl 3 (List.map An x55.Attrs) 0, .sl 6 (List.map Ae x55.Kids) 0, .str x55.Text]) ok rfl (congrArg D.agg (Ac x55)) rfl hi1 rfl AE rfl rfl (fun ok => ?_);refine A4 ?_;refine M6 ?_;refine ih50 (x55.Kind, x55.Name.URI, x55.Name.Local, x55.Attrs, x55.Kids, x55.Text, a40, a41, a42, a43, a44, a45, (IntKind.wrap .i64 (a46 + 1))) _ hF ?_;exact ⟨oy ok, wy ok⟩
   ·refine Ft ?_;replace hF := hG48 _ (At hF);exact ⟨(a34, a35, a36, a37, a38, a39, a40, a41, a42, a43, a44, a45), hF, oy ok, wy ok⟩
 ·rintro ⟨a21, a22, a23, a24, a25, a26, a27, a28, a29, a30, a31, a32⟩ s' hF ⟨ok, hws⟩;refine AM hws ?_;refine Bz ?_;refine B6 (j := 1) ok rfl rfl rfl hi1 (Bc (vs := Ae (⟨a21, (⟨a22, a23⟩ : Aa), a24, a25, a26⟩ : Ab)) Bq AE rfl (Ac (⟨a21, (⟨a22, a23⟩ : Aa), a24, a25, a26⟩ : Ab)).symm) ?_;refine cl (Bu (fun _ h hF => NI _ h hF) _ hF fun x56 _ hF => ?_);refine FU (j := 0) (cs' := [.int .i64 x56.Kind, .str x56.Name.URI, .str x56.Name.Local, .sl 3 (List.map An x56.Attrs) 0, .sl 6 (List.map Ae x56.Kids) 0, .str x56.Text]) ok rfl (congrArg D.agg (Ac x56)) rfl hi2 rfl AE rfl rfl (fun ok => ?_);refine QC ?_;refine xr ?_;refine HP (fn := Tryz.f59) rfl (.cell rfl (CZ (j := 0) ok rfl hi2 (Bc (vs := [.int .i64 x56.Kind, .str x56.Name.URI, .str x56.Name.Local, .sl 3 (List.map An x56.Attrs) 0, .sl 6 (List.map Ae x56.Kids) 0, .str x56.Text]) Bq AE rfl rfl)) (.tmp (v := .int .i64 0) rfl .nil)) ?_;exact ⟨_, _, (.tupC (.cons (Wd.toE (.aggC (.cons (.refl _) (.cons (.refl _) (.cons (.refl _) (.cons (.refl _) (.cons (.refl _) (.cons (.refl _) (.nil)))))))) (Ac _)) (.cons (.refl _) (.nil)))), ok.wh, _, At hF, rfl, rfl⟩
theorem KY : ∀ (N : Nat) (v : Ab) (G : (List By8) -> Prop) (h : Heap), OptP (iter BU N v) G -> CallsA prog 60 [.agg (Ae v)] h fun d h' => ∃ r, G r /\ d = .str r /\ h' = h := by
 intro N
 induction N with
 | zero => intro v G h hF; exact Lv hF
 | succ N ih0 =>
 intro p0 G h hF;show CallsA prog 60 [.agg (Ae p0)] h fun d h' => ∃ r, G r /\ d = .str r /\ h' = h;replace hF : OptP (BU (iter BU N) p0) G := hF;refine CallsA.ret ?_;refine Bb func60 rfl Ae8 ntmps60 rfl (fun ok => ?_);rw [BU] at hF;refine Bz ?_;refine Co (v := .agg (Ae p0)) (cs := Ae p0) rfl rfl rfl rfl ?_;refine S_a (v := .str []) rfl ?_;refine Gi ?_;refine S_a (v := .str []) rfl ?_;refine A4 ?_;refine AO hF (fun (a10 : (List By8)) s' => Zs h [] 26 [(3, .str a10)] s') (fun J11 hF => ?_) ?_
 ·refine Bz ?_;refine BC rfl DN BV (by rw [Ac]; rfl) ?_;refine A2 rfl (Be Ew BV (congrArg (List.drop 4) (Ac p0))) ?_;refine Xt ?_;refine BO (σ := (List By8) × Int) hF (fun (v : (List By8) × Int) s' => match v with | (a12, a13) => Zs h [] 26 [(3, .str a12), (7, .sl 6 (List.map Ae p0.Kids) 0), (8, .int .i64 (p0.Kids.length : Int)), (9, .int .i64 a13)] s') ?_ ?_
  ·exact ⟨oy ok, wy ok⟩
  ·rintro G14 hG15 rec16 ⟨a12, a13⟩ s' ih17 hF ⟨ok, hws⟩;refine AM hws ?_;rw [DG] at hF;refine Je ?_;refine Bd rfl hF (fun hb18 hF => ?_) fun hb18 hF => ?_
   ·refine VZ ?_;refine Cz (mdl [(5, 1)]) ?_;refine F2 rfl rfl Eg AE hF (fun x19 _ hF => ?_);refine A2 rfl (Bc (vs := Ae x19) Bq AE (by rw [Ac]; rfl) (by rw [Ac]; rfl)) ?_;refine B3 ok rfl Dh ?_;intro i20 hi20 ok;refine FU (j := 0) (cs' := [.int .i64 x19.Kind, .str x19.Name.URI, .str x19.Name.Local, .sl 3 (List.map An x19.Attrs) 0, .sl 6 (List.map Ae x19.Kids) 0, .str x19.Text]) ok rfl (congrArg D.agg (Ac x19)) rfl hi20 rfl AE rfl rfl (fun ok => ?_);refine A4 ?_;refine AO hF (fun (a22 : (List By8)) s' => Zs h [(i20, .cells [.int .i64 x19.Kind, .str x19.Name.URI, .str x19.Name.Local, .sl 3 (List.map An x19.Attrs) 0, .sl 6 (List.map Ae x19.Kids) 0, .str x19.Text])] 26 [(3, .str a22), (5, .ptr i20 0), (7, .sl 6 (List.map Ae p0.Kids) 0), (8, .int .i64 (p0.Kids.length : Int)), (9, .int .i64 a13)] s') (fun J23 hF => ?_) ?_
    ·refine Bz ?_;refine YJ ?_;refine Rt ?_;refine Om ?_;refine Bd rfl hF (fun hb24 hF => ?_) fun hb24 hF => ?_
     ·refine KS ?_;refine LV ?_;refine C3 rfl CE AI ?_;refine U0 ?_;refine JR rfl rfl hF (fun hF => ?_);refine Pv ?_;refine A4 ?_;exact ⟨(a12 ++ x19.Text), hF, oy ok, wy ok⟩
     ·refine CU ?_;exact ⟨a12, hF, oy ok, wy ok⟩
    ·rintro a22 s' hF ⟨ok, hws⟩;refine AM hws ?_;refine KS ?_;refine LV ?_;refine B6 (j := 0) ok rfl rfl rfl hi20 (Bc (vs := Ae x19) Bq AE rfl (Ac x19).symm) ?_;refine cl (Bu (enc := fun r => .str r) (fun G h hF => ih0 x19 G h hF) _ hF fun x25 _ hF => ?_);refine JR rfl rfl hF (fun hF => ?_);refine Pv ?_;refine A4 ?_;refine M6 ?_;refine ih17 ((a22 ++ x25), (IntKind.wrap .i64 (a13 + 1))) _ hF ?_;exact ⟨oy ok, wy ok⟩
   ·refine Ft ?_;replace hF := hG15 _ (At hF);exact ⟨a12, hF, oy ok, wy ok⟩
 ·rintro a10 s' hF ⟨ok, hws⟩;refine AM hws ?_;refine KM ?_;refine Pv ?_;refine JO ?_;exact rt
theorem L6 (p0 : Ab) {G : (List By8) -> Prop} (h : Heap) (hF : OptP (Hu p0) G) : CallsA prog 60 [.agg (Ae p0)] h fun d h' => ∃ r, G r /\ d = .str r /\ h' = h := KY FUEL p0 G h hF
theorem Lp (p0 : Ab) (p1 : Ak) {G : (List By8) × Int -> Prop} (h : Heap) (hF : OptP (E7 p0 p1) G) : CallsA prog 27 [.agg (Ae p0), .agg (Aq p1)] h fun d h' => ∃ r, G r /\ d = .tup [.str r.1, .int .i64 r.2] /\ h' = h := by
 refine CallsA.ret ?_;refine Bb func27 rfl Aed ntmps27 rfl (fun ok => ?_);rw [E7] at hF;refine Bz ?_;refine Co (v := .agg (Ae p0)) (cs := Ae p0) rfl rfl rfl rfl ?_;refine Co rfl rfl rfl rfl ?_;refine S_a (v := .str []) rfl ?_;refine HD ?_;refine Gy ?_;refine Cz (mdl [(6, 1)]) ?_;refine A2 rfl (Bc (vs := Ae p0) Bq AE (by rw [Ac]; rfl) (by rw [Ac]; rfl)) ?_;refine YN ?_;refine cl (Bu (fun _ h hF => Qy _ _ h hF) _ hF fun x1 _ hF => ?_);refine SM ?_;refine B3 ok rfl Dh ?_;intro i2 hi2 ok;refine FU (j := 0) (cs' := [.int .i64 x1.1.Kind, .str x1.1.Name.URI, .str x1.1.Name.Local, .sl 3 (List.map An x1.1.Attrs) 0, .sl 6 (List.map Ae x1.1.Kids) 0, .str x1.1.Text]) ok rfl (congrArg D.agg (Ac x1.1)) rfl hi2 rfl AE rfl rfl (fun ok => ?_);refine HD ?_;refine MA ?_;refine Sq ?_;refine Bd rfl hF (fun hb3 hF => ?_) fun hb3 hF => ?_
 ·refine GP ?_;refine S_a (v := .str []) rfl ?_;refine QC ?_;exact rt
 ·refine CU ?_;refine AO hF (fun (_ : Unit) s' => Zs h [(i2, .cells [.int .i64 x1.1.Kind, .str x1.1.Name.URI, .str x1.1.Name.Local, .sl 3 (List.map An x1.1.Attrs) 0, .sl 6 (List.map Ae x1.1.Kids) 0, .str x1.1.Text])] 59 [(6, .ptr i2 0)] s') (fun J17 hF => ?_) ?_
  ·refine Bz ?_;refine XU ?_;refine WK ?_;refine A4 ?_;refine Bd rfl hF (fun hb18 hF => ?_) fun hb18 hF => ?_
   ·refine AO hF (fun (_ : Unit) s' => Zs h [] 59 [] s') (fun J25 hF => ?_) ?_
    ·refine Bz ?_;refine ZZ ?_;refine B6 (j := 0) ok rfl rfl rfl (by assumption) (Be (v := .sl _ _ _) Ef BI rfl) ?_;refine Zf ?_;refine Lt ?_;refine BO (σ := Int) hF (fun (a26 : Int) s' => Zs h [(i2, .cells [.int .i64 x1.1.Kind, .str x1.1.Name.URI, .str x1.1.Name.Local, .sl 3 (List.map An x1.1.Attrs) 0, .sl 6 (List.map Ae x1.1.Kids) 0, .str x1.1.Text])] 59 [(3, .iptr (Aq p1)), (6, .ptr i2 0), (23, .sl 3 (List.map An x1.1.Attrs) 0), (24, .int .i64 (x1.1.Attrs.length : Int)), (25, .int .i64 a26)] s') ?_ ?_
     ·exact ⟨oy ok, wy ok⟩
     ·rintro G27 hG28 rec29 a26 s' ih30 hF ⟨ok, hws⟩;refine AM hws ?_;rw [F0] at hF;refine Je ?_;refine Bd rfl hF (fun hb31 hF => ?_) fun hb31 hF => ?_
      ·refine VZ ?_;refine Cz (mdl [(9, 1)]) ?_;refine F2 rfl rfl Hv EM hF (fun x32 _ hF => ?_);refine A2 rfl (Bc (vs := An x32) N9 EM rfl rfl) ?_;refine B3 ok rfl KW ?_;intro i33 hi33 ok;refine FU (j := 0) (cs' := [.str x32.Name.URI, .str x32.Name.Local, .str x32.Value]) ok rfl rfl rfl hi33 rfl EM rfl rfl (fun ok => ?_);refine Gi ?_;refine YJ ?_;refine Ur ?_;refine QL ?_;refine Bp (b := (x1.1.Kind == 2)) 6 38 (.bool ((x1.1.Kind == 2) && ((x32.Name.URI == p1.Name.URI) && ((x32.Name.Local == p1.Name.Local) && true)))) (fun hb34 => ?_) (fun hb34 => ?_) ?_
       ·refine Eb ?_;refine C3 rfl JZ AF ?_;refine Br ?_;refine B6 (j := 0) ok rfl rfl rfl hi33 (Bc (vs := As x32.Name) BB AF rfl rfl) ?_;refine Br ?_;refine Add ?_;refine Br ?_;refine A2 rfl (Bc (vs := As p1.Name) BB AF rfl rfl) ?_;refine Br ?_;refine Dc rfl rfl (RQ (b := ((x32.Name.URI == p1.Name.URI) && ((x32.Name.Local == p1.Name.Local) && true))) Dq Dp (by simp only [As, D7, EG, H1, Dp, Dq, BN, AI, Bm, BN, AI, Bm, Fw, FM, EC, FB, EF, Ey, Ea, List.drop_zero, List.drop_succ_cons, bi, bj, List.take_succ_cons, List.take_zero, Option.isSome_some, if_true, ba, Option.map_some, Nat.reduceAdd, Nat.reduceLeDiff])) ?_;refine G5 ?_;exact th
       ·refine Ii ?_;refine U6 ?_;exact th
       refine A4 ?_;refine Bd rfl hF (fun hb35 hF => ?_) fun hb35 hF => ?_
       ·refine Bz ?_;refine C3 rfl Io AI ?_;refine U0 ?_;refine Pv ?_;refine QC ?_;replace hF := hG28 _ (At hF);exact rt
       ·refine Sr ?_;refine ih30 (IntKind.wrap .i64 (a26 + 1)) _ hF ?_;exact ⟨oy ok, wy ok⟩
      ·refine Ft ?_;replace hF := hG28 _ (At hF);exact ⟨(), hF, oy ok, wy ok⟩
    ·rintro ⟨⟩ s' hF ⟨ok, hws⟩;refine AM hws ?_;refine Bz ?_;refine S_a (v := .str []) rfl ?_;refine QC ?_;exact rt
   ·refine CU ?_;exact ⟨(), hF, oy ok, wy ok⟩
  ·rintro ⟨⟩ s' hF ⟨ok, hws⟩;refine AM hws ?_;refine UY ?_;refine YJ ?_;refine Rt ?_;refine QL ?_;refine Bp (b := (x1.1.Kind == 3)) 4 49 (.bool ((x1.1.Kind == 3) || (x1.1.Kind == 4))) (fun hb36 => ?_) (fun hb36 => ?_) ?_
   ·refine M7 ?_;exact th
   ·refine Eb ?_;refine YJ ?_;refine Vr ?_;refine ZC ?_;refine GI ?_;exact th
   refine Cy ?_;refine Bp (b := ((x1.1.Kind == 3) || (x1.1.Kind == 4))) 4 54 (.bool (((x1.1.Kind == 3) || (x1.1.Kind == 4)) || (x1.1.Kind == 5))) (fun hb37 => ?_) (fun hb37 => ?_) ?_
   ·refine M7 ?_;exact th
   ·refine Eb ?_;refine YJ ?_;refine Vr ?_;refine ZC ?_;refine GI ?_;exact th
   refine A4 ?_;refine Bd rfl hF (fun hb38 hF => ?_) fun hb38 hF => ?_
   ·refine Bz ?_;refine C3 rfl CE AI ?_;refine U0 ?_;refine Pv ?_;refine QC ?_;exact rt
   ·refine SD ?_;refine B6 (j := 0) ok rfl rfl rfl hi2 (Bc (vs := Ae x1.1) Bq AE rfl (Ac x1.1).symm) ?_;refine cl (Bu (fun _ h hF => L6 _ h hF) _ hF fun x39 _ hF => ?_);refine Pv ?_;refine QC ?_;exact rt
theorem GT (p0 : Ak) (p1 : Ak) {G : Int -> Prop} (h : Heap) (hF : OptP (CW p0 p1) G) : CallsA prog 23 [.agg (Aq p0), .agg (Aq p1)] h fun d h' => ∃ r, G r /\ d = .int .i64 r /\ h' = h := by
 refine CallsA.ret ?_;refine Bb func23 rfl Aem ntmps23 rfl (fun ok => ?_);rw [CW] at hF;refine Bz ?_;refine Co rfl rfl rfl rfl ?_;refine Co rfl rfl rfl rfl ?_;refine HD ?_;refine AO hF (fun (_ : Unit) s' => Zs h [] 61 [(2, .iptr (Aq p0)), (3, .iptr (Aq p1))] s') (fun J7 hF => ?_) ?_
 ·refine Bz ?_;refine YN ?_;refine UU ?_;refine YN ?_;refine UU ?_;refine Ack rfl rfl ?_;refine Lt ?_;refine BO (σ := Int) hF (fun (a8 : Int) s' => Zs h [] 61 [(2, .iptr (Aq p0)), (3, .iptr (Aq p1)), (14, .int .i64 (if (p1.Steps.length : Int) < (p0.Steps.length : Int) then (p1.Steps.length : Int) else (p0.Steps.length : Int))), (15, .int .i64 a8)] s') ?_ ?_
  ·exact ⟨oy ok, wy ok⟩
  ·rintro G9 hG10 rec11 a8 s' ih12 hF ⟨ok, hws⟩;refine AM hws ?_;rw [CG] at hF;refine Je ?_;refine Bd rfl hF (fun hb13 hF => ?_) fun hb13 hF => ?_
   ·refine WZ ?_;refine Gy ?_;refine G2 (mdl [(19, 3), (22, 3), (24, 3), (27, 3)]) (by kernel_rfl) (by kernel_rfl) ?_;refine YN ?_;refine E8 ?_;refine F2 rfl rfl Ee AJ hF (fun x14 _ hF => ?_);refine V1 ?_;refine YN ?_;refine E8 ?_;refine F2 rfl rfl Ee AJ hF (fun x15 _ hF => ?_);refine V1 ?_;refine cl (Bu (fun _ h hF => Gl _ _ h hF) _ hF fun x16 _ hF => ?_);refine HD ?_;refine ZS ?_;refine Bd rfl hF (fun hb17 hF => ?_) fun hb17 hF => ?_
    ·refine VS ?_;replace hF := hG10 _ (At hF);exact rt
    ·refine Sr ?_;refine ih12 (IntKind.wrap .i64 (a8 + 1)) _ hF ?_;exact ⟨oy ok, wy ok⟩
   ·refine Ft ?_;replace hF := hG10 _ (At hF);exact ⟨(), hF, oy ok, wy ok⟩
 ·rintro ⟨⟩ s' hF ⟨ok, hws⟩;refine AM hws ?_;refine UY ?_;refine YN ?_;refine UU ?_;refine YN ?_;refine UU ?_;refine cl (Bu (fun _ h hF => Gl _ _ h hF) _ hF fun x18 _ hF => ?_);refine HD ?_;refine ZS ?_;refine Bd rfl hF (fun hb19 hF => ?_) fun hb19 hF => ?_
  ·refine VS ?_;exact rt
  ·refine YV ?_;refine Bz ?_;refine XU ?_;refine WK ?_;refine Cy ?_;refine Bp (b := p0.Attr) 3 49 (.bool (p0.Attr && p1.Attr)) (fun hb20 => ?_) (fun hb20 => ?_) ?_
   ·refine Eb ?_;refine XU ?_;refine Br ?_;refine WK ?_;refine G5 ?_;exact th
   ·refine HS ?_;exact th
   refine Ev ?_;refine Bd rfl hF (fun hb21 hF => ?_) fun hb21 hF => ?_
   ·refine Bz ?_;refine Add ?_;refine A2 rfl (Bc (vs := As p0.Name) BB AF rfl rfl) ?_;refine Add ?_;refine A2 rfl (Bc (vs := As p1.Name) BB AF rfl rfl) ?_;refine cl (Bu (fun _ h hF => ID _ _ h hF) _ hF fun x22 _ hF => ?_);refine QC ?_;exact rt
   ·refine Bz ?_;refine XU ?_;refine WK ?_;refine Ev ?_;refine Bd rfl hF (fun hb23 hF => ?_) fun hb23 hF => ?_
    ·refine Ls ?_;exact rt
    ·refine Bz ?_;refine XU ?_;refine WK ?_;refine Ev ?_;refine Bd rfl hF (fun hb24 hF => ?_) fun hb24 hF => ?_
     ·refine Ls ?_;exact rt
     ·refine Zu ?_;exact rt
theorem F9 (p0 : Ab) (p1 : List By8) (p2 : Aa) (p3 : List By8) {G : Bool -> Prop} (h : Heap) (hF : OptP (Cf p0 p1 p2 p3) G) : CallsA prog 9 [.agg (Ae p0), .str p1, .agg (As p2), .str p3] h fun d h' => ∃ r, G r /\ d = .bool r := by
 refine CallsA.ret ?_;refine Bb func9 rfl Agt ntmps9 rfl (fun ok => ?_);rw [Cf] at hF;refine Bz ?_;refine Co (v := .agg (Ae p0)) (cs := Ae p0) rfl rfl rfl rfl ?_;refine Co rfl rfl rfl rfl ?_;refine Y5 ?_;refine cl (Bu (fun _ h hF => HC h hF) _ hF fun x1 _ hF => ?_);refine YQ ?_;refine Bd rfl hF (fun hb2 hF => ?_) fun hb2 hF => ?_
 ·refine IT ?_;exact rt
 ·refine Oh ?_;refine Bz ?_;refine Y3 ?_;refine cl (HA _ hF fun x3 _ hF => ?_);refine X5 ?_;refine BP 4 38 hF (fun J5 hb4 hF => ?_) (fun J5 hb4 hF => ?_) (fun v6 hF => ?_)
  ·refine M7 ?_;exact tw
  ·refine Eb ?_;refine WF ?_;refine Br ?_;refine Pt ?_;refine Br ?_;refine cl (Bu (fun _ h hF => EV _ _ h hF) _ hF fun x7 _ hF => ?_);refine GI ?_;exact tw
  ·refine Cy ?_;refine BP 3 42 hF (fun J9 hb8 hF => ?_) (fun J9 hb8 hF => ?_) (fun v10 hF => ?_)
   ·refine Ko ?_;exact tw
   ·refine Eb ?_;refine UZ ?_;refine cl (Bu (fun _ h hF => EV _ _ h hF) _ hF fun x11 _ hF => ?_);refine GI ?_;exact tw
   ·refine A4 ?_;refine Bd rfl hF (fun hb12 hF => ?_) fun hb12 hF => ?_
    ·refine IT ?_;exact rt
    ·refine SD ?_;refine Y3 ?_;refine JR rfl rfl hF (fun hF => ?_);refine JR rfl rfl hF (fun hF => ?_);refine Pv ?_;refine A4 ?_;refine AO hF (fun (a14 : (List By8)) s' => Zs h [] 186 [(1, .str p1), (3, .str p3), (4, .iptr (Ae p0)), (6, .iptr (As p2)), (9, .str a14)] s') (fun J15 hF => ?_) ?_
     ·refine Bz ?_;refine WF ?_;refine Pt ?_;refine Zp ?_;refine A4 ?_;refine Bd rfl hF (fun hb16 hF => ?_) fun hb16 hF => ?_
      ·refine KS ?_;refine Y3 ?_;refine JR rfl rfl hF (fun hF => ?_);refine JR rfl rfl hF (fun hF => ?_);refine WF ?_;refine Pt ?_;refine JR rfl rfl hF (fun hF => ?_);refine JR rfl rfl hF (fun hF => ?_);refine Pv ?_;refine A4 ?_;exact ⟨(((([91, 64] ++ p2.Local) ++ [123]) ++ p2.URI) ++ [125, 93]), hF, oy ok, wy ok⟩
      ·refine CU ?_;exact ⟨(([91, 64] ++ p2.Local) ++ [93]), hF, oy ok, wy ok⟩
     ·rintro a14 s' hF ⟨ok, hws⟩;refine AM hws ?_;refine KM ?_;refine LV ?_;refine KF ?_;refine Mt ?_;refine JB rfl Bm NB (FN rfl) hF (fun x17 _ hF => ?_);refine JR rfl rfl hF (fun hF => ?_);refine LV ?_;refine JR rfl rfl hF (fun hF => ?_);refine JR rfl rfl hF (fun hF => ?_);refine Pv ?_;refine Gi ?_;refine A2 rfl (Bc (vs := Ae p0) Bq AE (by rw [Ac]; rfl) (by rw [Ac]; rfl)) ?_;refine LV ?_;refine cl (Bu (fun _ h hF => ES _ _ h hF) _ hF fun x18 _ hF => ?_);refine Y0 ?_;refine Bz ?_;refine A2 rfl (Bc (vs := Ae p0) Bq AE (by rw [Ac]; rfl) (by rw [Ac]; rfl)) ?_;refine LV ?_;refine LV ?_;refine JR rfl rfl hF (fun hF => ?_);refine cl (Bu (fun _ h hF => ES _ _ h hF) _ hF fun x19 _ hF => ?_);refine Y0 ?_;refine Bz ?_;refine A2 rfl (Bc (vs := Ae p0) Bq AE (by rw [Ac]; rfl) (by rw [Ac]; rfl)) ?_;refine LV ?_;refine LV ?_;refine JR rfl rfl hF (fun hF => ?_);refine cl (Bu (fun _ h hF => ES _ _ h hF) _ hF fun x20 _ hF => ?_);refine Ae1 ?_;refine Xb ?_;refine Y4 ?_;refine Bp (b := (x18.2.2 != 0)) 3 97 (.bool ((x18.2.2 != 0) || (x19.2.2 != 0))) (fun hb21 => ?_) (fun hb21 => ?_) ?_
      ·refine Ko ?_;exact th
      ·refine Kr ?_;refine SR ?_;refine GI ?_;exact th
      refine Cy ?_;refine Bp (b := ((x18.2.2 != 0) || (x19.2.2 != 0))) 3 101 (.bool (((x18.2.2 != 0) || (x19.2.2 != 0)) || (x20.2.2 != 0))) (fun hb22 => ?_) (fun hb22 => ?_) ?_
      ·refine Ko ?_;exact th
      ·refine Kr ?_;refine SR ?_;refine GI ?_;exact th
      refine Cy ?_;refine BP 10 112 hF (fun J24 hb23 hF => ?_) (fun J24 hb23 hF => ?_) (fun v25 hF => ?_)
      ·refine Ii ?_;refine WB ?_;refine WB ?_;refine SG ?_;exact tw
      ·refine Rz ?_;refine Ws ?_;refine Ye ?_;refine RK ?_;refine BP 5 111 hF (fun J27 hb26 hF => ?_) (fun J27 hb26 hF => ?_) (fun v28 hF => ?_)
       ·refine Rz ?_;refine F2 rfl rfl GF Eh hF (fun x29 _ hF => ?_);refine Br ?_;refine XU ?_;refine Br ?_;refine WK ?_;refine Wg ?_;exact tw
       ·refine Ii ?_;refine V8 ?_;exact tw
       ·refine Og ?_;exact tw
      ·refine A4 ?_;refine Bd rfl hF (fun hb30 hF => ?_) fun hb30 hF => ?_
       ·refine IT ?_;exact rt
       ·refine SD ?_;refine LD ?_;refine AO hF (fun (v : Int × Int) s' => match v with | (a95, a96) => Zs h [] 186 [(14, .sl 4 (List.map Aq x19.1) 0), (17, .sl 4 (List.map Aq x20.1) 0), (20, .int .i64 a95), (21, .int .i64 a96)] s') (fun J97 hF => ?_) ?_
        ·refine JJ ?_;refine Ws ?_;refine Lt ?_;refine BO (σ := Int × Int × Int) hF (fun (v : Int × Int × Int) s' => match v with | (a98, a99, a100) => Zs h [] 186 [(3, .str p3), (4, .iptr (Ae p0)), (6, .iptr (As p2)), (14, .sl 4 (List.map Aq x19.1) 0), (17, .sl 4 (List.map Aq x20.1) 0), (20, .int .i64 a98), (21, .int .i64 a99), (113, .sl 4 (List.map Aq x18.1) 0), (114, .int .i64 (x18.1.length : Int)), (115, .int .i64 a100)] s') ?_ ?_
         ·exact ⟨oy ok, wy ok⟩
         ·rintro G101 hG102 rec103 ⟨a98, a99, a100⟩ s' ih104 hF ⟨ok, hws⟩;refine AM hws ?_;rw [AN] at hF;refine Je ?_;refine Bd rfl hF (fun hb105 hF => ?_) fun hb105 hF => ?_
          ·refine CU ?_;refine AO hF (fun (v : Int × Int) s' => match v with | (a135, a136) => Zs h [] 186 [(3, .str p3), (4, .iptr (Ae p0)), (6, .iptr (As p2)), (14, .sl 4 (List.map Aq x19.1) 0), (17, .sl 4 (List.map Aq x20.1) 0), (20, .int .i64 a135), (21, .int .i64 a136), (113, .sl 4 (List.map Aq x18.1) 0), (114, .int .i64 (x18.1.length : Int)), (115, .int .i64 a100)] s') (fun J137 hF => ?_) ?_
           ·refine Rw ?_;refine Cz (mdl [(23, 1)]) ?_;refine F2 rfl rfl GF Eh hF (fun x138 _ hF => ?_);refine A2 rfl (Bc (vs := Aq x138) JK Eh rfl rfl) ?_;refine B3 ok rfl KQ ?_;intro i139 hi139 ok;refine FU (j := 0) (cs' := [.sl 1 (List.map CH x138.Steps) 0, .bool x138.Attr, .str x138.Name.URI, .str x138.Name.Local]) ok rfl rfl rfl hi139 rfl Eh rfl rfl (fun ok => ?_);refine Gi ?_;refine A2 rfl (Bc (vs := Ae p0) Bq AE (by rw [Ac]; rfl) (by rw [Ac]; rfl)) ?_;refine C3 rfl Nk Ij ?_;refine Af6 ?_;refine A2 rfl (Bc (vs := As p2) BB AF rfl rfl) ?_;refine C6 (v := .agg (Aq (⟨x138.Steps, true, p2⟩ : Ak))) (Gw KQ Nm rfl) ?_;refine cl (Bu (fun _ h hF => Lp _ _ h hF) _ hF fun x140 _ hF => ?_);refine SM ?_;refine Pv ?_;refine HD ?_;refine AO hF (fun (a145 : Bool) s' => Zs h [(i139, .cells [.sl 1 (List.map CH x138.Steps) 0, .bool x138.Attr, .str x138.Name.URI, .str x138.Name.Local])] 186 [(3, .str p3), (4, .iptr (Ae p0)), (6, .iptr (As p2)), (14, .sl 4 (List.map Aq x19.1) 0), (17, .sl 4 (List.map Aq x20.1) 0), (20, .int .i64 a98), (21, .int .i64 a99), (23, .ptr i139 0), (24, .str x140.1), (25, .int .i64 x140.2), (26, .bool a145), (113, .sl 4 (List.map Aq x18.1) 0), (114, .int .i64 (x18.1.length : Int)), (115, .int .i64 a100)] s') (fun J146 hF => ?_) ?_
            ·refine G2 (mdl [(136, 3)]) (by kernel_rfl) (by kernel_rfl) ?_;refine E8 ?_;refine Oe ?_;refine Ws ?_;refine Sv ?_;refine Rg (b := (decide (a98 < (x19.1.length : Int)))) hF (fun hb147 hF => ?_) (fun hb148 hF => ?_)
             ·refine Rz ?_;refine Pu ?_;refine F2 rfl rfl GF Eh hF (fun x149 _ hF => ?_);refine Br ?_;refine A2 rfl (Bc (vs := Aq x149) JK Eh rfl rfl) ?_;refine Br ?_;refine B6 (j := 0) ok rfl rfl rfl hi139 (Bc (vs := Aq x138) JK Eh rfl rfl) ?_;refine Br ?_;refine cl (Bu (fun _ h hF => GT _ _ h hF) _ hF fun x150 _ hF => ?_);refine Br ?_;refine Om ?_;refine U3 ?_;refine Ev ?_;exact ⟨(x150 == 0), hF, oy ok, wy ok⟩
             ·refine Ii ?_;refine RH ?_;refine UV ?_;refine Ev ?_;exact ⟨false, hF, oy ok, wy ok⟩
            ·rintro a145 s' hF ⟨ok, hws⟩;refine AM hws ?_;refine AO hF (fun (a155 : Bool) s' => Zs h [] 186 [(3, .str p3), (4, .iptr (Ae p0)), (6, .iptr (As p2)), (14, .sl 4 (List.map Aq x19.1) 0), (17, .sl 4 (List.map Aq x20.1) 0), (20, .int .i64 a98), (21, .int .i64 a99), (24, .str x140.1), (25, .int .i64 x140.2), (26, .bool a145), (27, .bool a155), (113, .sl 4 (List.map Aq x18.1) 0), (114, .int .i64 (x18.1.length : Int)), (115, .int .i64 a100)] s') (fun J156 hF => ?_) ?_
             ·refine G2 (mdl [(149, 3)]) (by kernel_rfl) (by kernel_rfl) ?_;refine E8 ?_;refine Oe ?_;refine Ws ?_;refine Sv ?_;refine Rg (b := (decide (a99 < (x20.1.length : Int)))) hF (fun hb157 hF => ?_) (fun hb158 hF => ?_)
              ·refine Rz ?_;refine Pu ?_;refine F2 rfl rfl GF Eh hF (fun x159 _ hF => ?_);refine Br ?_;refine A2 rfl (Bc (vs := Aq x159) JK Eh rfl rfl) ?_;refine Br ?_;refine B6 (j := 0) ok rfl rfl rfl hi139 (Bc (vs := Aq x138) JK Eh rfl rfl) ?_;refine Br ?_;refine cl (Bu (fun _ h hF => GT _ _ h hF) _ hF fun x160 _ hF => ?_);refine Br ?_;refine Om ?_;refine U3 ?_;refine Ev ?_;exact ⟨(x160 == 0), hF, oy ok, wy ok⟩
              ·refine Ii ?_;refine RH ?_;refine UV ?_;refine Ev ?_;exact ⟨false, hF, oy ok, wy ok⟩
             ·rintro a155 s' hF ⟨ok, hws⟩;refine AM hws ?_;refine UY ?_;refine Cy ?_;refine E8 ?_;refine Rs ?_;refine Dc rfl rfl (ZE T2) ?_;refine Cy ?_;refine Bp (b := (!(a145 == (x140.2 == 0)))) 10 168 (.bool ((!(a145 == (x140.2 == 0))) || (!(a155 == ((x140.2 == 0) && (x140.1 == p3)))))) (fun hb161 => ?_) (fun hb161 => ?_) ?_
              ·refine Ii ?_;refine WB ?_;refine Yr ?_;refine Ko ?_;exact th
              ·refine Eb ?_;refine Cy ?_;refine X9 ?_;refine Rs ?_;refine RK ?_;refine Bp (b := (x140.2 == 0)) 4 166 (.bool ((x140.2 == 0) && (x140.1 == p3))) (fun hb163 => ?_) (fun hb163 => ?_) ?_
               ·refine Eb ?_;refine UZ ?_;refine UZ ?_;refine MO ?_;refine Wg ?_;exact th
               ·refine RH ?_;refine V8 ?_;exact th
               refine Eb ?_;refine Dc rfl rfl (ZE T2) ?_;refine GI ?_;exact th
              refine A4 ?_;refine Bd rfl hF (fun hb164 hF => ?_) fun hb164 hF => ?_
              ·refine IT ?_;replace hF := hG102 _ (At hF);exact rt
              ·refine CU ?_;refine AO hF (fun (a166 : Int) s' => Zs h [] 186 [(3, .str p3), (4, .iptr (Ae p0)), (6, .iptr (As p2)), (14, .sl 4 (List.map Aq x19.1) 0), (17, .sl 4 (List.map Aq x20.1) 0), (20, .int .i64 a166), (21, .int .i64 a99), (27, .bool a155), (113, .sl 4 (List.map Aq x18.1) 0), (114, .int .i64 (x18.1.length : Int)), (115, .int .i64 a100)] s') (fun J167 hF => ?_) ?_
               ·refine Bz ?_;refine U5 ?_;refine Bd rfl hF (fun hb168 hF => ?_) fun hb168 hF => ?_
                ·refine Sw ?_;exact ⟨(IntKind.wrap .i64 (a98 + 1)), hF, oy ok, wy ok⟩
                ·refine CU ?_;exact ⟨a98, hF, oy ok, wy ok⟩
               ·rintro a166 s' hF ⟨ok, hws⟩;refine AM hws ?_;refine Bz ?_;refine U5 ?_;refine Bd rfl hF (fun hb169 hF => ?_) fun hb169 hF => ?_
                ·refine Sw ?_;exact ⟨(a166, (IntKind.wrap .i64 (a99 + 1))), hF, oy ok, wy ok⟩
                ·refine CU ?_;exact ⟨(a166, a99), hF, oy ok, wy ok⟩
           ·rintro ⟨a135, a136⟩ s' hF ⟨ok, hws⟩;refine AM hws ?_;refine M6 ?_;refine ih104 (a135, a136, (IntKind.wrap .i64 (a100 + 1))) _ hF ?_;exact ⟨oy ok, wy ok⟩
          ·refine Ft ?_;replace hF := hG102 _ (At hF);exact ⟨(a98, a99), hF, oy ok, wy ok⟩
        ·rintro ⟨a95, a96⟩ s' hF ⟨ok, hws⟩;refine AM hws ?_;refine GP ?_;refine Oe ?_;refine Ws ?_;refine QL ?_;refine Bp (b := (a95 == (x19.1.length : Int))) 5 185 (.bool ((a95 == (x19.1.length : Int)) && (a96 == (x20.1.length : Int)))) (fun hb170 => ?_) (fun hb170 => ?_) ?_
         ·refine Kr ?_;refine Aa1 ?_;refine Ws ?_;refine XA ?_;exact th
         ·refine Ii ?_;refine Og ?_;exact th
         refine Fz ?_;exact rt
end Go.Proofs.YtmnbjcpikllknaaGreatDoor
