/- append, literals, make, boxes, conversions: the model does what the abstract machine does. No condition. -/
import Derived.Laws.BytesString
import Derived.Test.YtjofelloaofooaaGreatDoorEng5b
set_option linter.unusedSimpArgs false
set_option linter.unusedVariables false
namespace Go.Proofs.YtjofelloaofooaaGreatDoor
def Does (P : Program) (K : Kn) (h : Heap) (w : World) (s : Sem Value) (R : D -> Heap -> Prop) : Prop :=
  ∃ v w' d K' h', s.run P w = .ok v w' /\ Ext K K' /\ HR K' h' w' /\ VR K' v d /\ R d h'
section
variable {P : Program} {K : Kn} {h : Heap} {w : World}
theorem Says.does (H : HR K h w) {s : Sem Value} {d : D} {R : D -> Heap -> Prop} (hs : Says P K w s d) (hR : R d h) : Does P K h w s R := by
  obtain ⟨v, hr, hv⟩ := hs;exact ⟨v, w, d, K, h, hr, Ext.refl K, H, hv, hR⟩
theorem AR.one {x : Array Value} {cs : List D} (hx : AR K x cs) : ∀ v ∈ x.toList, v.oneCell' = true := by
  intro v hv;obtain ⟨i, hi, rfl⟩ := List.getElem_of_mem hv;have := hx.2.1 i (by simpa using hi);simp at hi;simpa [Array.getD, hi] using this
theorem HR.longer (H : HR K h w) {id : Nat} {cs ns : List D} (hx : h id = some (.cells cs)) (hl : cs.length + ns.length <= K.sz id) {vs : List Value} (hvl : vs.length = ns.length) (h1 : ∀ v ∈ vs, v.oneCell' = true)
    (hv : ∀ j, VR K (vs.getD j undef) (ns.getD j .any)) :
    Ext K (K.withObj (K.io id) (K.sz id)) /\ HR (K.withObj (K.io id) (K.sz id)) ((h.upd id none).upd K.nx (some (.cells (cs ++ ns)))) (w.setCells (K.io id) cs.length vs) := by
  have E := Kn.withObj_ext K (K.io id) (K.sz id);refine ⟨E, ?_⟩;obtain ⟨hsz, hcs, ⟨s, hsh⟩, hfz⟩ := H.ok id _ hx;have hlt := H.lt id _ hx;have hne : id ≠ K.nx := Nat.ne_of_lt hlt;have hz : id ≠ 0 := fun e => by have := H.z; rw [<- e, hx] at this; simp at this
  have hnz : (0 : Nat) ≠ K.nx := by have := H.nz; omega
  refine HR.change (C := fun i => i = id \/ i = K.nx) H E (Cb (K.io id) vs cs.length w) (fun b o hb => ⟨id, _, .inl rfl, hx, hb.1⟩) (fun j hj => ?_) (fun b o v hv => .inl hv) ?_ (fun i y hi hy => ?_)
  · have a1 : j ≠ id := fun e => hj (.inl e);have a2 : j ≠ K.nx := fun e => hj (.inr e);simp [Heap.upd, a1, a2]
  · simp [Heap.upd, hnz, Ne.symm hz, H.z]
  · rcases hi with rfl | rfl
    · simp [Heap.upd, hne] at hy
    · simp [Heap.upd_same] at hy;subst hy;have hio : (K.withObj (K.io id) (K.sz id)).io K.nx = K.io id := by simp [Kn.withObj]
      have hszn : (K.withObj (K.io id) (K.sz id)).sz K.nx = K.sz id := by simp [Kn.withObj]
      refine ⟨by simp [Kn.withObj], ?_, fun b o ho => ?_⟩
      · simp only [ObjOk, hio, hszn];refine ⟨by simp; omega, fun j hj => ?_, ⟨s, by rw [En]; exact hsh⟩, fun o => by rw [World.frozen?_setCells]; exact hfz o⟩;by_cases hr : cs.length <= j /\ j < cs.length + ns.length
        · have hj' : j - cs.length < vs.length := by omega
          have := FC (K.io id) vs cs.length w (fun q hq => by
            obtain ⟨v, hc, _⟩ := hcs (cs.length + q) (by omega)
            simp [hc]) (j - cs.length) hj'
          rw [show cs.length + (j - cs.length) = j by omega] at this;refine ⟨_, this, h1 _ (by simp [List.getD, hj']), ?_⟩;have e0 : (cs ++ ns).getD j D.any = ns.getD (j - cs.length) D.any := by
            rw [List.getD_eq_getElem?_getD, List.getElem?_append_right hr.1, <- List.getD_eq_getElem?_getD]
          rw [e0];exact (hv _).mono E
        · obtain ⟨v, hc, h1c, hvc⟩ := hcs j hj;obtain ⟨e1, _⟩ := (Cb (K.io id) vs cs.length w).cell (K.io id) j (cell?_lt hc) (fun hb => hr ⟨hb.2.1, by omega⟩);refine ⟨v, by rw [e1]; exact hc, h1c, ?_⟩;by_cases hj2 : j < cs.length
          · have e0 : (cs ++ ns).getD j D.any = cs.getD j D.any := by
              rw [List.getD_eq_getElem?_getD, List.getElem?_append_left hj2, <- List.getD_eq_getElem?_getD]
            rw [e0];exact hvc.mono E
          · have : (cs ++ ns).getD j D.any = D.any := by
              rw [List.getD_eq_getElem?_getD, List.getElem?_eq_none (by simp; omega)]; rfl
            rw [this]; exact .any _
      · have hb : b = K.io id := by simpa [own, hio] using ho
        subst hb;refine ⟨H.ge id _ hx _ o rfl, H.nomu id _ hx _ o rfl, fun j y hj hy hoy => H.sep id j _ y (fun e => hj (.inl e.symm)) hx hy _ o rfl hoy, fun j y hj hjn hy => ?_⟩;rcases hj with rfl | rfl
        · simp [Heap.upd, hne] at hy
        · exact absurd rfl hjn
def Kn.ghost (K : Kn) (k : Nat) : Kn :=
  { K with ro := fun i => if i = K.nx then ⟨0, 0, k, 0⟩ else K.ro i
           nx := K.nx + 1 }
theorem HR.ghost (H : HR K h w) (k : Nat) : Ext K (K.ghost k) /\ HR (K.ghost k) (h.upd K.nx (some .room)) w := by
  have E : Ext K (K.ghost k) := by
    refine ⟨fun _ _ _ h => h, fun _ _ => rfl, fun _ _ => rfl, fun i hi => ?_, Nat.le_succ _, rfl, rfl⟩;simp [Kn.ghost, Nat.ne_of_lt hi]
  refine ⟨E, HR.change (C := fun i => i = K.nx) H E (Keep.refl w (fun _ _ => False)) (fun _ _ h => h.elim) (fun j hj => .inl (Heap.upd_ne _ _ hj)) (fun b o v hv => .inl hv) ?_ (fun i z hi hz => ?_)⟩
  · have := H.nz;have h0 : (0 : Nat) ≠ K.nx := by omega
    rw [Heap.upd_ne h _ h0]; exact H.z
  · subst hi;simp [Heap.upd_same] at hz;subst hz;have hro : (K.ghost k).ro K.nx = ⟨0, 0, k, 0⟩ := by simp [Kn.ghost]
    refine ⟨by simp [Kn.ghost], fun o h1 h2 => ?_, fun b o ho => ?_⟩
    · rw [hro] at h1 h2; simp at h2 <;> omega
    · obtain ⟨_, h1, h2⟩ := ho;rw [hro] at h1 h2; simp at h2 <;> omega
theorem JX (H : HR K h w) {mode : Nat} {t u ty : TypeId} {s x : D} {vs vx : Value} {R : D -> Heap -> Prop} (hs : VR K vs s) (hx : VR K vx x) (hR : Ff P mode h t u s x R) :
    Does P K h w (Builtin.append_ #[t, u] ty #[vs, vx]) R := by
  unfold Ff at hR;split at hR
  · exact hR.elim
  · rename_i k B z hel;obtain ⟨e, i, zv, ht, hi, hz, hik, hib, hzk, hk0, hzl, hz1, hzr⟩ := JC hel;split at hR
    · exact hR.elim
    · rename_i ns hns;obtain ⟨hu, hR⟩ := hR;have hu' := KQ hu;obtain ⟨hnk, hlen, hfirst⟩ := Vp (P := P) H hx hns;split at hR
      · -- onto nil
        obtain ⟨hb1, hb2, hR0, hR1⟩ := hR;cases hs;by_cases hn0 : ns = []
        · refine ⟨.slice none 0 0, w, .snil, K, h, ?_, Ext.refl K, H, .snil, hR0 hn0⟩;subst hn0;obtain ⟨y, hy, _⟩ := hfirst w (Keep.refl w _);rcases hu' with ⟨e', hu'⟩ | hu' <;>
          · simp only [bj] at hlen hy;simp [Builtin.append_, run_underlying ht, run_underlying hu', sizeOf, typeInfo, hi, hlen, hik, hy]
        · have hpos : 0 < ns.length := by
            cases ns with
            | nil => exact absurd rfl hn0
            | cons a b => simp
          obtain ⟨y, hy, hyr⟩ := hfirst w.drew (Keep.drew w _);have hgrow := C4 (P := P) (w := w) (ty := ty) (a := none) (n := 0) (cap := 0) (m := ns.length) (x := vx) (y := y) (o := #[]) ht hi hz hu' hlen (by rw [hik]; exact hy) (by simp [Builtin.firstCells]) (by omega) (by omega) (by rw [hib]; simpa using hb1);have hd := H.drew;have hcapge := grownCap_ge w (0 + ns.length) 0 e;obtain ⟨d, K', h'', E, H', hv, hRd⟩ := Gs (es := []) (ns := ns) hd hk0 hzk (by simp) hnk (o := #[]) (y := y) ⟨by simp, by simp, fun i => by simp; exact .any _⟩ hyr hz1 (grownCap w (0 + ns.length) 0 e) (by simpa using hcapge) mode R h (fun i => .inl rfl) (by simpa using hR1 hn0) (e := e);exact ⟨_, _, d, K', h'', hgrow, E, by simpa using H', by simpa using hv, hRd⟩
      · -- onto a slice with room of its own
        rename_i k' es r;obtain ⟨rfl, hb1, hb2, hroom, hm1, hRg⟩ := hR;have hr0 : r ≠ 0 := fun e => by have := H.z; rw [<- e, hroom] at this; simp at this
        by_cases hvn : vs = .slice none 0 0
        case pos =>
          subst hvn;have hes : es = [] := by cases hs <;> rfl
          subst hes;have Hf : HR K (h.upd r none) w := H.forget fun i => by
            by_cases e : i = r
            · subst e; exact .inr (Heap.upd_same ..)
            · exact .inl (Heap.upd_ne _ _ e)
          by_cases hn0 : ns = []
          · subst hn0;obtain ⟨y, hy, _⟩ := hfirst w (Keep.refl w _);have hrun : (Builtin.append_ #[t, u] ty #[.slice none 0 0, vx]).run P w = .ok (.slice none 0 0) w := by
              rcases hu' with ⟨e', hu'⟩ | hu' <;>
              · simp only [bj] at hlen hy;simp [Builtin.append_, run_underlying ht, run_underlying hu', sizeOf, typeInfo, hi, hlen, hik, hy]
            unfold FM at hRg;split at hRg
            · exact ⟨_, _, _, K, _, hrun, Ext.refl K, Hf, .slz k' none, hRg⟩
            · exact absurd rfl hm1
            · exact absurd rfl hRg.1
            · obtain ⟨E, H'⟩ := Hf.ghost k';exact ⟨_, _, _, _, _, hrun, E, H', .sln k' K.nx (by simp [Kn.ghost]), hRg K.nx H.fresh (by have := H.nz; omega)⟩
          · have hpos : 0 < ns.length := by
              cases ns with
              | nil => exact absurd rfl hn0
              | cons a b => simp
            obtain ⟨y, hy, hyr⟩ := hfirst w.drew (Keep.drew w _);simp only [bj, Nat.zero_add] at hb1 hb2;have hgrow := C4 (P := P) (w := w) (ty := ty) (a := none) (n := 0) (cap := 0) (m := ns.length) (x := vx) (y := y) (o := #[]) ht hi hz hu' hlen (by rw [hik]; exact hy) (by simp [Builtin.firstCells]) (by omega) (by omega) (by rw [hib]; simpa using hb1);have hcapge := grownCap_ge w (0 + ns.length) 0 e
            obtain ⟨d, K', h'', E, H', hv, hRd⟩ := Gs (es := []) (ns := ns) H.drew hk0 hzk (by simp) hnk (o := #[]) (y := y) ⟨by simp, by simp, fun i => by simp; exact .any _⟩ hyr hz1 (grownCap w (0 + ns.length) 0 e) (by simpa using hcapge) mode R (h.upd r none) (fun i => by
              by_cases hir : i = r
              · subst hir; exact .inr (Heap.upd_same _ _ _)
              · exact .inl (Heap.upd_ne _ _ hir)) (by simpa using hRg) (e := e)
            exact ⟨_, _, d, K', h'', hgrow, E, by simpa using H', by simpa using hv, hRd⟩
        obtain ⟨b, o, cap, rfl, hcap, hcs, hek, hrr, hmu⟩ := Kl H hs (.inr ⟨hr0, hvn⟩);obtain ⟨hrlt, hro, hrb⟩ := hrr hr0;obtain ⟨f1, f2⟩ := BX k' es hek;by_cases hfit : es.length + ns.length <= cap
        · -- there is room
          obtain ⟨y, hy, hyr⟩ := hfirst w (Keep.refl w _);have hyl : y.toList.length = ns.length * (K.ro r).k := by rw [hro]; simp [hyr.1, (BX k' ns hnk).1]
          have hok := H.ok r _ hroom;have hst : (storeCells ((⟨b, o, none⟩ : Addr).add (es.length * i.size)) y.toList).run P w = .ok () (w.setCells (K.ro r).b (K.ro r).lo y.toList) := by
            rw [hik, CP, hro];have hyl' : y.toList.length = ns.length * k' := by rw [hro] at hyl; exact hyl
            have hq : ns.length * k' <= (cap - es.length) * k' := Nat.mul_le_mul_right _ (by omega)
            have := run_storeCells_cells (P := P) b (o + es.length * k') y.toList 0 w (fun j hj => by
                obtain ⟨v, hv, _⟩ := hok (o + es.length * k' + j) (by rw [hro]; simp) (by rw [hro]; simp; omega)
                rw [hro] at hv; simp at hv; simp [hv])
              (fun j hj => by
                obtain ⟨v, _, hf⟩ := hok (o + es.length * k' + j) (by rw [hro]; simp) (by rw [hro]; simp; omega)
                rw [hro] at hf; simpa using hf) (AR.one hyr)
            simpa using this
          have hrun := EY (P := P) (w := w) (ty := ty) ht hi hu' (a := ⟨b, o, none⟩) (n := es.length) (cap := cap) hlen (by rw [hik]; exact hy) hfit hst;have hall : ∀ i, i < (es ++ ns).length -> ((es ++ ns).getD i []).length = k' := fun i hi => by
            by_cases h1 : i < es.length
            · have := hek i h1;simpa [List.getD, List.getElem?_append_left h1] using this
            · have h2 : i - es.length < ns.length := by simp at hi; omega
              have := hnk _ h2;simpa [List.getD, List.getElem?_append_right (Nat.le_of_not_lt h1)] using this
          obtain ⟨g1, g2⟩ := BX k' (es ++ ns) hall;have hmm : ns.length <= (K.ro r).m := by rw [hro]; simp; omega
          have hvals : ∀ (E : Ext K (K.filled r ns.length y.toList)) (r' : Nat), (r' ≠ 0 -> r' = K.nx) -> VR (K.filled r ns.length y.toList) (.slice (some ⟨b, o, none⟩) (es.length + ns.length) cap) (.sl k' (es ++ ns) r') := by
            intro E r' hr';have hcell : ∀ q, q < (es.length + ns.length) * k' -> ∃ u, (K.filled r ns.length y.toList).mu b (o + q) = some u /\ VR K u ((es ++ ns).flatten.getD q .any) := by
              intro q hq;rw [Nat.add_mul] at hq;have fl : (es ++ ns).flatten = es.flatten ++ ns.flatten := by simp
              by_cases hq1 : q < es.length * k'
              · obtain ⟨u, hu1, hu2⟩ := hmu q hq1;refine ⟨u, E.mu _ _ _ hu1, ?_⟩;rw [fl, List.getD_eq_getElem?_getD, List.getElem?_append_left (by omega), <- List.getD_eq_getElem?_getD];exact hu2
              · have hlt : q - es.length * k' < y.size := by rw [hyr.1, (BX k' ns hnk).1]; omega
                refine ⟨y[q - es.length * k'], ?_, ?_⟩
                · have e1 : o + q - (o + es.length * k') = q - es.length * k' := by omega
                  have hyl2 : y.size = ns.length * k' := by rw [hyr.1, (BX k' ns hnk).1]
                  have hc : b = (K.ro r).b /\ (K.ro r).lo <= o + q /\ o + q < (K.ro r).lo + y.toList.length := by rw [hro]; refine ⟨rfl, ?_, ?_⟩ <;> simp <;> omega
                  simp only [Kn.filled];rw [if_pos hc, hro];simp only [e1];simp [hlt]
                · have := hyr.2.2 (q - es.length * k');rw [fl, List.getD_eq_getElem?_getD, List.getElem?_append_right (by omega), f1];simpa [Array.getD, hlt, List.getD_eq_getElem?_getD] using this
            have := VR.sl (K := K.filled r ns.length y.toList) b o k' (es ++ ns) r' cap (fun i j => if i < es.length + ns.length /\ j < k' then ((K.filled r ns.length y.toList).mu b (o + i * k' + j)).getD undef else undef) hall (fun i j hi hj => ?_) (fun i j => ?_) (by simpa using hfit) (fun h0 => ?_)
            · simpa using this
            · have hq : i * k' + j < (es.length + ns.length) * k' := by
                have h1 : i * k' + k' <= (es.length + ns.length) * k' := by rw [<- Nat.succ_mul]; exact Nat.mul_le_mul_right _ (by simp at hi; omega)
                omega
              obtain ⟨u, hu1, _⟩ := hcell _ hq;rw [<- Nat.add_assoc] at hu1;have hi' : i < es.length + ns.length := by simpa using hi
              simp [hi', hj, hu1]
            · by_cases hij : i < es.length + ns.length /\ j < k'
              · have hq : i * k' + j < (es.length + ns.length) * k' := by
                  have h1 : i * k' + k' <= (es.length + ns.length) * k' := by rw [<- Nat.succ_mul]; exact Nat.mul_le_mul_right _ hij.1
                  omega
                obtain ⟨u, hu1, hu2⟩ := hcell _ hq;rw [<- Nat.add_assoc] at hu1;rw [g2, show (i * k' + j) / k' = i by rw [Nat.add_comm, Nat.add_mul_div_right _ _ hk0, Nat.div_eq_of_lt hij.2, Nat.zero_add], show (i * k' + j) % k' = j by rw [Nat.add_comm, Nat.add_mul_mod_self_right, Nat.mod_eq_of_lt hij.2]] at hu2;simp only [hij, and_self, if_true, hu1, Option.getD_some];exact hu2.mono E
              · simp only [hij, if_false];have : ((es ++ ns).getD i []).getD j D.any = D.any := by
                  by_cases h1 : i < (es ++ ns).length
                  · have h3 := hall i h1;have h2 : ¬ j < ((es ++ ns).getD i []).length := by rw [h3]; intro hj; exact hij ⟨by simpa using h1, hj⟩
                    rw [List.getD_eq_getElem?_getD, List.getElem?_eq_none (Nat.le_of_not_lt h2)]; rfl
                  · have : (es ++ ns).getD i [] = [] := by rw [List.getD_eq_getElem?_getD, List.getElem?_eq_none (Nat.le_of_not_lt h1)]; rfl
                    rw [this]; rfl
                rw [this]; exact .any _
            · obtain rfl := hr' h0;refine ⟨by simp [Kn.filled], ?_, hrb⟩;simp only [Kn.filled, if_true, hro];simp [Nat.add_mul]; omega
          unfold FM at hRg;split at hRg
          · obtain ⟨E, H'⟩ := H.fill hroom hmm hyl (AR.one hyr) false;exact ⟨_, _, _, _, _, hrun, E, H', hvals E 0 (fun h => absurd rfl h), by simpa using hRg⟩
          · exact absurd rfl hm1
          · obtain ⟨E, H'⟩ := H.fill hroom hmm hyl (AR.one hyr) false;exact ⟨_, _, _, _, _, hrun, E, H', (hvals E 0 (fun h => absurd rfl h)).toX hRg.1, by simpa using hRg.2⟩
          · obtain ⟨E, H'⟩ := H.fill hroom hmm hyl (AR.one hyr) true;exact ⟨_, _, _, _, _, hrun, E, H', hvals E K.nx (fun _ => rfl), hRg K.nx H.fresh (by have := H.nz; omega)⟩
        · -- a new row
          obtain ⟨y, hy, hyr⟩ := hfirst w.drew (Keep.drew w _);obtain ⟨x0, hx0, hx0r⟩ := (hcs.keep (Keep.drew w _)).load (P := P);rw [f1] at hx0;have hgrow := C4 (P := P) (w := w) (ty := ty) (a := some ⟨b, o, none⟩) (n := es.length) (cap := cap) (m := ns.length) (x := vx) (y := y) (o := x0) ht hi hz hu' hlen (by rw [hik]; exact hy) (by rw [hik]; simp [Builtin.firstCells, hx0]) (by omega) (by omega) (by rw [hib]; exact hb1);have hcapge := grownCap_ge w (es.length + ns.length) cap e
          obtain ⟨d, K', h'', E, H', hv, hRd⟩ := Gs (es := es) (ns := ns) H.drew hk0 hzk hek hnk hx0r hyr hz1 (grownCap w (es.length + ns.length) cap e) hcapge mode R (h.upd r none) (fun i => by
            by_cases hir : i = r
            · subst hir; exact .inr (Heap.upd_same _ _ _)
            · exact .inl (Heap.upd_ne _ _ hir)) hRg (e := e)
          exact ⟨_, _, d, K', h'', hgrow, E, by simpa using H', by simpa using hv, hRd⟩
      · -- onto a slice that is written
        rename_i k' id off n;obtain ⟨rfl, rfl, hb1, hb2, cs, hcs, hcl, hR⟩ := hR
        cases hs with
        | msl _ _ _ _ cap hid hn hcap =>
        by_cases hfit : n + ns.length <= cap
        · obtain ⟨y, hy, hyr⟩ := hfirst w (Keep.refl w _);obtain ⟨hsz, hcells, _, hfz⟩ := H.ok id _ hcs;have hyl : y.toList.length = ns.flatten.length := by simpa using hyr.1
          have hnf : ns.flatten.length = ns.length * k' := (BX k' ns hnk).1;have hsum : (n + ns.length) * k' <= K.sz id := Nat.le_trans (Nat.mul_le_mul_right _ hfit) (by omega);rw [Nat.add_mul] at hsum;have hst : (storeCells ((⟨K.io id, 0, none⟩ : Addr).add (n * i.size)) y.toList).run P w = .ok () (w.setCells (K.io id) cs.length y.toList) := by
            rw [hik, CP, hcl]
            have := run_storeCells_cells (P := P) (K.io id) (0 + n * k') y.toList 0 w (fun j hj => by
                obtain ⟨v, hv, _⟩ := hcells (n * k' + j) (by omega)
                simp [hv]) (fun j hj => hfz _) (AR.one hyr)
            simpa using this
          have hrun := EY (P := P) (w := w) (ty := ty) ht hi hu' (a := ⟨K.io id, 0, none⟩) (n := n) (cap := cap) hlen (by rw [hik]; exact hy) hfit hst;obtain ⟨E, H'⟩ := H.longer hcs (by omega) hyl (AR.one hyr) (fun j => by have := hyr.2.2 j; simpa [Array.getD_eq_getD_getElem?, List.getD_eq_getElem?_getD] using this);refine ⟨_, _, _, _, _, hrun, E, H', ?_, hR K.nx H.fresh (by have := H.nz; omega)⟩;have hio : (K.withObj (K.io id) (K.sz id)).io K.nx = K.io id := by simp [Kn.withObj]
          have hszn : (K.withObj (K.io id) (K.sz id)).sz K.nx = K.sz id := by simp [Kn.withObj]
          have := VR.msl (K := K.withObj (K.io id) (K.sz id)) k' K.nx 0 (n + ns.length) cap (by simp [Kn.withObj]) hfit (by rw [hszn]; exact hcap);rw [hio] at this;exact this
        · obtain ⟨y, hy, hyr⟩ := hfirst w.drew (Keep.drew w _);obtain ⟨c1, c2, c3⟩ := ER (k := k') (n := n) (cs := cs) (by omega);have hcf : (CM k' n cs).flatten = cs := by rw [c3, <- hcl]; simp
          have hc0 : Cells K w.drew (K.io id) 0 cs := by have := (H.mcells hcs 0).keep (Keep.drew w _); simpa using this
          obtain ⟨x0, hx0, hx0r⟩ := hc0.load (P := P);rw [hcl] at hx0;have hgrow := C4 (P := P) (w := w) (ty := ty) (a := some ⟨K.io id, 0, none⟩) (n := n) (cap := cap) (m := ns.length) (x := vx) (y := y) (o := x0) ht hi hz hu' hlen (by rw [hik]; exact hy) (by rw [hik]; simp [Builtin.firstCells, hx0]) (by omega) (by omega) (by rw [hib]; exact hb1);have hcapge := grownCap_ge w (n + ns.length) cap e
          obtain ⟨d, K', h'', E, H', hv, hRd⟩ := Gs (es := CM k' n cs) (ns := ns) H.drew hk0 hzk (by rw [c1] at c2 ⊢; exact c2) hnk (by rw [hcf]; exact hx0r) hyr hz1 (grownCap w (n + ns.length) cap e) (by rw [c1]; exact hcapge) 1 R (h.upd id none) (fun i => by
            by_cases hir : i = id
            · subst hir; exact .inr (Heap.upd_same _ _ _)
            · exact .inl (Heap.upd_ne _ _ hir)) (by
              intro i hi0 hiz;have := hR i hi0 hiz
              simpa [c1, hcf] using this) (e := e)
          rw [c1] at H' hv;exact ⟨_, _, d, K', h'', hgrow, E, by simpa using H', by simpa using hv, hRd⟩
      · exact hR.elim
end
end Go.Proofs.YtjofelloaofooaaGreatDoor
