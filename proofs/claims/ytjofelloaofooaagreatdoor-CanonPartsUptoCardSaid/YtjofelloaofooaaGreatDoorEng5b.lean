/- append: the model's answer, and the abstract machine's. No condition. -/
import Derived.Test.YtjofelloaofooaaGreatDoorEng5
set_option linter.unusedSimpArgs false
set_option linter.unusedVariables false
namespace Go.Proofs.YtjofelloaofooaaGreatDoor
def Fd (P : Program) (u : TypeId) : Bool := match P.underlying u with
  | some (.slice _) => true
  | some .string => true
  | _ => false
def FM (mode k : Nat) (es : List (List D)) (h h' : Heap) (R : D -> Heap -> Prop) : Prop :=
  match mode with
  | 0 => R (.sl k es 0) h'
  | 1 => ∀ i, h i = none -> i ≠ 0 -> R (.msl k i 0 es.length) (h'.upd i (some (.cells es.flatten)))
  | 3 => es ≠ [] /\ R (.slx k es []) h'
  | _ => ∀ r, h r = none -> r ≠ 0 -> R (.sl k es r) (h'.upd r (some .room))
def Ff (P : Program) (mode : Nat) (h : Heap) (t u : TypeId) (s x : D) (R : D -> Heap -> Prop) : Prop :=
  match elD P t with
  | none => False
  | some (k, B, z) => match PM h k x with
    | none => False
    | some ns => Fd P u = true /\ match s with
      | .snil => ns.length * B <= 140737488355328 /\ ns.length <= 140737488355328 /\ (ns = [] -> R .snil h) /\ (ns ≠ [] -> FM mode k ns h h R)
      | .sl k' es r => k' = k /\ (es.length + ns.length) * B <= 140737488355328 /\ es.length + ns.length <= 140737488355328 /\ h r = some .room /\ mode ≠ 1 /\ FM mode k (es ++ ns) h (h.upd r none) R
      | .msl k' id off n => k' = k /\ off = 0 /\ (n + ns.length) * B <= 140737488355328 /\ n + ns.length <= 140737488355328 /\ ∃ cs, h id = some (.cells cs) /\ cs.length = n * k /\
          ∀ i, h i = none -> i ≠ 0 -> R (.msl k i 0 (n + ns.length)) ((h.upd id none).upd i (some (.cells (cs ++ ns.flatten))))
      | _ => False
section
variable {P : Program} {K : Kn} {h : Heap} {w : World}
theorem VR.toX {v : Value} {k : Nat} {es : List (List D)} (h : VR K v (.sl k es 0)) (hne : es ≠ []) : VR K v (.slx k es []) := by
  cases h with
  | slz _ a => exact absurd rfl hne
  | sln _ _ _ => exact absurd rfl hne
  | sl b o _ _ _ cap vs h1 h2 h3 h4 h5 => exact .slx b o k es [] cap vs (by rw [List.append_nil]; exact h1) (by rw [List.append_nil]; exact h2) (by rw [List.append_nil]; exact h3) (by rw [List.append_nil]; exact h4)
theorem KQ {u : TypeId} (hu : Fd P u = true) : (∃ e, P.underlying u = some (.slice e)) \/ P.underlying u = some .string := by
  unfold Fd at hu;split at hu
  · rename_i e he; exact .inl ⟨e, he⟩
  · rename_i he; exact .inr he
  · simp at hu
theorem EY {t u ty e : TypeId} {i : TypeInfo} (ht : P.underlying t = some (.slice e)) (hi : P.info? e = some i) (hu : (∃ e, P.underlying u = some (.slice e)) \/ P.underlying u = some .string) {a : Addr} {n cap m : Nat} {x : Value} {y : Array Value}
    (hl : ∀ w' : World, (Builtin.lenOf x).run P w' = .ok m w') (hf : (Builtin.firstCells i.size m x).run P w = .ok y w) (hroom : n + m <= cap) {w' : World} (hst : (storeCells (a.add (n * i.size)) y.toList).run P w = .ok () w') :
    (Builtin.append_ #[t, u] ty #[.slice (some a) n cap, x]).run P w = .ok (.slice (some a) (n + m) cap) w' := by
  rcases hu with ⟨e', hu⟩ | hu
  · simp [Builtin.append_, run_underlying ht, run_underlying hu, sizeOf, typeInfo, hi, hl, hroom, hf, hst]
  · simp [Builtin.append_, run_underlying ht, run_underlying hu, sizeOf, typeInfo, hi, hl, hroom, hf, hst]
theorem C4 {t u ty e : TypeId} {i : TypeInfo} {z : Value} (ht : P.underlying t = some (.slice e)) (hi : P.info? e = some i) (hz : i.zero = some z) (hu : (∃ e, P.underlying u = some (.slice e)) \/ P.underlying u = some .string) {a : Option Addr} {n cap m : Nat} {x : Value} {y o : Array Value}
    (hl : ∀ w' : World, (Builtin.lenOf x).run P w' = .ok m w') (hf : (Builtin.firstCells i.size m x).run P w.drew = .ok y w.drew) (ho : (Builtin.firstCells i.size n (.slice a n cap)).run P w.drew = .ok o w.drew) (hroom : cap < n + m) (h63 : n + m <= 140737488355328)
    (hb : (n + m) * i.bytes <= 140737488355328) :
    (Builtin.append_ #[t, u] ty #[.slice a n cap, x]).run P w = .ok (.slice (some ⟨w.heap.size, 0, none⟩) (n + m) (grownCap w (n + m) cap e))
      (w.drew.alloc (.cells (o ++ y ++ Builtin.zeroCells z.cells (grownCap w (n + m) cap e - (n + m))) e)) := by
  have hn : ¬ (n + m <= cap) := by omega
  have h63' : ¬ (9223372036854775807 < ((n : Int) + (m : Int))) := by omega
  have h48' : ¬ (281474976710656 < Builtin.nextslicecap (n + m) cap * i.bytes) := by
    have := nextslicecap_le (need := n + m) (old := cap) hroom;have h2 : Builtin.nextslicecap (n + m) cap * i.bytes <= 2 * (n + m) * i.bytes := Nat.mul_le_mul_right _ this;have h3 : 2 * (n + m) * i.bytes = 2 * ((n + m) * i.bytes) := Nat.mul_assoc _ _ _;omega
  rcases hu with ⟨e', hu⟩ | hu
  · simp [Builtin.append_, run_underlying ht, run_underlying hu, sizeOf, typeInfo, zeroValue, hi, hz, hl, hn, h63', h48', Question.forced, hf, ho, newRow, grownCap]
  · simp [Builtin.append_, run_underlying ht, run_underlying hu, sizeOf, typeInfo, zeroValue, hi, hz, hl, hn, h63', h48', Question.forced, hf, ho, newRow, grownCap]
theorem EU (z : Array Value) (n : Nat) : (Builtin.zeroCells z n).size = n * z.size := size_zeroCells z n
theorem Gs (H : HR K h w) {e : TypeId} {k : Nat} {z : Array Value} {o y : Array Value} {es ns : List (List D)} (hk : 0 < k) (hz : z.size = k) (hes : ∀ i, i < es.length -> (es.getD i []).length = k) (hns : ∀ i, i < ns.length -> (ns.getD i []).length = k)
    (ho : AR K o es.flatten) (hy : AR K y ns.flatten) (hz1 : ∀ j, j < k -> (z.getD j undef).oneCell' = true) (cap : Nat) (hcap : es.length + ns.length <= cap) (mode : Nat) (R : D -> Heap -> Prop) (h' : Heap) (hh' : ∀ i, h' i = h i \/ h' i = none) (hR : FM mode k (es ++ ns) h h' R) :
    ∃ d K' h'', Ext K K' /\ HR K' h'' (w.alloc (.cells (o ++ y ++ Builtin.zeroCells z (cap - (es.length + ns.length))) e)) /\ VR K' (.slice (some ⟨w.heap.size, 0, none⟩) (es.length + ns.length) cap) d /\ R d h'' := by
  have hall : ∀ i, i < (es ++ ns).length -> ((es ++ ns).getD i []).length = k := fun i hi => by
    by_cases h1 : i < es.length
    · have := hes i h1;simpa [List.getD, List.getElem?_append_left h1] using this
    · have h2 : i - es.length < ns.length := by simp at hi; omega
      have := hns _ h2;simpa [List.getD, List.getElem?_append_right (Nat.le_of_not_lt h1)] using this
  obtain ⟨f1, f2⟩ := BX k (es ++ ns) hall;have fl : (es ++ ns).flatten = es.flatten ++ ns.flatten := by simp
  have le : es.flatten.length = es.length * k := (BX k es hes).1;have ln : ns.flatten.length = ns.length * k := (BX k ns hns).1
  let x := o ++ y ++ Builtin.zeroCells z (cap - (es.length + ns.length))
  have hos : o.size = es.length * k := by rw [ho.1, le]
  have hys : y.size = ns.length * k := by rw [hy.1, ln]
  have hxs : x.size = cap * k := by
    simp only [x, Array.size_append, hos, hys, EU, hz];rw [<- Nat.add_mul, <- Nat.add_mul]; congr 1; omega
  have hxo : ∀ q, q < (es.length + ns.length) * k -> ∃ v, x[q]? = some v /\ v.oneCell' = true /\ VR K v ((es ++ ns).flatten.getD q .any) := by
    intro q hq;rw [Nat.add_mul] at hq;by_cases h1 : q < o.size
    · refine ⟨o[q], ?_, ?_, ?_⟩
      · simp only [x]; rw [Array.append_assoc, Array.getElem?_append_left h1]; simp [h1]
      · have := ho.2.1 q h1; simpa [Array.getD, h1] using this
      · have := ho.2.2 q;rw [fl, List.getD_eq_getElem?_getD, List.getElem?_append_left (by omega)];simpa [Array.getD, h1, List.getD_eq_getElem?_getD] using this
    · have h2 : q - o.size < y.size := by omega
      refine ⟨y[q - o.size], ?_, ?_, ?_⟩
      · simp only [x]; rw [Array.append_assoc, Array.getElem?_append_right (by omega), Array.getElem?_append_left h2]; simp [h2]
      · have := hy.2.1 _ h2; simpa [Array.getD, h2] using this
      · have := hy.2.2 (q - o.size);rw [fl, List.getD_eq_getElem?_getD, List.getElem?_append_right (by omega), le, <- hos];simpa [Array.getD, h2, List.getD_eq_getElem?_getD] using this
  have hone : ∀ q, q < x.size -> (x.getD q undef).oneCell' = true := by
    intro q hq;by_cases h1 : q < (es.length + ns.length) * k
    · obtain ⟨v, hv, h1v, _⟩ := hxo q h1;simpa [Array.getD_eq_getD_getElem?, hv] using h1v
    · have hoy : (o ++ y).size <= q := by simp [hos, hys]; rw [Nat.add_mul] at h1; omega
      have hx' : x[q]? = (Builtin.zeroCells z (cap - (es.length + ns.length)))[q - (o ++ y).size]? := by
        simp only [x]; rw [Array.getElem?_append_right hoy]
      have hq2 : q - (o ++ y).size < (Builtin.zeroCells z (cap - (es.length + ns.length))).size := by
        have : x.size = (o ++ y).size + (Builtin.zeroCells z (cap - (es.length + ns.length))).size := by simp only [x, Array.size_append]
        omega
      rw [Array.getD_eq_getD_getElem?, hx', Array.getElem?_eq_getElem hq2, Option.getD_some];have hm : (q - (o ++ y).size) % z.size < k := by rw [hz]; exact Nat.mod_lt _ hk
      have := hz1 _ hm;have hlt : (q - (o ++ y).size) % z.size < z.size := by omega
      simp only [Builtin.zeroCells, Array.getElem_map, Array.getElem_range];rw [getElem!_pos z _ hlt];rw [Array.getD_eq_getD_getElem?, Array.getElem?_eq_getElem hlt] at this;exact this
  have Hf := H.forget hh';have fresh' : h' K.nx = none := by rcases hh' K.nx with e | e <;> rw [e]; exact H.fresh
  have hnz : K.nx ≠ 0 := by have := H.nz; omega
  have hsl : ∀ r m, (r ≠ 0 -> r = K.nx /\ m = cap - (es.length + ns.length)) -> VR (K.withRow w.heap.size x ((es.length + ns.length) * k) ((es.length + ns.length) * k) k m) (.slice (some ⟨w.heap.size, 0, none⟩) (es.length + ns.length) cap) (.sl k (es ++ ns) r) := by
    intro r m hr;have hE : Ext K (K.withRow w.heap.size x ((es.length + ns.length) * k) ((es.length + ns.length) * k) k m) := Kn.withRow_ext H x _ _ k m
    have := Jt (K := K) (x := x) (n := (es.length + ns.length) * k) (lo := (es.length + ns.length) * k) (kr := k) (m := m) (g := w.heap.size) (cap := cap) (es := es ++ ns) (r := r) hall (fun i j hi hj => by
      have hq : i * k + j < (es.length + ns.length) * k := by
        have h1 : i * k + k <= (es.length + ns.length) * k := by rw [<- Nat.succ_mul]; exact Nat.mul_le_mul_right _ (by simp at hi; omega)
        omega
      obtain ⟨v, hv, _, hvr⟩ := hxo _ hq;refine ⟨v, hv, ?_⟩;rw [f2, show (i * k + j) / k = i by rw [Nat.add_comm, Nat.add_mul_div_right _ _ hk, Nat.div_eq_of_lt hj, Nat.zero_add], show (i * k + j) % k = j by rw [Nat.add_comm, Nat.add_mul_mod_self_right, Nat.mod_eq_of_lt hj]] at hvr
      exact hvr.mono hE) (by simp) (by simpa using hcap) (fun h0 => by obtain ⟨a, b⟩ := hr h0; exact ⟨a, by simp, rfl, by simpa using b, H.bs⟩)
    simpa using this
  have hle : (es.length + ns.length) * k <= x.size := by rw [hxs]; exact Nat.mul_le_mul_right _ hcap
  unfold FM at hR;split at hR
  · have hrow := Hf.row x e ((es.length + ns.length) * k) ((es.length + ns.length) * k) k 0 (f := (0, 0)) (by intro o _ h; simp at h) hle (fun q hq => hone q (by omega)) (Nat.le_refl _) (by omega) false;exact ⟨_, _, _, Kn.withRow_ext H x _ _ k 0, hrow, hsl 0 0 (by simp), by simpa using hR⟩
  · have hobj := Hf.obj x e (es ++ ns).flatten (by rw [f1]; simpa using hle) hone (fun q hq => by
      by_cases h1 : q < (es.length + ns.length) * k
      · obtain ⟨v, hv, _, hvr⟩ := hxo q h1;simpa [Array.getD_eq_getD_getElem?, hv] using hvr
      · have : (es ++ ns).flatten.getD q D.any = D.any := by
          rw [List.getD_eq_getElem?_getD, List.getElem?_eq_none (by rw [f1]; simpa using h1)]; rfl
        rw [this]; exact .any _)
    refine ⟨_, _, _, Kn.withObj_ext K _ _, hobj, ?_, hR K.nx H.fresh hnz⟩;have hio : (K.withObj w.heap.size x.size).io K.nx = w.heap.size := by simp [Kn.withObj]
    have hsz : (K.withObj w.heap.size x.size).sz K.nx = x.size := by simp [Kn.withObj]
    have := VR.msl (K := K.withObj w.heap.size x.size) k K.nx 0 (es.length + ns.length) cap (by simp [Kn.withObj]) hcap (by rw [hsz, hxs]; omega);rw [hio] at this;simpa using this
  · have hrow := Hf.row x e ((es.length + ns.length) * k) ((es.length + ns.length) * k) k 0 (f := (0, 0)) (by intro o _ h; simp at h) hle (fun q hq => hone q (by omega)) (Nat.le_refl _) (by omega) false;exact ⟨_, _, _, Kn.withRow_ext H x _ _ k 0, hrow, (hsl 0 0 (by simp)).toX hR.1, by simpa using hR.2⟩
  · rename_i m0 m1
    have hrow := Hf.row x e ((es.length + ns.length) * k) ((es.length + ns.length) * k) k (cap - (es.length + ns.length)) (f := (0, 0)) (by intro o _ h; simp at h) hle (fun q hq => hone q (by omega)) (Nat.le_refl _) (by
      rw [hxs, <- Nat.add_mul]; exact Nat.mul_le_mul_right _ (by omega)) true
    exact ⟨_, _, _, Kn.withRow_ext H x _ _ k _, hrow, hsl K.nx _ (fun _ => ⟨rfl, rfl⟩), hR K.nx H.fresh hnz⟩
def Kn.filled (K : Kn) (r : Nat) (q : Nat) (vs : List Value) : Kn :=
  { K with mu := fun b o => if b = (K.ro r).b /\ (K.ro r).lo <= o /\ o < (K.ro r).lo + vs.length then vs[o - (K.ro r).lo]? else K.mu b o
           ro := fun i => if i = K.nx then ⟨(K.ro r).b, (K.ro r).lo + q * (K.ro r).k, (K.ro r).k, (K.ro r).m - q⟩ else K.ro i
           nx := K.nx + 1 }
theorem HR.fill (H : HR K h w) {r q : Nat} {vs : List Value} (hr : h r = some .room) (hq : q <= (K.ro r).m) (hl : vs.length = q * (K.ro r).k) (h1 : ∀ v ∈ vs, v.oneCell' = true) (keep : Bool) :
    Ext K (K.filled r q vs) /\ HR (K.filled r q vs) (if keep then (h.upd r none).upd K.nx (some .room) else h.upd r none) (w.setCells (K.ro r).b (K.ro r).lo vs) := by
  have hok := H.ok r _ hr;have hno := H.nomu r _ hr;have hrl := H.lt r _ hr;have hqm : q * (K.ro r).k <= (K.ro r).m * (K.ro r).k := Nat.mul_le_mul_right _ hq;have hown : ∀ o, (K.ro r).lo <= o -> o < (K.ro r).lo + vs.length -> own K r .room (K.ro r).b o := fun o a b => ⟨rfl, a, by omega⟩
  have E : Ext K (K.filled r q vs) := by
    refine ⟨fun b o v hv => ?_, fun _ _ => rfl, fun _ _ => rfl, fun i hi => ?_, Nat.le_succ _, rfl, rfl⟩
    · have : ¬ (b = (K.ro r).b /\ (K.ro r).lo <= o /\ o < (K.ro r).lo + vs.length) := fun hc => by
        obtain ⟨rfl, h2, h3⟩ := hc;have := hno _ _ (hown o h2 h3);rw [hv] at this; simp at this
      simp [Kn.filled, this, hv]
    · simp [Kn.filled, Nat.ne_of_lt hi]
  refine ⟨E, ?_⟩;have hne : r ≠ K.nx := Nat.ne_of_lt hrl;have hz : r ≠ 0 := fun e => by have := H.z; rw [<- e, hr] at this; simp at this
  have hnz : (0 : Nat) ≠ K.nx := by have := H.nz; omega
  refine HR.change (C := fun i => i = r \/ i = K.nx) H E (Cb (K.ro r).b vs (K.ro r).lo w) (fun b o hb => ⟨r, _, .inl rfl, hr, by obtain ⟨rfl, h2, h3⟩ := hb; exact hown o h2 h3⟩) (fun j hj => ?_) (fun b o v hv => ?_) ?_ (fun i y hi hy => ?_)
  · have a1 : j ≠ r := fun e => hj (.inl e);have a2 : j ≠ K.nx := fun e => hj (.inr e);cases keep <;> simp [Heap.upd, a1, a2]
  · simp only [Kn.filled] at hv;split at hv
    · rename_i hc;obtain ⟨rfl, h2, h3⟩ := hc;right;have hj : o - (K.ro r).lo < vs.length := by omega
      have hin := FC (K.ro r).b vs (K.ro r).lo w (fun j hj => by
        obtain ⟨u, hu, _⟩ := hok ((K.ro r).lo + j) (by omega) (by omega)
        simp [hu]) _ hj
      rw [show (K.ro r).lo + (o - (K.ro r).lo) = o by omega] at hin;have hvv : vs.getD (o - (K.ro r).lo) undef = v := by simp [List.getD, hv]
      refine ⟨by rw [hin, hvv], ?_, fun j y hj hy hoy => ?_⟩
      · exact h1 v (List.mem_of_getElem? hv)
      · exact H.sep r j _ y (fun e => hj (.inl e.symm)) hr hy _ o (hown o h2 h3) hoy
    · exact .inl hv
  · cases keep <;> simp [Heap.upd, hnz, Ne.symm hz, H.z]
  · rcases hi with rfl | rfl
    · cases keep <;> simp [Heap.upd, hne] at hy
    · have hnone := H.fresh;cases keep
      · simp [Heap.upd, Ne.symm hne, hnone] at hy
      · simp [Heap.upd_same] at hy;subst hy;have hro : (K.filled r q vs).ro K.nx = ⟨(K.ro r).b, (K.ro r).lo + q * (K.ro r).k, (K.ro r).k, (K.ro r).m - q⟩ := by simp [Kn.filled]
        have hsum : q * (K.ro r).k + ((K.ro r).m - q) * (K.ro r).k = (K.ro r).m * (K.ro r).k := by rw [<- Nat.add_mul]; congr 1; omega
        have hin : ∀ o, (K.ro r).lo + q * (K.ro r).k <= o -> o < (K.ro r).lo + q * (K.ro r).k + ((K.ro r).m - q) * (K.ro r).k -> own K r .room (K.ro r).b o := fun o a b => ⟨rfl, by omega, by omega⟩
        refine ⟨by simp [Kn.filled], fun o a b => ?_, fun b o ho => ?_⟩
        · rw [hro] at a b ⊢;simp only at a b ⊢;obtain ⟨v, hv, hf⟩ := hok o (by omega) (by omega);obtain ⟨e1, e2⟩ := (Cb (K.ro r).b vs (K.ro r).lo w).cell (K.ro r).b o (cell?_lt hv) (fun hb => by have := hb.2.2; omega);exact ⟨v, by rw [e1, hv], by rw [e2, hf]⟩
        · simp only [own, hro] at ho;obtain ⟨rfl, a, b⟩ := ho;have ho' := hin o a b;refine ⟨H.ge r _ hr _ o ho', ?_, fun j y hj hy hoy => H.sep r j _ y (fun e => hj (.inl e.symm)) hr hy _ o ho' hoy, fun j y hj hjn hy => ?_⟩
          · have : ¬ (o < (K.ro r).lo + vs.length) := by omega
            simp [Kn.filled, this, hno _ _ ho']
          · rcases hj with rfl | rfl
            · simp [Heap.upd, hne] at hy
            · exact absurd rfl hjn
end
end Go.Proofs.YtjofelloaofooaaGreatDoor
