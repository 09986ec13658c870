/- append, make, literals: what becomes of the abstract machine. No condition. -/
import Derived.Laws.MakeOwn
import Derived.Laws.AppendOwn
import Derived.Test.YtjofelloaofooaaGreatDoorEng4
set_option linter.unusedSimpArgs false
set_option linter.unusedVariables false
namespace Go.Proofs.YtjofelloaofooaaGreatDoor
def elD (P : Program) (t : TypeId) : Option (Nat × Nat × List D) :=
 match slD P t with
 | some e => match P.info? e with
  | some i => match i.zero with
   | some z => if z.cells.size = i.size /\ 0 < i.size /\ z.cells.all (·.oneCell') = true then some (i.size, i.bytes, z.cells.toList.map R0) else none
   | none => none
  | none => none
 | none => none
theorem JC {P : Program} {t : TypeId} {k b : Nat} {z : List D} (h : elD P t = some (k, b, z)) :
  ∃ e i zv, P.underlying t = some (.slice e) /\ P.info? e = some i /\ i.zero = some zv /\ i.size = k /\ i.bytes = b /\ zv.cells.size = k /\ 0 < k /\ z.length = k /\ (∀ j, j < k -> (zv.cells.getD j undef).oneCell' = true) /\ ∀ K j, VR K (zv.cells.getD j undef) (z.getD j .any) := by
 unfold elD at h;split at h
 ·rename_i e he;split at h
  ·rename_i i hi;split at h
   ·rename_i zv hz;split at h
    ·rename_i hc;obtain ⟨h1, h2, h3⟩ := hc;simp only [Option.some.injEq, Prod.mk.injEq] at h;obtain ⟨rfl, rfl, rfl⟩ := h;refine ⟨e, i, zv, Bl he, hi, hz, rfl, rfl, h1, h2, by simp [h1], fun j hj => ?_, fun K j => ?_⟩
     ·have hj' : j < zv.cells.size := by omega
      have := (Array.all_eq_true.1 h3) j hj';simpa [Array.getD, hj'] using this
     ·by_cases hj : j < zv.cells.size
      ·have : zv.cells.toList[j]? = some zv.cells[j] := by simp [hj]
       rw [FX _ _ _ _ this];simp only [Array.getD, hj, dif_pos];exact Ig K _
      ·have : (zv.cells.toList.map R0).getD j D.any = D.any := by simp [List.getD, hj]
       rw [this]; exact .any _
    ·simp at h
   ·simp at h
  ·simp at h
 ·simp at h
theorem BX (k : Nat) : ∀ (es : List (List D)), (∀ i, i < es.length -> (es.getD i []).length = k) -> es.flatten.length = es.length * k /\ ∀ q, es.flatten.getD q .any = (es.getD (q / k) []).getD (q % k) .any
 | [], _ => ⟨by simp, fun q => by simp⟩
 | e :: es, h => by
  have h0 : e.length = k := by simpa using h 0 (by simp)
  obtain ⟨h1, h2⟩ := BX k es (fun i hi => by simpa using h (i + 1) (by simp; omega));refine ⟨by simp [h0, h1, Nat.add_mul]; omega, fun q => ?_⟩;by_cases hq : q < k
  ·rw [Nat.div_eq_of_lt hq, Nat.mod_eq_of_lt hq];simp only [List.flatten_cons, List.getD_eq_getElem?_getD, List.getElem?_cons_zero, Option.getD_some];rw [List.getElem?_append_left (by omega)]
  ·by_cases hk : k = 0
   ·subst hk;have he : e = [] := by simpa using h0
    subst he;have hfl : es.flatten = [] := by
     have : es.flatten.length = 0 := by rw [h1]; simp
     exact List.length_eq_zero_iff.1 this
    simp [hfl]
   ·have hdiv : q / k = (q - k) / k + 1 := by rw [<- Nat.add_div_right _ (by omega)]; congr 1; omega
    have hmod : q % k = (q - k) % k := by conv => lhs; rw [show q = (q - k) + k by omega]; rw [Nat.add_mod_right]
    rw [hdiv, hmod];have := h2 (q - k);simp only [List.flatten_cons, List.getD_eq_getElem?_getD, List.getElem?_cons_succ] at this ⊢;rw [List.getElem?_append_right (by omega), h0, this]
def CM (k n : Nat) (cs : List D) : List (List D) := (List.range n).map fun i => (cs.drop (i * k)).take k
theorem ER {k n : Nat} {cs : List D} (hl : n * k <= cs.length) : (CM k n cs).length = n /\ (∀ i, i < (CM k n cs).length -> ((CM k n cs).getD i []).length = k) /\ (CM k n cs).flatten = cs.take (n * k) := by
 have hlen : (CM k n cs).length = n := by simp [CM]
 have hget : ∀ i, i < n -> (CM k n cs).getD i [] = (cs.drop (i * k)).take k := fun i hi => by simp [CM, List.getD, hi]
 have hk : ∀ i, i < (CM k n cs).length -> ((CM k n cs).getD i []).length = k := fun i hi => by
  rw [hlen] at hi;rw [hget i hi];have : i * k + k <= n * k := by rw [<- Nat.succ_mul]; exact Nat.mul_le_mul_right _ hi
  simp; omega
 refine ⟨hlen, hk, ?_⟩;obtain ⟨h1, h2⟩ := BX k _ hk;rw [hlen] at h1;apply List.ext_getElem (by simp [h1, Nat.min_eq_left hl]);intro q hq1 hq2;have hq : q < n * k := by omega
 have hk0 : 0 < k := by
  rcases Nat.eq_zero_or_pos k with h | h
  ·subst h; simp at hq
  ·exact h
 have e1 : (CM k n cs).flatten.getD q .any = (CM k n cs).flatten[q] := by rw [List.getD_eq_getElem?_getD, List.getElem?_eq_getElem hq1]; rfl
 have hi : q / k < n := (Nat.div_lt_iff_lt_mul hk0).2 hq;rw [<- e1, h2 q, hget _ hi];have hm := Nat.mod_lt q hk0;have hqq : q / k * k + q % k = q := Nat.div_add_mod' q k;have hlt : q < cs.length := by omega
 simp [List.getD, List.getElem?_take, hm, hqq, hlt]
def PM (h : Heap) (k : Nat) : D -> Option (List (List D))
 | .snil => some []
 | .sl k' es _ => if k' = k then some es else none
 | .msl k' id off n => if k' = k then match h id with
   | some (.cells cs) => if off + n * k <= cs.length then some (CM k n (cs.drop off)) else none
   | _ => none
  else none
 | .str s => if k = 1 then some (s.map fun b => [FT b]) else none
 | _ => none
section
variable {P : Program} {K : Kn} {h : Heap} {w : World}
theorem Cells.keep {b o : Nat} {cs : List D} {w' : World} (hc : Cells K w b o cs) (hk : Keep w w' (fun _ _ => False)) : Cells K w' b o cs := by
 intro i hi;obtain ⟨v, h1, h2, h3⟩ := hc i hi;exact ⟨v, by rw [(hk.cell b (o + i) (cell?_lt h1) (fun x => x)).1]; exact h1, h2, h3⟩
theorem Kl (H : HR K h w) {v : Value} {k r : Nat} {es : List (List D)} (hv : VR K v (.sl k es r)) (hne : es ≠ [] \/ (r ≠ 0 /\ v ≠ .slice none 0 0)) : ∃ b o cap, v = .slice (some ⟨b, o, none⟩) es.length cap /\ es.length <= cap /\ Cells K w b o es.flatten /\ (∀ i, i < es.length -> (es.getD i []).length = k) /\
  (r ≠ 0 -> r < K.nx /\ K.ro r = ⟨b, o + es.length * k, k, cap - es.length⟩ /\ K.base <= b) /\ (∀ q, q < es.length * k -> ∃ u, K.mu b (o + q) = some u /\ VR K u (es.flatten.getD q .any)) := by
 cases hv with
 | slz => simp at hne
 | sln => simp at hne
 | sl b o _ _ _ cap vs hk hm hvv hc hr =>
  obtain ⟨h1, h2⟩ := BX k es hk;have hmu : ∀ q, q < es.length * k -> K.mu b (o + q) = some (vs (q / k) (q % k)) := fun q hq => by
   have hk0 : 0 < k := by
    rcases Nat.eq_zero_or_pos k with h | h
    ·subst h; simp at hq
    ·exact h
   have := hm (q / k) (q % k) ((Nat.div_lt_iff_lt_mul hk0).2 hq) (Nat.mod_lt _ hk0)
   rwa [Nat.add_assoc, Nat.div_add_mod'] at this
  refine ⟨b, o, cap, rfl, hc, fun q hq => ?_, hk, hr, fun q hq => ⟨_, hmu q hq, by rw [h2]; exact hvv _ _⟩⟩;have hm' := hmu q (by omega);exact ⟨_, (H.mu _ _ _ hm').1, (H.mu _ _ _ hm').2, by rw [h2]; exact hvv _ _⟩
theorem Vp (H : HR K h w) {v : Value} {d : D} {k : Nat} {ns : List (List D)} (hv : VR K v d) (hs : PM h k d = some ns) :
  (∀ i, i < ns.length -> (ns.getD i []).length = k) /\ (∀ w', (Builtin.lenOf v).run P w' = .ok ns.length w') /\
  ∀ w', Keep w w' (fun _ _ => False) -> ∃ x, (Builtin.firstCells k ns.length v).run P w' = .ok x w' /\ AR K x ns.flatten := by
 unfold PM at hs;split at hs
 ·injection hs with hs; subst hs
  cases hv;exact ⟨fun i hi => by simp at hi, fun w' => by simp [Builtin.lenOf], fun w' _ => ⟨#[], by simp [Builtin.firstCells], by simp, fun i hi => by simp at hi, fun i => by simp; exact .any _⟩⟩
 ·rename_i k' es r;split at hs
  ·rename_i hk; subst hk;injection hs with hs; subst hs
   by_cases hne : es ≠ []
   case neg =>
    have e1 : es = [] := by by_cases h : es = [] <;> simp_all
    subst e1
    cases hv with
    | slz _ a => exact ⟨fun i hi => by simp at hi, fun w' => by cases a <;> simp [Builtin.lenOf], fun w' _ => ⟨#[], by cases a <;> simp [Builtin.firstCells, loadCells, loadCellsFrom], by simp, fun i hi => by simp at hi, fun i => by simp; exact .any _⟩⟩
    | sln => exact ⟨fun i hi => by simp at hi, fun w' => by simp [Builtin.lenOf], fun w' _ => ⟨#[], by simp [Builtin.firstCells], by simp, fun i hi => by simp at hi, fun i => by simp; exact .any _⟩⟩
    | sl b o _ _ _ cap vs hk hm hvv hc hr =>
     exact ⟨fun i hi => by simp at hi, fun w' => by simp [Builtin.lenOf], fun w' _ => ⟨#[], by simp [Builtin.firstCells, loadCells, loadCellsFrom], by simp, fun i hi => by simp at hi, fun i => by simp; exact .any _⟩⟩
   obtain ⟨b, o, cap, rfl, hc, hcs, hk, _, _⟩ := Kl H hv (.inl hne);refine ⟨hk, fun w' => by simp [Builtin.lenOf], fun w' hw' => ?_⟩;obtain ⟨x, hx, hr⟩ := (hcs.keep hw').load (P := P);rw [(BX _ _ hk).1] at hx;exact ⟨x, by simp [Builtin.firstCells, hx], hr⟩
  ·simp at hs
 ·rename_i k' id off n;split at hs
  ·rename_i hk; subst hk;split at hs
   ·rename_i cs hx;split at hs
    ·rename_i hl;injection hs with hs; subst hs
     have hl' : n * k' <= (cs.drop off).length := by simp; omega
     obtain ⟨c1, c2, c3⟩ := ER hl'
     cases hv with
     | msl _ _ _ _ cap hid hn hcap =>
      refine ⟨c2, fun w' => by simp [Builtin.lenOf, c1], fun w' hw' => ?_⟩;have hc := (H.mcells hx off).keep hw';have hc' : Cells K w' (K.io id) off ((cs.drop off).take (n * k')) := by have := hc.sub 0 (n * k') (by omega); simpa using this
      obtain ⟨x, hx, hr⟩ := hc'.load (P := P);rw [List.length_take, Nat.min_eq_left hl'] at hx;exact ⟨x, by simp [Builtin.firstCells, c1, hx], by rw [c3]; exact hr⟩
    ·simp at hs
   ·simp at hs
  ·simp at hs
 ·rename_i s;split at hs
  ·rename_i hk; subst hk;injection hs with hs; subst hs
   cases hv;have hsz : (⟨s.toArray⟩ : ByteArray).size = s.length := by simp [ByteArray.size]
   refine ⟨fun i hi => ?_, fun w' => by simp [Builtin.lenOf, hsz], fun w' hw' => ⟨(s.map fun b => Value.int .u8 b.toNat).toArray, ?_, ?_⟩⟩
   ·simp at hi; simp [List.getD, hi]
   ·have he : (⟨s.toArray⟩ : ByteArray).extract 0 s.length = ⟨s.toArray⟩ := by apply ByteArray.ext; simp [ByteArray.data_extract]
    simp [Builtin.firstCells, he]
   ·have hf : (s.map fun b => [FT b]).flatten = s.map FT := by
     clear hsz hw'
     induction s with
     | nil => rfl
     | cons b s ih => simp [ih]
    rw [hf];refine ⟨by simp, fun i hi => ?_, fun i => ?_⟩
    ·have hi' : i < s.length := by simpa using hi
     simp [Array.getD, hi', Value.oneCell']
    ·by_cases hi : i < s.length
     ·simp [Array.getD, hi, List.getD, FT]; exact .int _ _
     ·simp [Array.getD, hi, List.getD]; exact .any _
  ·simp at hs
 ·simp at hs
end
end Go.Proofs.YtjofelloaofooaaGreatDoor
