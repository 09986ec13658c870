/- Calls that take own objects; lists that may be nil. No condition. -/
import Derived.Test.YtjofelloaofooaaGreatDoorEng21
set_option linter.unusedSimpArgs false
set_option linter.unusedVariables false
namespace Go.Proofs.YtjofelloaofooaaGreatDoor
theorem WO.refl : ∀ O : List (Nat × AObj), WO O O
 | [] => .nil
 | _ :: O => .keep (WO.refl O)
def Aaa (q r : Nat) (es : List (List D)) : D := match r with
 | 0 => .snil
 | i + 1 => .sl q es (i + 1)
theorem Wd.acc {α : Type} {q r : Nat} {f : α -> List D} {L : List α} (h : r = 0 -> L = []) : Wd (Aaa q r (L.map f)) (.sl q (L.map f) 0) := by
 cases r with
 | zero => rw [h rfl]; exact .nil q
 | succ i => exact .zero _ _ _
section
variable {P : Program} {md : Nat -> Nat} {w : Bool} {ops : Array Oper} {os : List Oper} {k : St -> Prop} {n : Nat} {l : List (Nat × D)} {h : Heap} {d : Nat} {t ty : TypeId} {pos : String} {af : Array Edge} {x y z : Operand}
variable {β : Type} {G : β -> Prop} {O : List (Nat × AObj)} {α : Type} {e : List α} {q id : Nat}
theorem V1 (c : α -> List D) (ok : OK h O) (hk : OK h (mo 0 c ([] : List α) :: O) -> AO P md w ops os ⟨AH n l, Hp h (mo 0 c ([] : List α) :: O)⟩ k) : AO P md w ops os ⟨AH n l, Hp h O⟩ k := hk (OK_nil ok)
end
theorem Ft {P : Program} {md : Nat -> Nat} {ops : Array Oper} : ∀ (pl : List Nat) (l : List Oper) {s : St} {k : St -> Prop}, pl.map (fun i => ops[i]?) = l.map some -> ON P N0 md ops l s k -> FO P N0 md ops pl s k
 | [], [], s, k, _, h => h
 | [], _ :: _, s, k, hl, h => by simp at hl
 | _ :: _, [], s, k, hl, h => by simp at hl
 | i :: pl, o :: l, s, k, hl, h => by
  simp only [List.map_cons, List.cons.injEq] at hl;simp only [FO, hl.1];simp only [ON] at h;exact Cg h fun s' h' => Ft pl l hl.2 h'
theorem Rw {P : Program} {Q : Exit -> St -> Prop} {s : St} (md : Nat -> Nat) (pl : List Nat) (l2 : List Oper) (hm : P.follows .mixedOrders = true) {id : Nat} {l : List Oper} (hl : pl.length = l.length) (h2 : pl.map (fun i => l[i]?) = l2.map some)
  (ho : GG P N0 md l.toArray pl (Array.replicate l.length false) = true) (h : AO P md false l.toArray l2 s (Q .normal)) : WP P (.region id l.toArray true) Q s :=
 S4 N0 md (MC P) hm pl hl ho (Ft pl l2 (by simpa using h2) (EJ h))
def La (P : Program) (md : Nat -> Nat) (ops : Array Oper) (pa pb : List Nat) : List Nat -> Array Bool -> Bool
 | [], listed => match pa, pb with
  | a :: ra, b :: rb => (Region.ready .any ops listed == [a, b]) && (ra.length == rb.length) && GG P N0 md ops ra (listed.setIfInBounds a true) && GG P N0 md ops rb (listed.setIfInBounds b true)
  | _, _ => false
 | i :: is, listed => (Region.ready .any ops listed).contains i && (Region.ready .any ops listed == [i] || (PJ P N0 md ops listed i || Pp P N0 md ops listed i)) && La P md ops pa pb is (listed.setIfInBounds i true)
theorem GB {P : Program} {md : Nat -> Nat} {ops : Array Oper} {pa pb : List Nat} {k : St -> Prop} : ∀ (l : List Nat) (listed : Array Bool) {s : St}, La P md ops pa pb l listed = true ->
  FO P N0 md ops l s (fun s' => FO P N0 md ops pa s' k /\ FO P N0 md ops pb s' k) -> OH P N0 md ops k (l.length + pa.length) listed s
 | [], listed, s, ho, h => by
  unfold La at ho;split at ho
  ·rename_i a ra b rb;simp only [Bool.and_eq_true, beq_iff_eq] at ho;obtain ⟨⟨⟨hr, hlen⟩, h1⟩, h2⟩ := ho;have ha : a ∈ Region.ready .any ops listed := by rw [hr]; simp
   have hb : b ∈ Region.ready .any ops listed := by rw [hr]; simp
   obtain ⟨_, oa, hoa, _⟩ := mem_ready.1 ha;obtain ⟨_, ob, hob, _⟩ := mem_ready.1 hb;obtain ⟨ga, gb⟩ : FO P N0 md ops (a :: ra) s k /\ FO P N0 md ops (b :: rb) s k := h;simp only [FO, hoa] at ga;simp only [FO, hob] at gb;show OH P N0 md ops k (0 + (ra.length + 1)) listed s;rw [Nat.zero_add];refine ⟨fun h0 => (by rw [h0] at hr; cases hr), fun i hi => ?_⟩;rw [hr] at hi;have : i = a \/ i = b := by simpa using hi
   rcases this with rfl | rfl
   ·simp only [hoa]; exact Cg ga fun s' h' => Em ra _ h1 h'
   ·simp only [hob]; rw [hlen]; exact Cg gb fun s' h' => Em rb _ h2 h'
  ·simp at ho
 | i :: is, listed, s, ho, h => by
  simp only [La, Bool.and_eq_true, Bool.or_eq_true, beq_iff_eq] at ho;obtain ⟨⟨hr, hf⟩, hrest⟩ := ho;have hr' : i ∈ Region.ready .any ops listed := by simpa using hr
  obtain ⟨_, oi, hoi, _⟩ := mem_ready.1 hr';simp only [FO, hoi] at h;have e : (i :: is).length + pa.length = (is.length + pa.length) + 1 := by simp only [bi]; omega
  rw [e];rcases hf with hone | hfree | hdeep
  ·refine ⟨fun h0 => (by rw [h0] at hr'; cases hr'), fun j hj => ?_⟩;rw [hone] at hj;have : j = i := by simpa using hj
   subst this;simp only [hoi];exact Cg h fun s' h' => GB is _ hrest h'
  ·obtain ⟨hci, hfr⟩ := Jw hoi hfree;obtain ⟨d, hv, hk⟩ := (D9 hci).1 h;exact Jz hoi hci _ listed s hfr hr' hv (GB is _ hrest hk)
  ·obtain ⟨hci, hdep, hlist, hfr⟩ := Jf hoi hdeep;obtain ⟨d, hv, hk⟩ := (D9 hci).1 h;exact Iy hoi hci _ hdep _ listed s hlist hfr hr' hv (GB is _ hrest hk)
theorem KO {P : Program} {md : Nat -> Nat} {ops : Array Oper} {k k' : St -> Prop} (hk : ∀ s, k s -> k' s) : ∀ {os : List Oper} {s : St}, ON P N0 md ops os s k -> ON P N0 md ops os s k'
 | [], _, h => hk _ h
 | _ :: _, _, h => by simp only [ON] at h ⊢; exact Cg h fun s' h' => KO hk h'
theorem VE {P : Program} {Q : Exit -> St -> Prop} {s : St} (md : Nat -> Nat) (pl pa pb : List Nat) (l2 la lb : List Oper) (hm : P.follows .mixedOrders = true) {id : Nat} {l : List Oper} (hl : pl.length + pa.length = l.length)
  (h2 : pl.map (fun i => l[i]?) = l2.map some) (h3 : pa.map (fun i => l[i]?) = la.map some) (h4 : pb.map (fun i => l[i]?) = lb.map some) (ho : La P md l.toArray pa pb pl (Array.replicate l.length false) = true)
  (h : AO P md false l.toArray l2 s fun s' => AO P md false l.toArray la s' (Q .normal) /\ AO P md false l.toArray lb s' (Q .normal)) : WP P (.region id l.toArray true) Q s :=
 Un N0 md (MC P) hm (by
  have := GB (k := Q .normal) pl _ ho (Ft pl l2 (by simpa using h2) (KO (fun s' hs => ⟨Ft pa la (by simpa using h3) (EJ hs.1), Ft pb lb (by simpa using h4) (EJ hs.2)⟩) (EJ h)))
  rw [hl] at this; exact this)
theorem MQ {α : Type} {q id : Nat} {e e2 : List α} (h : e2.length = e.length) : EC q id e = EC q id e2 := by cases id <;> simp [EC, h]
theorem Ms {α β : Type} {x : α} {f : α -> Option β} {G : β -> Prop} (hF : OptP ((some x).bind f) G) : ∃ y, y = x /\ OptP (f y) G := ⟨x, rfl, hF⟩
theorem Fz {P : Program} {f : FuncId} {fn : Func} {c : Code} {args : List D} {h : Heap} {R : D -> Heap -> Prop} {N : Nat} (hf : P.funcs[f]? = some fn) (hb : fn.body = some c) (he : Ds P f = true) (hn : fn.ntmps = N) (ha : args.length + (N - args.length) = N)
  (hw : WP P c (RetP P fn R) ⟨AH N (Tu 0 args), h⟩) : CallsA P f args h R := by
 refine CallsA_body hf hb he ?_;rw [hn, Ru, ha]; exact hw
end Go.Proofs.YtjofelloaofooaaGreatDoor
