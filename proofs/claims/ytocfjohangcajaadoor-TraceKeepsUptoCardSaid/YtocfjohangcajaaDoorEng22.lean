/- Calls that take own objects; lists that may be nil. No condition. -/
import Derived.Test.YtocfjohangcajaaDoorEng21
set_option linter.unusedSimpArgs false
set_option linter.unusedVariables false
namespace Go.Proofs.YtocfjohangcajaaDoor

theorem mslO_lay {α : Type} {q id : Nat} {e : List α} : (mslO q id e).lay = true := by cases id <;> rfl
theorem mslO_cells {α : Type} {q id : Nat} {e : List α} : (mslO q id e).cells = [mslO q id e] := by cases id <;> rfl
theorem WO.refl : ∀ O : List (Nat × AObj), WO O O
  | [] => .nil
  | _ :: O => .keep (WO.refl O)
/-- A list that is nil or a row with a right to append. -/
def accO (q r : Nat) (es : List (List D)) : D := match r with
  | 0 => .snil
  | i + 1 => .sl q es (i + 1)
theorem Wd.acc {α : Type} {q r : Nat} {f : α → List D} {L : List α} (h : r = 0 → L = []) : Wd (accO q r (L.map f)) (.sl q (L.map f) 0) := by
  cases r with
  | zero => rw [h rfl]; exact .nil q
  | succ i => exact .zero _ _ _

section
variable {P : Program} {md : Nat → Nat} {w : Bool} {ops : Array Oper} {os : List Oper} {k : St → Prop} {n : Nat} {l : List (Nat × D)} {h : Heap} {d : Nat} {t ty : TypeId} {pos : String} {af : Array Edge} {x y z : Operand}
variable {β : Type} {G : β → Prop} {O : List (Nat × AObj)} {α : Type} {e : List α} {q id : Nat}

theorem S_nilB (c : α → List D) (ok : OK h O) (hk : OK h (mo 0 c ([] : List α) :: O) → seqQ P md w ops os ⟨mkSl n l, Hp h (mo 0 c ([] : List α) :: O)⟩ k) : seqQ P md w ops os ⟨mkSl n l, Hp h O⟩ k := hk (OK_nil ok)
theorem S_stB {i off j : Nat} {cs cs' : List D} (ok : OK h O) (hx : opL n l x = .ptr i off) (hy : opL n l y = mslO q id e) (hj : O[j]? = some (i, .cells cs)) (hi : i ≠ 0) (h2 : szD P t = some 1)
    (h3 : Nat.ble (off + 1) cs.length = true) (h4 : putAt cs off [mslO q id e] = cs') (hk : OK h (O.set j (i, .cells cs')) → seqQ P md w ops os ⟨mkSl n l, Hp h (O.set j (i, .cells cs'))⟩ k) :
    seqQ P md w ops (⟨none, .store t x y, ty, pos, af, none⟩ :: os) ⟨mkSl n l, Hp h O⟩ k :=
  S_st ok hx hy hj hi mslO_lay (by rw [mslO_cells]; exact h2) (by rw [mslO_cells]; exact h3) (by rw [mslO_cells]; exact h4) hk
theorem S_accO {f : α → List D} {L : List α} {g : FuncId} {args : Array Operand} {ts : Array TypeId} {ds : List D} (ok : OK h O) (hds : args.toList.map (opL n l) = ds) (hc : CallsA P g ds (Hp h O) fun d h' => Acc q f L (Hp h O) d h')
    (hk : ∀ r, (r = 0 → L = []) → OK h ((r, .room) :: O) → seqQ P md w ops os ⟨mkSl n ((d, accO q r (L.map f)) :: l), Hp h ((r, .room) :: O)⟩ k) :
    seqQ P md w ops (⟨some d, .call ⟨.value (.func g), args, ts⟩, ty, pos, af, none⟩ :: os) ⟨mkSl n l, Hp h O⟩ k :=
  S_call (hc.mono fun d2 h2 a => by
    rcases a with ⟨rfl, rfl, rfl⟩ | ⟨r, h1, h2, rfl, rfl⟩
    · exact hk 0 (fun _ => rfl) (OK_nil ok)
    · obtain ⟨e1, e2⟩ := Hp_new (x := .room) ok h2 h1
      have := hk r (fun h => absurd h h1) e2
      rw [e1]
      cases r with
      | zero => exact absurd rfl h1
      | succ i => exact this) (by rw [hds]; exact .refl _)
end
theorem seqD_planL {P : Program} {md : Nat → Nat} {ops : Array Oper} : ∀ (pl : List Nat) (l : List Oper) {s : St} {k : St → Prop}, pl.map (fun i => ops[i]?) = l.map some → seqD P N0 md ops l s k → planD P N0 md ops pl s k
  | [], [], s, k, _, h => h
  | [], _ :: _, s, k, hl, h => by simp at hl
  | _ :: _, [], s, k, hl, h => by simp at hl
  | i :: pl, o :: l, s, k, hl, h => by
    simp only [List.map_cons, List.cons.injEq] at hl
    simp only [planD, hl.1]
    simp only [seqD] at h
    exact stepG_mono h fun s' h' => seqD_planL pl l hl.2 h'
/-- A statement whose order is open, by an order of one's own. -/
theorem C_plan {P : Program} {Q : Exit → St → Prop} {s : St} (md : Nat → Nat) (pl : List Nat) (l2 : List Oper) (hm : P.follows .mixedOrders = true) {id : Nat} {l : List Oper} (hl : pl.length = l.length) (h2 : pl.map (fun i => l[i]?) = l2.map some)
    (ho : planOk P N0 md l.toArray pl (Array.replicate l.length false) = true) (h : seqQ P md false l.toArray l2 s (Q .normal)) : WP P (.region id l.toArray true) Q s :=
  WP_plan N0 md (gamma0 P) hm pl hl ho (seqD_planL pl l2 (by simpa using h2) (seqQ_false h))
/-- An order up to a place where two operations may go first, and an order for each. -/
def forkOk (P : Program) (md : Nat → Nat) (ops : Array Oper) (pa pb : List Nat) : List Nat → Array Bool → Bool
  | [], listed => match pa, pb with
    | a :: ra, b :: rb => (Region.ready .any ops listed == [a, b]) && (ra.length == rb.length) && planOk P N0 md ops ra (listed.setIfInBounds a true) && planOk P N0 md ops rb (listed.setIfInBounds b true)
    | _, _ => false
  | i :: is, listed => (Region.ready .any ops listed).contains i && (Region.ready .any ops listed == [i] || (freeC P N0 md ops listed i || freeT P N0 md ops listed i)) && forkOk P md ops pa pb is (listed.setIfInBounds i true)

theorem forkOk_any {P : Program} {md : Nat → Nat} {ops : Array Oper} {pa pb : List Nat} {k : St → Prop} : ∀ (l : List Nat) (listed : Array Bool) {s : St}, forkOk P md ops pa pb l listed = true →
    planD P N0 md ops l s (fun s' => planD P N0 md ops pa s' k ∧ planD P N0 md ops pb s' k) → anyD P N0 md ops k (l.length + pa.length) listed s
  | [], listed, s, ho, h => by
    unfold forkOk at ho
    split at ho
    · rename_i a ra b rb
      simp only [Bool.and_eq_true, beq_iff_eq] at ho
      obtain ⟨⟨⟨hr, hlen⟩, h1⟩, h2⟩ := ho
      have ha : a ∈ Region.ready .any ops listed := by rw [hr]; simp
      have hb : b ∈ Region.ready .any ops listed := by rw [hr]; simp
      obtain ⟨_, oa, hoa, _⟩ := mem_ready.1 ha
      obtain ⟨_, ob, hob, _⟩ := mem_ready.1 hb
      obtain ⟨ga, gb⟩ : planD P N0 md ops (a :: ra) s k ∧ planD P N0 md ops (b :: rb) s k := h
      simp only [planD, hoa] at ga
      simp only [planD, hob] at gb
      show anyD P N0 md ops k (0 + (ra.length + 1)) listed s
      rw [Nat.zero_add]
      refine ⟨fun h0 => (by rw [h0] at hr; cases hr), fun i hi => ?_⟩
      rw [hr] at hi
      have : i = a ∨ i = b := by simpa using hi
      rcases this with rfl | rfl
      · simp only [hoa]; exact stepG_mono ga fun s' h' => planOk_any ra _ h1 h'
      · simp only [hob]; rw [hlen]; exact stepG_mono gb fun s' h' => planOk_any rb _ h2 h'
    · simp at ho
  | i :: is, listed, s, ho, h => by
    simp only [forkOk, Bool.and_eq_true, Bool.or_eq_true, beq_iff_eq] at ho
    obtain ⟨⟨hr, hf⟩, hrest⟩ := ho
    have hr' : i ∈ Region.ready .any ops listed := by simpa using hr
    obtain ⟨_, oi, hoi, _⟩ := mem_ready.1 hr'
    simp only [planD, hoi] at h
    have e : (i :: is).length + pa.length = (is.length + pa.length) + 1 := by simp only [List.length_cons]; omega
    rw [e]
    rcases hf with hone | hfree | hdeep
    · refine ⟨fun h0 => (by rw [h0] at hr'; cases hr'), fun j hj => ?_⟩
      rw [hone] at hj
      have : j = i := by simpa using hj
      subst this
      simp only [hoi]
      exact stepG_mono h fun s' h' => forkOk_any is _ hrest h'
    · obtain ⟨hci, hfr⟩ := freeC_spec hoi hfree
      obtain ⟨d, hv, hk⟩ := (stepG_fun hci).1 h
      exact anyD_first hoi hci _ listed s hfr hr' hv (forkOk_any is _ hrest hk)
    · obtain ⟨hci, hdep, hlist, hfr⟩ := freeT_spec hoi hdeep
      obtain ⟨d, hv, hk⟩ := (stepG_fun hci).1 h
      exact anyD_firstT hoi hci _ hdep _ listed s hlist hfr hr' hv (forkOk_any is _ hrest hk)

theorem seqD_mono {P : Program} {md : Nat → Nat} {ops : Array Oper} {k k' : St → Prop} (hk : ∀ s, k s → k' s) : ∀ {os : List Oper} {s : St}, seqD P N0 md ops os s k → seqD P N0 md ops os s k'
  | [], _, h => hk _ h
  | _ :: _, _, h => by simp only [seqD] at h ⊢; exact stepG_mono h fun s' h' => seqD_mono hk h'
/-- A statement whose order is open, where two operations may go first somewhere. -/
theorem C_fork {P : Program} {Q : Exit → St → Prop} {s : St} (md : Nat → Nat) (pl pa pb : List Nat) (l2 la lb : List Oper) (hm : P.follows .mixedOrders = true) {id : Nat} {l : List Oper} (hl : pl.length + pa.length = l.length)
    (h2 : pl.map (fun i => l[i]?) = l2.map some) (h3 : pa.map (fun i => l[i]?) = la.map some) (h4 : pb.map (fun i => l[i]?) = lb.map some) (ho : forkOk P md l.toArray pa pb pl (Array.replicate l.length false) = true)
    (h : seqQ P md false l.toArray l2 s fun s' => seqQ P md false l.toArray la s' (Q .normal) ∧ seqQ P md false l.toArray lb s' (Q .normal)) : WP P (.region id l.toArray true) Q s :=
  WP_any N0 md (gamma0 P) hm (by
    have := forkOk_any (k := Q .normal) pl _ ho (seqD_planL pl l2 (by simpa using h2) (seqD_mono (fun s' hs => ⟨seqD_planL pa la (by simpa using h3) (seqQ_false hs.1), seqD_planL pb lb (by simpa using h4) (seqQ_false hs.2)⟩) (seqQ_false h)))
    rw [hl] at this; exact this)
theorem mslO_len {α : Type} {q id : Nat} {e e2 : List α} (h : e2.length = e.length) : mslO q id e = mslO q id e2 := by cases id <;> simp [mslO, h]
theorem F_let {α β : Type} {x : α} {f : α → Option β} {G : β → Prop} (hF : OptP ((some x).bind f) G) : ∃ y, y = x ∧ OptP (f y) G := ⟨x, rfl, hF⟩
theorem C_bodyO {P : Program} {f : FuncId} {fn : Func} {c : Code} {args : List D} {h : Heap} {R : D → Heap → Prop} {N : Nat} (hf : P.funcs[f]? = some fn) (hb : fn.body = some c) (he : entD P f = true) (hn : fn.ntmps = N) (ha : args.length + (N - args.length) = N)
    (hw : WP P c (RetP P fn R) ⟨mkSl N (argL 0 args), h⟩) : CallsA P f args h R := by
  refine CallsA_body hf hb he ?_
  rw [hn, arg_mk, ha]; exact hw
end Go.Proofs.YtocfjohangcajaaDoor
