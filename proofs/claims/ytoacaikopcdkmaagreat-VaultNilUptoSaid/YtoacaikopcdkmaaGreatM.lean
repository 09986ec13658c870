/- The plain model of the vault: drum, tape, sheet, cache, vault, and what the laws ask of it. No program in sight. No condition. -/
/- A plain model of the vault (drum, tape, sheet, cache, vault), to see whether its answers can be reckoned by the kernel; no program in sight. Plain Lean, no kit. -/
namespace Go.Proofs.YtoacaikopcdkmaaGreat.Vm
abbrev B := List UInt8
/-- The number is reckoned before it goes on (the kernel is lazy). -/
def strict {α : Type} (n : Nat) (k : Nat → α) : α := match n with
  | 0 => k 0
  | m + 1 => k (m + 1)
/-- One step of the sum, a byte's eight bits. -/
def bit (c : Nat) : Nat := (c / 2) ^^^ (c % 2 * 0xedb88320)
def bits : Nat → Nat → Nat
  | 0, c => c
  | k + 1, c => strict (bit c) (bits k)
def sumGo : B → Nat → Nat
  | [], c => c ^^^ 0xffffffff
  | b :: l, c => strict (bits 8 (c ^^^ b.toNat)) (sumGo l)
def sum (p : B) : Nat := sumGo p 0xffffffff
def put (n : Nat) : Nat → B
  | 0 => []
  | w + 1 => UInt8.ofNat (n / 256 ^ w) :: put n w
def numGo : B → Nat → Nat
  | [], n => n
  | c :: l, n => strict (n * 256 + c.toNat) (numGo l)
def num (p : B) : Nat := numGo p 0
def fill (n : Nat) (p : B) : B := p ++ List.replicate (n - p.length) 0
structure Drum where
  safe : List B
  now : List B
  loose : List (Nat × B)
  steps : Nat
  fuse : Option Nat
  down : Bool
def Drum.new (n : Nat) : Drum := ⟨List.replicate n (List.replicate 64 0), List.replicate n (List.replicate 64 0), [], 0, none, false⟩
abbrev R (α : Type) := Except Nat α
/-- One step. -/
def Drum.step (d : Drum) : Nat × Drum :=
  let d := if d.fuse = some 0 then { d with down := true } else d
  if d.down then (9, d) else (0, { d with steps := d.steps + 1, fuse := match d.fuse with | some (k + 1) => some k | x => x })
def Drum.read (d : Drum) (n : Nat) : Nat × B × Drum :=
  if n < d.now.length then match d.step with
    | (0, d) => (0, d.now.getD n [], d)
    | (e, d) => (e, [], d)
  else (1, [], d)
def Drum.write (d : Drum) (n : Nat) (p : B) : Nat × Drum :=
  if d.now.length ≤ n then (1, d) else if 64 < p.length then (6, d) else match d.step with
    | (0, d) => (0, { d with now := d.now.set n (fill 64 p), loose := d.loose ++ [(n, fill 64 p)] })
    | (e, d) => (e, d)
def Drum.flush (d : Drum) : Nat × Drum := match d.step with
  | (0, d) => (0, { d with safe := d.loose.foldl (fun s w => s.set w.1 w.2) d.safe, loose := [] })
  | (e, d) => (e, d)
def Drum.crash (d : Drum) (keep : List Bool) : Drum :=
  let s := (d.loose.zipIdx).foldl (fun s w => if keep.getD w.2 false then s.set w.1.1 w.1.2 else s) d.safe
  { d with safe := s, now := s, loose := [], fuse := none, down := false }
/-! ## tape -/
structure Sec where
  gen : Nat
  place : Nat
  group : Nat
  left : Nat
  size : Nat
def Sec.lay (s : Sec) (p : B) : B :=
  let r := fill 60 (put (s.gen % 4294967296) 4 ++ put (s.place % 65536) 2 ++ put (s.group % 65536) 2 ++ put (s.left % 65536) 2 ++ put (s.size % 65536) 2 ++ p)
  put (sum r) 4 ++ r
structure Tape where
  lo : Nat
  hi : Nat
  gen : Nat
  place : Nat
  groups : Nat
  down : Bool
def Tape.scan (gen lo : Nat) : Nat → Nat → Drum → Tape → List B → B → Option Nat → Nat × Tape × List B × Drum
  | 0, _, d, t, all, _, _ => (0, t, all, d)
  | k + 1, place, d, t, all, group, due => match d.read (lo + place) with
    | (0, b, d) =>
      let left := num ((b.drop 12).take 2)
      let size := num ((b.drop 14).take 2)
      let bad := decide (48 < size) || (decide (0 < left) && decide (size < 48)) || (match due with | some u => decide (left ≠ u) || decide (size = 0) | none => false)
      if bad || !(Sec.lay ⟨gen, place, t.groups, left, size⟩ ((b.drop 16).take size) == b) then (0, t, all, d)
      else
        let group := group ++ (b.drop 16).take size
        if left = 0 then scan gen lo k (place + 1) d { t with groups := t.groups + 1, place := place + 1 } (all ++ [group]) [] none
        else scan gen lo k (place + 1) d t all group (some (left - 1))
    | (e, _, d) => (e, t, [], d)
def Tape.open (d : Drum) (lo hi gen : Nat) : Nat × Tape × List B × Drum :=
  if d.now.length < hi ∨ hi ≤ lo ∨ 65535 < hi - lo ∨ gen < 1 ∨ 4294967295 < gen then (1, ⟨0, 0, 0, 0, 0, false⟩, [], d) else
  scan gen lo (hi - lo) 0 d ⟨lo, hi, gen, 0, 0, false⟩ [] [] none
def secs (n : Nat) : Nat := max 1 ((n + 47) / 48)
def Tape.writes (t : Tape) (p : B) (n : Nat) : Nat → Drum → Nat × Drum
  | 0, d => (0, d)
  | k + 1, d =>
    let i := n - (k + 1)
    let part := (p.drop (i * 48)).take 48
    match d.write (t.lo + t.place + i) (Sec.lay ⟨t.gen, t.place + i, t.groups, n - 1 - i, part.length⟩ part) with
    | (0, d) => Tape.writes t p n k d
    | (e, d) => (e, d)
def Tape.append (t : Tape) (d : Drum) (p : B) : Nat × Tape × Drum :=
  let n := secs p.length
  if t.down then (9, t, d) else if t.hi - t.lo - t.place < n then (4, t, d) else match t.writes p n n d with
    | (0, d) => (0, { t with place := t.place + n, groups := t.groups + 1 }, d)
    | (e, d) => (e, { t with down := true }, d)
def Tape.flush (t : Tape) (d : Drum) : Nat × Tape × Drum :=
  if t.down then (9, t, d) else match d.flush with
    | (e, d) => (e, { t with down := decide (e = 9) }, d)
def Tape.free (t : Tape) : Nat := t.hi - t.lo - t.place
/-! ## sheet -/
structure Plan where
  log : Nat
  base : Nat
  pages : Nat
def draft (n : Nat) : Option Plan := if n < 64 ∨ 16384 < n then none else some ⟨n / 4, 2 + n / 4, (n - (2 + n / 4)) / 8⟩
def lay (n stamp : Nat) (p : B) : B :=
  let r := fill 508 (put n 4 ++ put stamp 8 ++ p)
  put (sum r) 4 ++ r
def take (n : Nat) (b : B) : Nat × B × Nat :=
  if b.length ≠ 512 then (6, [], 0)
  else if b.all (· == 0) then (0, List.replicate 496 0, 0)
  else if num (b.take 4) ≠ sum (b.drop 4) then (10, [], 0)
  else if num ((b.drop 4).take 4) ≠ n then (11, [], 0)
  else (0, b.drop 16, num ((b.drop 8).take 8))
structure Head where
  gen : Nat
  stamp : Nat
def layHead (h : Head) : B :=
  let r := fill 60 ([76, 69, 67, 84] ++ put h.gen 4 ++ put h.stamp 8)
  put (sum r) 4 ++ r
def takeHead (b : B) : Option Head :=
  if num (b.take 4) ≠ sum (b.drop 4) then none else
  let h : Head := ⟨num ((b.drop 8).take 4), num ((b.drop 12).take 8)⟩
  if 1 ≤ h.gen ∧ h.gen ≤ 4294967295 ∧ layHead h = b then some h else none
def putPage (d : Drum) (base n stamp : Nat) (p : B) : Nat × Drum :=
  let b := lay n stamp p
  (List.range 8).foldl (fun (r : Nat × Drum) i => if r.1 = 0 then r.2.write (base + n * 8 + i) ((b.drop (i * 64)).take 64) else r) (0, d)
def getPage (d : Drum) (base n : Nat) : Nat × B × Nat × Drum :=
  let r := (List.range 8).foldl (fun (r : Nat × B × Drum) i => if r.1 = 0 then (match r.2.2.read (base + n * 8 + i) with | (e, s, d) => (e, r.2.1 ++ s, d)) else r) (0, [], d)
  if r.1 = 0 then (match take n r.2.1 with | (e, p, s) => (e, p, s, r.2.2)) else (r.1, [], 0, r.2.2)
def getHead (d : Drum) : Nat × Head × Drum :=
  match d.read 0 with
  | (0, b0, d) => match d.read 1 with
    | (0, b1, d) =>
      let h0 : Head := match takeHead b0 with | some h => h | none => ⟨0, 0⟩
      let h1 : Head := match takeHead b1 with | some h => if h0.gen < h.gen then h else h0 | none => h0
      if h1.gen = 0 then (11, ⟨0, 0⟩, d) else (0, h1, d)
    | (e, _, d) => (e, ⟨0, 0⟩, d)
  | (e, _, d) => (e, ⟨0, 0⟩, d)
/-! ## vault -/
structure Vault where
  plan : Plan
  frames : Nat
  pages : List (Nat × B)
  tape : Tape
  head : Head
  taken : B
  was : B
  changed : List Nat
  busy : Bool
  down : Bool
def turn (d : Drum) (plan : Plan) (h : Head) : Nat × Head × Tape × Drum :=
  let h := { h with gen := h.gen + 1 }
  let z : Tape := ⟨0, 0, 0, 0, 0, false⟩
  match d.write (h.gen % 2) (layHead h) with
  | (0, d) => match d.flush with
    | (0, d) => match Tape.open d 2 (2 + plan.log) h.gen with
      | (e, t, _, d) => (e, h, t, d)
    | (e, d) => (e, h, z, d)
  | (e, d) => (e, h, z, d)
def chunks (n : Nat) : Nat → B → List B
  | 0, _ => []
  | k + 1, p => if p = [] then [] else p.take n :: chunks n k (p.drop n)
def recover (d : Drum) (plan : Plan) (h : Head) : Nat × Head × Tape × Drum :=
  let z : Tape := ⟨0, 0, 0, 0, 0, false⟩
  match Tape.open d 2 (2 + plan.log) h.gen with
  | (0, _, gs, d) =>
    let r := gs.foldl (fun (r : Nat × Head × Drum) g =>
      let st := num ((g.drop 2).take 8)
      (chunks 500 1000 (g.drop 10)).foldl (fun (r : Nat × Head × Drum) p => if r.1 = 0 then (match putPage r.2.2 plan.base (num (p.take 4)) st (p.drop 4) with | (e, d) => (e, r.2.1, d)) else r) (r.1, { r.2.1 with stamp := st }, r.2.2)) (0, h, d)
    if r.1 = 0 then (match r.2.2.flush with
      | (0, d) => turn d plan r.2.1
      | (e, d) => (e, r.2.1, z, d)) else (r.1, r.2.1, z, r.2.2)
  | (e, _, _, d) => (e, h, z, d)
def vopen (d : Drum) (frames : Nat) : Nat × Option Vault × Drum :=
  match draft d.now.length with
  | none => (1, none, d)
  | some plan =>
    let r := match getHead d with
      | (0, h, d) => recover d plan h
      | (11, h, d) =>
        let q := (List.range 8).foldl (fun (r : Nat × Drum) i => if r.1 = 0 then (match r.2.read (plan.base + i) with | (0, b, d) => (if b.all (· == 0) then 0 else 11, d) | (e, _, d) => (e, d)) else r) (0, d)
        if q.1 = 0 then turn q.2 plan h else (q.1, h, ⟨0, 0, 0, 0, 0, false⟩, q.2)
      | (e, h, d) => (e, h, ⟨0, 0, 0, 0, 0, false⟩, d)
    match r with
    | (0, h, t, d) => match getPage d plan.base 0 with
      | (0, p, _, d) => (0, some ⟨plan, frames, [], t, h, p, [], [], false, false⟩, d)
      | (e, _, _, d) => (e, none, d)
    | (e, _, _, d) => (e, none, d)
def Vault.has (v : Vault) (n : Nat) : Bool := decide (0 < n) && decide (n < v.plan.pages) && decide ((v.taken.getD (n / 8) 0).toNat / 2 ^ (n % 8) % 2 = 1)
def Vault.set (v : Vault) (n : Nat) (p : B) : Vault := { v with pages := (n, fill 496 p) :: v.pages.filter (·.1 ≠ n), changed := if n ∈ v.changed then v.changed else n :: v.changed }
def Vault.flip (v : Vault) (n : Nat) : Vault :=
  let t := v.taken.set (n / 8) (v.taken.getD (n / 8) 0 ^^^ UInt8.ofNat (2 ^ (n % 8)))
  ({ v with taken := t }).set 0 t
def free1 (v : Vault) : Nat → Nat → Nat
  | 0, n => n
  | k + 1, n => if v.has n then free1 v k (n + 1) else n
def Vault.alloc (v : Vault) : Nat × Nat × Vault :=
  let n := free1 v v.plan.pages 1
  if v.plan.pages ≤ n then (4, 0, v) else (0, n, (v.flip n).set n [])
def ins (x : Nat) : List Nat → List Nat
  | [] => [x]
  | y :: l => if x ≤ y then x :: y :: l else y :: ins x l
def isort (l : List Nat) : List Nat := l.foldr ins []
def Vault.commit (v : Vault) (d : Drum) : Nat × Vault × Drum :=
  let order := isort v.changed
  let st := v.head.stamp + 1
  let pg := fun n => ((v.pages.find? (·.1 == n)).map (·.2)).getD []
  let g := put order.length 2 ++ put st 8 ++ order.flatMap fun n => put n 4 ++ pg n
  match v.tape.append d g with
  | (0, t, d) => match t.flush d with
    | (0, t, d) =>
      let r := order.foldl (fun (r : Nat × Drum) n => if r.1 = 0 then putPage r.2 v.plan.base n st (pg n) else r) (0, d)
      (r.1, { v with tape := t, head := { v.head with stamp := st }, changed := [], busy := false }, r.2)
    | (e, t, d) => (e, { v with tape := t }, d)
  | (e, t, d) => (e, { v with tape := t }, d)
/-- The law's first lines. -/
def awake : Bool :=
  match vopen (Drum.new 100) 8 with
  | (0, some v, d) => match ({ v with busy := true, was := v.taken }).alloc with
    | (0, 1, v) => match (v.set 1 [97]).commit d with
      | (0, v, d) => match vopen (d.crash []) 8 with
        | (0, some w, d) => match getPage d w.plan.base 1 with
          | (0, p, _, _) => decide (p.length = 496) && decide (p.head? = some 97) && w.has 1 && !w.has 2 && decide (w.head.gen = 2)
          | _ => false
        | _ => false
      | _ => false
    | _ => false
  | _ => false
end Go.Proofs.YtoacaikopcdkmaaGreat.Vm
/- The plain model of the vault: what is laid is read again. Plain Lean, behind Md (builds with it in one text: see mk.sh). -/
namespace Go.Proofs.YtoacaikopcdkmaaGreat.Vm
theorem strict_eq {α : Type} (n : Nat) (k : Nat → α) : strict n k = k n := by cases n <;> rfl
theorem put_len (n : Nat) : ∀ w, (put n w).length = w
  | 0 => rfl
  | w + 1 => by simp [put, put_len n w]
theorem numGo_app : ∀ (a b : B) (n : Nat), numGo (a ++ b) n = numGo b (numGo a n)
  | [], b, n => rfl
  | c :: a, b, n => by simp only [List.cons_append, numGo, strict_eq]; exact numGo_app a b _
theorem numGo_put (n : Nat) : ∀ (w m : Nat), numGo (put n w) m = m * 256 ^ w + n % 256 ^ w
  | 0, m => by simp [put, numGo, Nat.mod_one]
  | w + 1, m => by
    simp only [put, numGo, strict_eq]
    rw [numGo_put n w]
    have h1 : (UInt8.ofNat (n / 256 ^ w)).toNat = n / 256 ^ w % 256 := by rw [UInt8.toNat_ofNat']
    have h2 : n % 256 ^ (w + 1) = 256 ^ w * (n / 256 ^ w % 256) + n % 256 ^ w := by
      rw [Nat.pow_succ, Nat.mod_mul, Nat.add_comm]
    rw [h1, h2, Nat.pow_succ]
    rw [Nat.add_mul, Nat.mul_assoc, Nat.mul_comm 256 (256 ^ w), Nat.mul_comm (n / 256 ^ w % 256)]
    omega
theorem num_put (n w : Nat) : num (put n w) = n % 256 ^ w := by unfold num; rw [numGo_put]; simp
theorem fill_len {n : Nat} {p : B} (h : p.length ≤ n) : (fill n p).length = n := by simp [fill]; omega
theorem fill_app {n : Nat} {a p : B} (h : (a ++ p).length ≤ n + a.length) : fill (n + a.length) (a ++ p) = a ++ fill n p := by
  unfold fill
  rw [List.append_assoc, List.length_append, show n + a.length - (a.length + p.length) = n - p.length by omega]
theorem bit_lt {c : Nat} (h : c < 2 ^ 32) : bit c < 2 ^ 32 := by
  unfold bit
  refine Nat.xor_lt_two_pow (by omega) ?_
  have : c % 2 < 2 := Nat.mod_lt _ (by decide)
  have : c % 2 = 0 ∨ c % 2 = 1 := by omega
  rcases this with h | h <;> rw [h] <;> decide
theorem bits_lt : ∀ (k : Nat) {c : Nat}, c < 2 ^ 32 → bits k c < 2 ^ 32
  | 0, _, h => h
  | k + 1, _, h => by simp only [bits, strict_eq]; exact bits_lt k (bit_lt h)
theorem sumGo_lt : ∀ (p : B) {c : Nat}, c < 2 ^ 32 → sumGo p c < 2 ^ 32
  | [], c, h => Nat.xor_lt_two_pow h (by decide)
  | b :: l, c, h => by
    simp only [sumGo, strict_eq]
    exact sumGo_lt l (bits_lt 8 (Nat.xor_lt_two_pow h (by have := b.toNat_lt; omega)))
theorem sum_lt (p : B) : sum p < 2 ^ 32 := sumGo_lt p (by decide)
theorem num_sum (p : B) : num (put (sum p) 4) = sum p := by
  rw [num_put]; exact Nat.mod_eq_of_lt (by have := sum_lt p; simpa using this)
theorem take_put (n w : Nat) (r : B) : (put n w ++ r).take w = put n w := by rw [List.take_append_of_le_length (by rw [put_len]; omega), List.take_of_length_le (by rw [put_len]; omega)]
theorem drop_put (n w : Nat) (r : B) : (put n w ++ r).drop w = r := by rw [List.drop_append_of_le_length (by rw [put_len]; omega), List.drop_of_length_le (by rw [put_len]; omega), List.nil_append]
theorem lay_eq (n st : Nat) {p : B} (h : p.length ≤ 496) : lay n st p = put (sum (put n 4 ++ (put st 8 ++ fill 496 p))) 4 ++ (put n 4 ++ (put st 8 ++ fill 496 p)) := by
  have e : fill 508 (put n 4 ++ put st 8 ++ p) = put n 4 ++ (put st 8 ++ fill 496 p) := by
    have h1 := fill_app (n := 496) (a := put n 4 ++ put st 8) (p := p) (by simp only [List.length_append, put_len]; omega)
    rw [show 496 + (put n 4 ++ put st 8).length = 508 by rw [List.length_append, put_len, put_len]] at h1
    rw [h1, List.append_assoc]
  unfold lay
  rw [e]
theorem lay_len (n st : Nat) {p : B} (h : p.length ≤ 496) : (lay n st p).length = 512 := by
  rw [lay_eq n st h]; simp only [List.length_append, put_len, fill_len h]
theorem zero_put {n w : Nat} (h : n < 256 ^ w) (hz : ∀ c ∈ put n w, c = 0) : n = 0 := by
  have h1 := num_put n w
  rw [Nat.mod_eq_of_lt h] at h1
  have : ∀ (l : B), (∀ c ∈ l, c = 0) → numGo l 0 = 0 := fun l => by
    induction l with
    | nil => intro _; rfl
    | cons c l ih => intro hl; simp only [numGo, strict_eq]; rw [hl c List.mem_cons_self]; exact ih fun d hd => hl d (List.mem_cons_of_mem _ hd)
  rw [← h1]; exact this _ hz
/-- A page is read again. -/
theorem take_lay {n st : Nat} {p : B} (hn : n < 2 ^ 32) (hs : st < 2 ^ 64) (h : p.length ≤ 496) : take n (lay n st p) = (0, fill 496 p, st) := by
  have hl := lay_len n st h
  have hf := fill_len (n := 496) h
  unfold take
  rw [if_neg (by rw [hl]; decide)]
  rw [lay_eq n st h]
  by_cases hz : (put (sum (put n 4 ++ (put st 8 ++ fill 496 p))) 4 ++ (put n 4 ++ (put st 8 ++ fill 496 p))).all (· == 0) = true
  · rw [if_pos hz]
    simp only [List.all_eq_true, beq_iff_eq] at hz
    have z1 : ∀ c ∈ put st 8, c = 0 := fun c hc => hz c (by simp [hc])
    have z2 : ∀ c ∈ fill 496 p, c = 0 := fun c hc => hz c (by simp [hc])
    have e1 := zero_put (by simpa using hs) z1
    have e2 : List.replicate 496 0 = fill 496 p := (List.eq_replicate_iff.2 ⟨hf, z2⟩).symm
    rw [e1, e2]
  · rw [if_neg hz, take_put, drop_put, num_sum, if_neg (by simp), take_put, num_put, Nat.mod_eq_of_lt (by simpa using hn), if_neg (by simp)]
    have d8 : (put (sum (put n 4 ++ (put st 8 ++ fill 496 p))) 4 ++ (put n 4 ++ (put st 8 ++ fill 496 p))).drop 8 = put st 8 ++ fill 496 p := by
      rw [show (8 : Nat) = 4 + 4 from rfl, ← List.drop_drop, drop_put, drop_put]
    have d16 : (put (sum (put n 4 ++ (put st 8 ++ fill 496 p))) 4 ++ (put n 4 ++ (put st 8 ++ fill 496 p))).drop 16 = fill 496 p := by
      rw [show (16 : Nat) = 8 + 8 from rfl, ← List.drop_drop, d8, drop_put]
    rw [d8, d16, take_put, num_put, Nat.mod_eq_of_lt (by simpa using hs)]
theorem layHead_eq (h : Head) : layHead h = put (sum ([76, 69, 67, 84] ++ (put h.gen 4 ++ (put h.stamp 8 ++ List.replicate 44 0)))) 4 ++ ([76, 69, 67, 84] ++ (put h.gen 4 ++ (put h.stamp 8 ++ List.replicate 44 0))) := by
  have e : fill 60 ([76, 69, 67, 84] ++ put h.gen 4 ++ put h.stamp 8) = [76, 69, 67, 84] ++ (put h.gen 4 ++ (put h.stamp 8 ++ List.replicate 44 0)) := by
    unfold fill
    simp only [List.length_append, put_len, List.length_cons, List.length_nil, List.append_assoc]
  unfold layHead
  rw [e]
theorem takeHead_lay {h : Head} (h1 : 1 ≤ h.gen) (h2 : h.gen < 2 ^ 32) (h3 : h.stamp < 2 ^ 64) : takeHead (layHead h) = some h := by
  have d8 : (layHead h).drop 8 = put h.gen 4 ++ (put h.stamp 8 ++ List.replicate 44 0) := by
    rw [layHead_eq, show (8 : Nat) = 4 + 4 from rfl, ← List.drop_drop, drop_put]; rfl
  have d12 : (layHead h).drop 12 = put h.stamp 8 ++ List.replicate 44 0 := by
    rw [show (12 : Nat) = 8 + 4 from rfl, ← List.drop_drop, d8, drop_put]
  have e1 : num ((layHead h).take 4) = sum ((layHead h).drop 4) := by rw [layHead_eq, take_put, drop_put, num_sum]
  unfold takeHead
  rw [if_neg (by rw [e1]; simp)]
  have e2 : (⟨num (((layHead h).drop 8).take 4), num (((layHead h).drop 12).take 8)⟩ : Head) = h := by
    rw [d8, d12, take_put, take_put, num_put, num_put, Nat.mod_eq_of_lt (by simpa using h2), Nat.mod_eq_of_lt (by simpa using h3)]
  have key : ∀ x : Head, x = h → (if 1 ≤ x.gen ∧ x.gen ≤ 4294967295 ∧ layHead x = layHead h then some x else none) = some h := fun x hx => by
    subst hx; rw [if_pos ⟨h1, by omega, rfl⟩]
  exact key _ e2
end Go.Proofs.YtoacaikopcdkmaaGreat.Vm
/- The plain model of the vault: a group that is written on the log is found there. Plain Lean, behind Mb. -/
namespace Go.Proofs.YtoacaikopcdkmaaGreat.Vm
/-- A sector's bytes, said plainly. -/
def secR (s : Sec) (p : B) : B := put (s.gen % 4294967296) 4 ++ (put (s.place % 65536) 2 ++ (put (s.group % 65536) 2 ++ (put (s.left % 65536) 2 ++ (put (s.size % 65536) 2 ++ fill 48 p))))
theorem sec_eq (s : Sec) {p : B} (h : p.length ≤ 48) : s.lay p = put (sum (secR s p)) 4 ++ secR s p := by
  have e : fill 60 (put (s.gen % 4294967296) 4 ++ put (s.place % 65536) 2 ++ put (s.group % 65536) 2 ++ put (s.left % 65536) 2 ++ put (s.size % 65536) 2 ++ p) = secR s p := by
    have h1 := fill_app (n := 48) (a := put (s.gen % 4294967296) 4 ++ put (s.place % 65536) 2 ++ put (s.group % 65536) 2 ++ put (s.left % 65536) 2 ++ put (s.size % 65536) 2) (p := p) (by simp only [List.length_append, put_len]; omega)
    simp only [List.length_append, put_len, Nat.reduceAdd] at h1
    rw [h1]
    unfold secR
    simp only [List.append_assoc]
  unfold Sec.lay
  simp only [e]
theorem secR_len (s : Sec) {p : B} (h : p.length ≤ 48) : (secR s p).length = 60 := by
  unfold secR; simp only [List.length_append, put_len, fill_len h]
theorem sec_len (s : Sec) {p : B} (h : p.length ≤ 48) : (s.lay p).length = 64 := by rw [sec_eq s h, List.length_append, put_len, secR_len s h]
theorem drop2 (a b : Nat) (l : B) : l.drop (a + b) = (l.drop a).drop b := (List.drop_drop ..).symm
theorem sec_12 (s : Sec) {p : B} (h : p.length ≤ 48) : (s.lay p).drop 12 = put (s.left % 65536) 2 ++ (put (s.size % 65536) 2 ++ fill 48 p) := by
  rw [sec_eq s h, show (12 : Nat) = 4 + 4 + 2 + 2 from rfl, drop2, drop2, drop2, drop_put]; unfold secR; rw [drop_put, drop_put, drop_put]
theorem sec_14 (s : Sec) {p : B} (h : p.length ≤ 48) : (s.lay p).drop 14 = put (s.size % 65536) 2 ++ fill 48 p := by
  rw [show (14 : Nat) = 12 + 2 from rfl, drop2, sec_12 s h, drop_put]
theorem sec_16 (s : Sec) {p : B} (h : p.length ≤ 48) : (s.lay p).drop 16 = fill 48 p := by
  rw [show (16 : Nat) = 14 + 2 from rfl, drop2, sec_14 s h, drop_put]
theorem sec_4 (s : Sec) {p : B} (h : p.length ≤ 48) : ((s.lay p).drop 4).take 4 = put (s.gen % 4294967296) 4 := by
  rw [sec_eq s h, drop_put]; unfold secR; rw [take_put]
theorem fill_take {n : Nat} {p : B} : (fill n p).take p.length = p := by unfold fill; rw [List.take_append_of_le_length (Nat.le_refl _), List.take_length]
/-- What a sector says. -/
theorem sec_left (s : Sec) {p : B} (h : p.length ≤ 48) (hl : s.left < 65536) : num (((s.lay p).drop 12).take 2) = s.left := by
  rw [sec_12 s h, take_put, num_put, Nat.mod_eq_of_lt (by simp only [Nat.reducePow]; omega), Nat.mod_eq_of_lt hl]
theorem sec_size (s : Sec) {p : B} (h : p.length ≤ 48) (hl : s.size < 65536) : num (((s.lay p).drop 14).take 2) = s.size := by
  rw [sec_14 s h, take_put, num_put, Nat.mod_eq_of_lt (by simp only [Nat.reducePow]; omega), Nat.mod_eq_of_lt hl]
/-- A drum that has power, and goes on having it. -/
def Drum.up (d : Drum) : Prop := d.fuse = none ∧ d.down = false
def Drum.tick (d : Drum) (k : Nat) : Drum := { d with steps := d.steps + k }
theorem step_up {d : Drum} (h : d.up) : d.step = (0, d.tick 1) := by
  obtain ⟨h1, h2⟩ := h
  unfold Drum.step Drum.tick
  simp [h1, h2]
theorem tick_up {d : Drum} (h : d.up) (k : Nat) : (d.tick k).up := h
theorem tick_tick (d : Drum) (j k : Nat) : (d.tick j).tick k = d.tick (j + k) := by unfold Drum.tick; simp [Nat.add_assoc]
theorem read_up {d : Drum} (h : d.up) {n : Nat} (hn : n < d.now.length) : d.read n = (0, d.now.getD n [], d.tick 1) := by
  unfold Drum.read
  rw [if_pos hn, step_up h]
  rfl
/-- The pieces of a group. -/
def part (p : B) (i : Nat) : B := (p.drop (i * 48)).take 48
theorem part_len (p : B) (i : Nat) : (part p i).length = min 48 (p.length - i * 48) := by unfold part; rw [List.length_take, List.length_drop]
theorem part_take (p : B) (i : Nat) : p.take (i * 48) ++ part p i = p.take ((i + 1) * 48) := by
  unfold part
  rw [show (i + 1) * 48 = i * 48 + 48 by omega, List.take_add]
def secOf (gen place gi n : Nat) (p : B) (i : Nat) : Sec := ⟨gen, place + i, gi, n - 1 - i, (part p i).length⟩
theorem secs_le (p : B) : 1 ≤ secs p.length ∧ p.length ≤ secs p.length * 48 ∧ (secs p.length - 1) * 48 ≤ p.length ∧ ∀ i, 0 < i → i < secs p.length → i * 48 < p.length := by
  unfold secs
  refine ⟨by omega, by omega, by omega, fun i h1 h2 => by omega⟩
/-- One piece is read. -/
theorem scan_part {gen lo k place gi i : Nat} {d : Drum} (hu : d.up) {p : B} (hn : secs p.length < 65536) (hi : i < secs p.length) {t : Tape} (ht : t.groups = gi) {all : List B} {due : Option Nat} (hdue : due = if i = 0 then none else some (secs p.length - 1 - i))
    (hd : lo + (place + i) < d.now.length) (hs : d.now.getD (lo + (place + i)) [] = (secOf gen place gi (secs p.length) p i).lay (part p i)) :
    Tape.scan gen lo (k + 1) (place + i) d t all (p.take (i * 48)) due = if i + 1 = secs p.length then Tape.scan gen lo k (place + i + 1) (d.tick 1) { t with groups := t.groups + 1, place := place + i + 1 } (all ++ [p]) [] none
      else Tape.scan gen lo k (place + i + 1) (d.tick 1) t all (p.take ((i + 1) * 48)) (some (secs p.length - 1 - (i + 1))) := by
  subst hdue
  obtain ⟨q1, q2, q3, q4⟩ := secs_le p
  have hpl := part_len p i
  have h48 : (part p i).length ≤ 48 := by omega
  have hl : num ((((secOf gen place gi (secs p.length) p i).lay (part p i)).drop 12).take 2) = secs p.length - 1 - i := sec_left _ h48 (show secs p.length - 1 - i < 65536 by omega)
  have hz : num ((((secOf gen place gi (secs p.length) p i).lay (part p i)).drop 14).take 2) = (part p i).length := sec_size _ h48 (show (part p i).length < 65536 by omega)
  have hbody : (((secOf gen place gi (secs p.length) p i).lay (part p i)).drop 16).take (part p i).length = part p i := by rw [sec_16 _ h48, fill_take]
  rw [Tape.scan, read_up hu hd, hs]
  simp only [hl, hz, hbody]
  have hbad : (decide (48 < (part p i).length) || (decide (0 < secs p.length - 1 - i) && decide ((part p i).length < 48)) || (match (if i = 0 then none else some (secs p.length - 1 - i)) with | some u => decide (secs p.length - 1 - i ≠ u) || decide ((part p i).length = 0) | none => false)) = false := by
    have e1 : decide (48 < (part p i).length) = false := decide_eq_false (by omega)
    have e2 : (decide (0 < secs p.length - 1 - i) && decide ((part p i).length < 48)) = false := by
      by_cases h : 0 < secs p.length - 1 - i
      · have h5 := q4 (i + 1) (by omega) (by omega)
        rw [decide_eq_false (show ¬ (part p i).length < 48 by omega), Bool.and_false]
      · rw [decide_eq_false h, Bool.false_and]
    rw [e1, e2]
    by_cases h0 : i = 0
    · rw [if_pos h0]; rfl
    · rw [if_neg h0]
      have h5 := q4 i (by omega) hi
      simp only [ne_eq, not_true_eq_false, decide_false, Bool.false_or, decide_eq_false_iff_not]
      omega
  have hsame : (Sec.lay ⟨gen, place + i, t.groups, secs p.length - 1 - i, (part p i).length⟩ (part p i) == (secOf gen place gi (secs p.length) p i).lay (part p i)) = true := by rw [ht]; unfold secOf; simp
  rw [hbad, hsame]
  simp only [Bool.not_true, Bool.or_false, Bool.false_eq_true, if_false, part_take]
  by_cases hlast : i + 1 = secs p.length
  · rw [if_pos hlast, if_pos (by omega), List.take_of_length_le (by rw [hlast]; exact q2)]
  · rw [if_neg hlast, if_neg (by omega)]
    congr 2
/-- A group is read. -/
theorem scan_group {gen lo place gi : Nat} {p : B} (hn : secs p.length < 65536) {all : List B} {t : Tape} (ht : t.groups = gi) : ∀ (m i k : Nat) (d : Drum), d.up → i + m = secs p.length → 0 < m →
    (∀ j, j < secs p.length → lo + (place + j) < d.now.length ∧ d.now.getD (lo + (place + j)) [] = (secOf gen place gi (secs p.length) p j).lay (part p j)) →
    Tape.scan gen lo (k + m) (place + i) d t all (p.take (i * 48)) (if i = 0 then none else some (secs p.length - 1 - i)) = Tape.scan gen lo k (place + secs p.length) (d.tick m) { t with groups := t.groups + 1, place := place + secs p.length } (all ++ [p]) [] none
  | 0, i, k, d, _, _, h, _ => by omega
  | m + 1, i, k, d, hu, him, _, hs => by
    obtain ⟨s1, s2⟩ := hs i (by omega)
    rw [show k + (m + 1) = (k + m) + 1 by omega, scan_part hu hn (by omega) ht rfl s1 s2]
    by_cases hm : m = 0
    · subst hm
      rw [if_pos (by omega), show place + i + 1 = place + secs p.length by omega]
      rfl
    · rw [if_neg (by omega)]
      have ih := scan_group hn (gen := gen) (lo := lo) (place := place) (all := all) ht m (i + 1) k (d.tick 1) (tick_up hu 1) (by omega) (by omega) hs
      rw [if_neg (by omega), tick_tick, show place + (i + 1) = place + i + 1 by omega, Nat.add_comm 1 m] at ih
      exact ih
/-- A sector that is not of this generation ends the reading. -/
theorem scan_end {gen lo k place : Nat} {d : Drum} (hu : d.up) (hg : gen < 4294967296) (hd : lo + place < d.now.length) (hb : ((d.now.getD (lo + place) []).drop 4).take 4 ≠ put gen 4) (t : Tape) (all : List B) (group : B) (due : Option Nat) :
    Tape.scan gen lo (k + 1) place d t all group due = (0, t, all, d.tick 1) := by
  rw [Tape.scan, read_up hu hd]
  simp only
  generalize hbd : (decide (48 < num (((d.now.getD (lo + place) []).drop 14).take 2)) || (decide (0 < num (((d.now.getD (lo + place) []).drop 12).take 2)) && decide (num (((d.now.getD (lo + place) []).drop 14).take 2) < 48)) || (match due with | some u => decide (num (((d.now.getD (lo + place) []).drop 12).take 2) ≠ u) || decide (num (((d.now.getD (lo + place) []).drop 14).take 2) = 0) | none => false)) = bad
  cases bad with
  | true => rfl
  | false =>
    have h48 : num (((d.now.getD (lo + place) []).drop 14).take 2) ≤ 48 := by
      simp only [Bool.or_eq_false_iff, decide_eq_false_iff_not] at hbd
      omega
    have hne : (Sec.lay ⟨gen, place, t.groups, num (((d.now.getD (lo + place) []).drop 12).take 2), num (((d.now.getD (lo + place) []).drop 14).take 2)⟩ (((d.now.getD (lo + place) []).drop 16).take (num (((d.now.getD (lo + place) []).drop 14).take 2))) == d.now.getD (lo + place) []) = false := by
      rw [beq_eq_false_iff_ne]
      intro e
      have := sec_4 ⟨gen, place, t.groups, num (((d.now.getD (lo + place) []).drop 12).take 2), num (((d.now.getD (lo + place) []).drop 14).take 2)⟩ (p := ((d.now.getD (lo + place) []).drop 16).take (num (((d.now.getD (lo + place) []).drop 14).take 2))) (by rw [List.length_take]; omega)
      rw [e] at this
      rw [Nat.mod_eq_of_lt hg] at this
      exact hb this
    rw [hne]
    rfl
end Go.Proofs.YtoacaikopcdkmaaGreat.Vm
/- The plain model of the vault: writes; a page that is put is got. Plain Lean, behind Mc. -/
namespace Go.Proofs.YtoacaikopcdkmaaGreat.Vm
def setAll (s : List B) (ws : List (Nat × B)) : List B := ws.foldl (fun s w => s.set w.1 w.2) s
theorem setAll_len : ∀ (ws : List (Nat × B)) (s : List B), (setAll s ws).length = s.length
  | [], s => rfl
  | w :: ws, s => by
    show (setAll (s.set w.1 w.2) ws).length = _
    rw [setAll_len ws, List.length_set]
theorem setAll_app (s : List B) (a b : List (Nat × B)) : setAll s (a ++ b) = setAll (setAll s a) b := by unfold setAll; rw [List.foldl_append]
theorem setAll_out : ∀ (ws : List (Nat × B)) (s : List B) {k : Nat}, (∀ w ∈ ws, w.1 ≠ k) → (setAll s ws).getD k [] = s.getD k []
  | [], s, k, _ => rfl
  | w :: ws, s, k, h => by
    show (setAll (s.set w.1 w.2) ws).getD k [] = _
    rw [setAll_out ws _ fun x hx => h x (List.mem_cons_of_mem _ hx)]
    simp only [List.getD_eq_getElem?_getD, List.getElem?_set_ne (h w List.mem_cons_self)]
theorem setAll_in : ∀ (ws : List (Nat × B)) (s : List B) {w : Nat × B}, (ws.map (·.1)).Nodup → w ∈ ws → w.1 < s.length → (setAll s ws).getD w.1 [] = w.2
  | x :: ws, s, w, hn, hw, hl => by
    rw [List.map_cons, List.nodup_cons] at hn
    show (setAll (s.set x.1 x.2) ws).getD w.1 [] = _
    rcases List.mem_cons.1 hw with rfl | hw
    · rw [setAll_out ws _ fun y hy e => hn.1 (List.mem_map.2 ⟨y, hy, e⟩)]
      simp only [List.getD_eq_getElem?_getD, List.getElem?_set_self hl, Option.getD_some]
    · exact setAll_in ws _ hn.2 hw (by rw [List.length_set]; exact hl)
/-- Some writes. -/
def Drum.puts (d : Drum) (ws : List (Nat × B)) : Drum := { d with now := setAll d.now ws, loose := d.loose ++ ws, steps := d.steps + ws.length }
theorem puts_up {d : Drum} (h : d.up) (ws : List (Nat × B)) : (d.puts ws).up := h
theorem puts_puts (d : Drum) (a b : List (Nat × B)) : (d.puts a).puts b = d.puts (a ++ b) := by
  unfold Drum.puts; simp only [setAll_app, List.append_assoc, List.length_append, Nat.add_assoc]
theorem puts_nil (d : Drum) : d.puts [] = d := by unfold Drum.puts setAll; simp
theorem fill_full {n : Nat} {p : B} (h : p.length = n) : fill n p = p := by unfold fill; rw [h, Nat.sub_self]; simp
theorem write_up {d : Drum} (h : d.up) {n : Nat} {p : B} (hn : n < d.now.length) (hp : p.length ≤ 64) : d.write n p = (0, d.puts [(n, fill 64 p)]) := by
  unfold Drum.write
  rw [if_neg (by omega), if_neg (by omega), step_up h]
  rfl
/-- A page's bytes, on its sectors. -/
def pageW (base n : Nat) (b : B) : List (Nat × B) := (List.range 8).map fun i => (base + n * 8 + i, (b.drop (i * 64)).take 64)
def pageB (s : List B) (base n : Nat) : B := (List.range 8).flatMap fun i => s.getD (base + n * 8 + i) []
theorem putGo (base n : Nat) {b : B} (hb : b.length = 512) : ∀ (l : List Nat) {d : Drum}, d.up → (∀ i ∈ l, i < 8 ∧ base + n * 8 + i < d.now.length) →
    l.foldl (fun (r : Nat × Drum) i => if r.1 = 0 then r.2.write (base + n * 8 + i) ((b.drop (i * 64)).take 64) else r) (0, d) = (0, d.puts (l.map fun i => (base + n * 8 + i, (b.drop (i * 64)).take 64)))
  | [], d, _, _ => by rw [List.map_nil, puts_nil]; rfl
  | i :: l, d, hu, h => by
    obtain ⟨h1, h2⟩ := h i List.mem_cons_self
    have hl : ((b.drop (i * 64)).take 64).length = 64 := by rw [List.length_take, List.length_drop]; omega
    simp only [List.foldl_cons, if_true]
    rw [write_up hu h2 (by omega), fill_full hl, putGo base n hb l (puts_up hu _) (fun j hj => ⟨(h j (List.mem_cons_of_mem _ hj)).1, by unfold Drum.puts; rw [setAll_len]; exact (h j (List.mem_cons_of_mem _ hj)).2⟩), puts_puts]
    rfl
theorem putPage_up {d : Drum} (hu : d.up) {base n st : Nat} {p : B} (hp : p.length ≤ 496) (hl : base + n * 8 + 8 ≤ d.now.length) : putPage d base n st p = (0, d.puts (pageW base n (lay n st p))) :=
  putGo base n (lay_len n st hp) _ hu fun i hi => by have := List.mem_range.1 hi; omega
theorem getGo (base n : Nat) : ∀ (l : List Nat) {d : Drum} (a : B), d.up → (∀ i ∈ l, base + n * 8 + i < d.now.length) →
    l.foldl (fun (r : Nat × B × Drum) i => if r.1 = 0 then (match r.2.2.read (base + n * 8 + i) with | (e, s, d) => (e, r.2.1 ++ s, d)) else r) (0, a, d) = (0, a ++ l.flatMap (fun i => d.now.getD (base + n * 8 + i) []), d.tick l.length)
  | [], d, a, _, _ => by simp [Drum.tick]
  | i :: l, d, a, hu, h => by
    simp only [List.foldl_cons, if_true]
    rw [read_up hu (h i List.mem_cons_self)]
    simp only
    rw [getGo base n l (a ++ d.now.getD (base + n * 8 + i) []) (tick_up hu 1) (fun j hj => h j (List.mem_cons_of_mem _ hj)), tick_tick, List.flatMap_cons, List.append_assoc, List.length_cons, Nat.add_comm 1]
    rfl
theorem getPage_up {d : Drum} (hu : d.up) {base n : Nat} (hl : base + n * 8 + 8 ≤ d.now.length) : getPage d base n = ((take n (pageB d.now base n)).1, (take n (pageB d.now base n)).2.1, (take n (pageB d.now base n)).2.2, d.tick 8) := by
  unfold getPage
  rw [getGo base n (List.range 8) [] hu (fun i hi => by have := List.mem_range.1 hi; omega)]
  simp only [List.nil_append, if_true]
  rfl
theorem rejoin (b : B) : ∀ k : Nat, (List.range k).flatMap (fun i => (b.drop (i * 64)).take 64) = b.take (k * 64)
  | 0 => by simp
  | k + 1 => by
    rw [List.range_succ, List.flatMap_append, rejoin b k, show (k + 1) * 64 = k * 64 + 64 by omega, List.take_add]
    simp
theorem pageW_idx (base n : Nat) (b : B) : (pageW base n b).map (·.1) = (List.range 8).map fun i => base + n * 8 + i := by unfold pageW; rw [List.map_map]; rfl
theorem pageW_nodup (base n : Nat) (b : B) : ((pageW base n b).map (·.1)).Nodup := by
  rw [pageW_idx]
  exact List.Pairwise.map _ (fun a b h => by omega) List.nodup_range
theorem fm_congr {f g : Nat → B} : ∀ {l : List Nat}, (∀ i ∈ l, f i = g i) → l.flatMap f = l.flatMap g
  | [], _ => rfl
  | i :: l, h => by rw [List.flatMap_cons, List.flatMap_cons, h i List.mem_cons_self, fm_congr fun j hj => h j (List.mem_cons_of_mem _ hj)]
theorem pageB_put {s : List B} {base n : Nat} {b : B} (hb : b.length = 512) (hl : base + n * 8 + 8 ≤ s.length) : pageB (setAll s (pageW base n b)) base n = b := by
  have e : pageB (setAll s (pageW base n b)) base n = (List.range 8).flatMap fun i => (b.drop (i * 64)).take 64 := by
    unfold pageB
    refine fm_congr fun i hi => ?_
    have hi' := List.mem_range.1 hi
    exact setAll_in (pageW base n b) s (w := (base + n * 8 + i, (b.drop (i * 64)).take 64)) (pageW_nodup base n b) (List.mem_map.2 ⟨i, hi, rfl⟩) (by show _ < _; omega)
  rw [e, rejoin, List.take_of_length_le (by omega)]
theorem pageB_out {s : List B} {base m : Nat} {ws : List (Nat × B)} (h : ∀ w ∈ ws, w.1 < base + m * 8 ∨ base + m * 8 + 8 ≤ w.1) : pageB (setAll s ws) base m = pageB s base m := by
  unfold pageB
  refine fm_congr fun i hi => ?_
  have hi' := List.mem_range.1 hi
  exact setAll_out ws s fun w hw e => by have := h w hw; omega
theorem pageW_far {base n m : Nat} (hn : n ≠ m) (b : B) : ∀ w ∈ pageW base n b, w.1 < base + m * 8 ∨ base + m * 8 + 8 ≤ w.1 := fun w hw => by
  obtain ⟨i, hi, rfl⟩ := List.mem_map.1 hw
  have := List.mem_range.1 hi
  show base + n * 8 + i < _ ∨ _ ≤ base + n * 8 + i
  rcases Nat.lt_or_gt_of_ne hn with h | h
  · left; omega
  · right; omega
/-- .. and got. -/
theorem put_get {s : List B} {base n st : Nat} {p : B} (hn : n < 2 ^ 32) (hs : st < 2 ^ 64) (hp : p.length ≤ 496) (hl : base + n * 8 + 8 ≤ s.length) : take n (pageB (setAll s (pageW base n (lay n st p))) base n) = (0, fill 496 p, st) := by
  rw [pageB_put (lay_len n st hp) hl, take_lay hn hs hp]
end Go.Proofs.YtoacaikopcdkmaaGreat.Vm
/- The plain model of the vault: groups, and what a drum holds. Plain Lean, behind Me. -/
namespace Go.Proofs.YtoacaikopcdkmaaGreat.Vm
/-- A group: its stamp, its pages. -/
structure Grp where
  st : Nat
  pgs : List (Nat × B)
def rec1 (x : Nat × B) : B := put x.1 4 ++ x.2
def Grp.enc (G : Grp) : B := put G.pgs.length 2 ++ (put G.st 8 ++ G.pgs.flatMap rec1)
/-- What a group's pages are to be. -/
structure Grp.ok (pages : Nat) (G : Grp) : Prop where
  ne : G.pgs ≠ []
  len : G.pgs.length < 65536
  st : G.st < 2 ^ 64
  each : ∀ x ∈ G.pgs, x.2.length = 496 ∧ x.1 < pages
  inc : G.pgs.Pairwise fun x y => x.1 < y.1
theorem rec1_len {x : Nat × B} (h : x.2.length = 496) : (rec1 x).length = 500 := by unfold rec1; rw [List.length_append, put_len, h]
theorem recs_len : ∀ {l : List (Nat × B)}, (∀ x ∈ l, x.2.length = 496) → (l.flatMap rec1).length = l.length * 500
  | [], _ => rfl
  | x :: l, h => by
    rw [List.flatMap_cons, List.length_append, rec1_len (h x List.mem_cons_self), recs_len fun y hy => h y (List.mem_cons_of_mem _ hy), List.length_cons]
    omega
theorem chunks_recs : ∀ {l : List (Nat × B)} (k : Nat), (∀ x ∈ l, x.2.length = 496) → l.length ≤ k → chunks 500 k (l.flatMap rec1) = l.map rec1
  | [], 0, _, _ => rfl
  | [], k + 1, _, _ => by simp [chunks]
  | x :: l, k + 1, h, hk => by
    have h1 := rec1_len (h x List.mem_cons_self)
    rw [List.flatMap_cons, chunks, if_neg (by intro e; have := congrArg List.length e; simp [h1] at this)]
    rw [List.take_append_of_le_length (by omega), List.take_of_length_le (by omega), List.drop_append_of_le_length (by omega), List.drop_of_length_le (by omega), List.nil_append]
    rw [chunks_recs k (fun y hy => h y (List.mem_cons_of_mem _ hy)) (by simp at hk; omega)]
    rfl
theorem enc_len {G : Grp} (h : ∀ x ∈ G.pgs, x.2.length = 496) : G.enc.length = 10 + G.pgs.length * 500 := by
  unfold Grp.enc; rw [List.length_append, List.length_append, put_len, put_len, recs_len h]; omega
theorem enc_drop (G : Grp) : G.enc.drop 10 = G.pgs.flatMap rec1 := by
  unfold Grp.enc; rw [show (10 : Nat) = 2 + 8 from rfl, drop2, drop_put, drop_put]
theorem enc_count {G : Grp} (h : G.pgs.length < 65536) : num (G.enc.take 2) = G.pgs.length := by
  unfold Grp.enc; rw [take_put, num_put, Nat.mod_eq_of_lt (by simpa using h)]
theorem enc_stamp {G : Grp} (h : G.st < 2 ^ 64) : num ((G.enc.drop 2).take 8) = G.st := by
  unfold Grp.enc; rw [drop_put, take_put, num_put, Nat.mod_eq_of_lt (by simpa using h)]
/-- Is a group one of pages of the plan? -/
def incB (pages : Nat) : Option Nat → List B → Bool
  | _, [] => true
  | last, p :: l => (match last with | some m => decide (m < num (p.take 4)) | none => true) && decide (num (p.take 4) < pages) && incB pages (some (num (p.take 4))) l
def formB (pages : Nat) (g : B) : Bool := decide (10 ≤ g.length) && decide (g.length = 10 + num (g.take 2) * 500) && !decide (g.length = 10) && incB pages none (chunks 500 g.length (g.drop 10))
theorem inc_recs {pages : Nat} (hp : pages ≤ 2 ^ 32) : ∀ {l : List (Nat × B)} {last : Option Nat}, (∀ x ∈ l, x.1 < pages) → (l.Pairwise fun x y => x.1 < y.1) → (∀ m, last = some m → ∀ x ∈ l, m < x.1) → incB pages last (l.map rec1) = true
  | [], _, _, _, _ => rfl
  | x :: l, last, h, hi, hl => by
    have hx := h x List.mem_cons_self
    have e : num ((rec1 x).take 4) = x.1 := by unfold rec1; rw [take_put, num_put, Nat.mod_eq_of_lt (by simp only [Nat.reducePow] at *; omega)]
    rw [List.pairwise_cons] at hi
    have hd : ∀ (a : Option Nat) (q : B) (m : List B), incB pages a (q :: m) = ((match a with | some m => decide (m < num (q.take 4)) | none => true) && decide (num (q.take 4) < pages) && incB pages (some (num (q.take 4))) m) := fun a q m => by cases a <;> rfl
    rw [List.map_cons, hd, e, decide_eq_true hx, inc_recs hp (fun y hy => h y (List.mem_cons_of_mem _ hy)) hi.2 (fun m hm y hy => by injection hm with hm; rw [← hm]; exact hi.1 y hy)]
    cases last with
    | none => rfl
    | some m => simp only [decide_eq_true (hl m rfl x List.mem_cons_self), Bool.and_self]
theorem form_enc {pages : Nat} (hp : pages ≤ 2 ^ 32) {G : Grp} (h : G.ok pages) : formB pages G.enc = true := by
  have h4 : ∀ x ∈ G.pgs, x.2.length = 496 := fun x hx => (h.each x hx).1
  have hl := enc_len h4
  have hn : 0 < G.pgs.length := List.length_pos_iff.2 h.ne
  unfold formB
  rw [decide_eq_true (by omega), enc_count h.len, decide_eq_true hl, decide_eq_false (by omega), enc_drop, chunks_recs _ h4 (by omega), inc_recs hp (fun x hx => (h.each x hx).2) h.inc (fun m hm => by cases hm)]
  rfl
/-- The writes of a group's pages. -/
def Grp.ws (base : Nat) (G : Grp) : List (Nat × B) := G.pgs.flatMap fun x => pageW base x.1 (lay x.1 G.st x.2)
def putRec (base st : Nat) (r : Nat × Drum) (p : B) : Nat × Drum := if r.1 = 0 then putPage r.2 base (num (p.take 4)) st (p.drop 4) else r
theorem putRecs {base st pages : Nat} (hp : pages ≤ 2 ^ 32) : ∀ (l : List (Nat × B)) {d : Drum}, d.up → (∀ x ∈ l, x.2.length = 496 ∧ x.1 < pages) → base + pages * 8 ≤ d.now.length →
    (l.map rec1).foldl (putRec base st) (0, d) = (0, d.puts (l.flatMap fun x => pageW base x.1 (lay x.1 st x.2)))
  | [], d, _, _, _ => by rw [List.map_nil, List.flatMap_nil, puts_nil]; rfl
  | x :: l, d, hu, h, hl => by
    obtain ⟨h1, h2⟩ := h x List.mem_cons_self
    have e : num ((rec1 x).take 4) = x.1 := by unfold rec1; rw [take_put, num_put, Nat.mod_eq_of_lt (by simp only [Nat.reducePow] at *; omega)]
    have e2 : (rec1 x).drop 4 = x.2 := by unfold rec1; rw [drop_put]
    rw [List.map_cons, List.foldl_cons]
    have e3 : putRec base st (0, d) (rec1 x) = (0, d.puts (pageW base x.1 (lay x.1 st x.2))) := by
      unfold putRec
      rw [if_pos rfl, e, e2, putPage_up hu (by omega) (by show base + x.1 * 8 + 8 ≤ d.now.length; omega)]
    rw [e3, putRecs hp l (puts_up hu _) (fun y hy => h y (List.mem_cons_of_mem _ hy)) (by unfold Drum.puts; rw [setAll_len]; exact hl), puts_puts, List.flatMap_cons]
/-- All groups of the log are done again. -/
def redo (base : Nat) (r : Nat × Nat × Drum) (g : B) : Nat × Nat × Drum :=
  if r.1 = 0 then (match (chunks 500 g.length (g.drop 10)).foldl (putRec base (num ((g.drop 2).take 8))) (0, r.2.2) with | (e, d) => (e, num ((g.drop 2).take 8), d)) else r
theorem redo_all {base pages : Nat} (hp : pages ≤ 2 ^ 32) : ∀ (gs : List Grp) {d : Drum} {st : Nat}, d.up → (∀ G ∈ gs, G.ok pages) → base + pages * 8 ≤ d.now.length →
    (gs.map Grp.enc).foldl (redo base) (0, st, d) = (0, ((gs.getLast?.map Grp.st).getD st), d.puts (gs.flatMap (Grp.ws base)))
  | [], d, st, _, _, _ => by rw [List.map_nil, List.flatMap_nil, puts_nil]; rfl
  | G :: gs, d, st, hu, h, hl => by
    have hG := h G List.mem_cons_self
    have h4 : ∀ x ∈ G.pgs, x.2.length = 496 := fun x hx => (hG.each x hx).1
    have e : redo base (0, st, d) G.enc = (0, G.st, d.puts (G.ws base)) := by
      unfold redo
      rw [if_pos rfl, enc_stamp hG.st, enc_drop, chunks_recs _ h4 (by rw [enc_len h4]; omega), putRecs hp G.pgs hu hG.each hl]
      rfl
    rw [List.map_cons, List.foldl_cons, e, redo_all hp gs (puts_up hu _) (fun X hX => h X (List.mem_cons_of_mem _ hX)) (by unfold Drum.puts; rw [setAll_len]; exact hl), puts_puts, List.flatMap_cons]
    congr 2
    cases gs with
    | nil => rfl
    | cons X gs => simp [List.getLast?_cons]
end Go.Proofs.YtoacaikopcdkmaaGreat.Vm
/- The plain model of the vault: the whole log is read; what the groups make of the pages. Plain Lean, behind Mf. -/
namespace Go.Proofs.YtoacaikopcdkmaaGreat.Vm
/-- Groups stand on the log, one behind the other. -/
def OnLog (s : List B) (lo gen : Nat) : Nat → Nat → List B → Prop
  | _, _, [] => True
  | place, gi, p :: ps => (∀ j, j < secs p.length → s.getD (lo + (place + j)) [] = (secOf gen place gi (secs p.length) p j).lay (part p j)) ∧ OnLog s lo gen (place + secs p.length) (gi + 1) ps
def wide : List B → Nat
  | [] => 0
  | p :: ps => secs p.length + wide ps
theorem wide_app : ∀ (a b : List B), wide (a ++ b) = wide a + wide b
  | [], b => by simp [wide]
  | p :: a, b => by simp only [List.cons_append, wide, wide_app a b]; omega
theorem onLog_app (s : List B) (lo gen : Nat) : ∀ (a b : List B) (place gi : Nat), OnLog s lo gen place gi (a ++ b) ↔ OnLog s lo gen place gi a ∧ OnLog s lo gen (place + wide a) (gi + a.length) b
  | [], b, place, gi => by simp [OnLog, wide]
  | p :: a, b, place, gi => by
    simp only [List.cons_append, OnLog, wide, List.length_cons]
    rw [onLog_app s lo gen a b]
    rw [show place + secs p.length + wide a = place + (secs p.length + wide a) by omega, show gi + 1 + a.length = gi + (a.length + 1) by omega, and_assoc]
theorem onLog_same {s s' : List B} {lo gen : Nat} : ∀ (a : List B) (place gi : Nat), (∀ k, place ≤ k → k < place + wide a → s'.getD (lo + k) [] = s.getD (lo + k) []) → OnLog s lo gen place gi a → OnLog s' lo gen place gi a
  | [], _, _, _, _ => trivial
  | p :: a, place, gi, h, ⟨h1, h2⟩ => by
    simp only [wide] at h
    exact ⟨fun j hj => (h (place + j) (by omega) (by omega)).trans (h1 j hj), onLog_same a _ _ (fun k k1 k2 => h k (by omega) (by omega)) h2⟩
/-- All of the log is read. -/
theorem scan_all {gen lo N : Nat} (hg : gen < 4294967296) : ∀ (ps : List B) (place : Nat) (d : Drum) (t : Tape) (all : List B), d.up → (∀ p ∈ ps, secs p.length < 65536) → OnLog d.now lo gen place t.groups ps → place + wide ps ≤ N → lo + N ≤ d.now.length →
    (place + wide ps = N ∨ ((d.now.getD (lo + (place + wide ps)) []).drop 4).take 4 ≠ put gen 4) → t.place = place →
    ∃ k, Tape.scan gen lo (N - place) place d t all [] none = (0, { t with groups := t.groups + ps.length, place := place + wide ps }, all ++ ps, d.tick k) ∧ k ≤ wide ps + 1
  | [], place, d, t, all, hu, _, _, h1, h2, h3, ht => by
    simp only [wide, Nat.add_zero] at h1 h3 ⊢
    have e : { t with groups := t.groups + ([] : List B).length, place := place } = t := by cases t; simp only at ht; subst ht; rfl
    rw [e, List.append_nil]
    by_cases hN : place = N
    · subst hN
      rw [Nat.sub_self]
      exact ⟨0, rfl, by omega⟩
    · rcases h3 with h3 | h3
      · exact absurd h3 hN
      · refine ⟨1, ?_, by omega⟩
        obtain ⟨m, hm⟩ : ∃ m, N - place = m + 1 := ⟨N - place - 1, by omega⟩
        rw [hm]
        exact scan_end hu hg (by omega) h3 t all [] none
  | p :: ps, place, d, t, all, hu, hp, ⟨s1, s2⟩, h1, h2, h3, ht => by
    simp only [wide] at h1 h3 ⊢
    obtain ⟨q1, q2, q3, q4⟩ := secs_le p
    have hg1 := scan_group (gen := gen) (lo := lo) (place := place) (hp p List.mem_cons_self) (all := all) (t := t) rfl (secs p.length) 0 (N - place - secs p.length) d hu (by omega) (by omega) (fun j hj => ⟨by omega, s1 j hj⟩)
    rw [show N - place - secs p.length + secs p.length = N - place by omega] at hg1
    simp only [Nat.zero_mul, List.take_zero, if_true, Nat.add_zero] at hg1
    obtain ⟨k, ih, hk⟩ := scan_all hg ps (place + secs p.length) (d.tick (secs p.length)) { t with groups := t.groups + 1, place := place + secs p.length } (all ++ [p]) (tick_up hu _) (fun x hx => hp x (List.mem_cons_of_mem _ hx)) s2 (by omega) h2 (by
      rcases h3 with h3 | h3
      · left; omega
      · right; rw [show place + secs p.length + wide ps = place + (secs p.length + wide ps) by omega]; exact h3) rfl
    refine ⟨secs p.length + k, ?_, by omega⟩
    rw [hg1, show N - place - secs p.length = N - (place + secs p.length) by omega, ih, tick_tick]
    simp only [List.length_cons, List.append_assoc, List.cons_append, List.nil_append]
    rw [show t.groups + 1 + ps.length = t.groups + (ps.length + 1) by omega, show place + secs p.length + wide ps = place + (secs p.length + wide ps) by omega]
/-- What the groups make of a page. -/
def look : List Grp → Nat → Option (B × Nat) → Option (B × Nat)
  | [], _, a => a
  | G :: gs, n, a => look gs n (match G.pgs.find? (fun x => x.1 == n) with | some x => some (x.2, G.st) | none => a)
theorem pages_ws {base pages st n : Nat} (hp : pages ≤ 2 ^ 32) (hs : st < 2 ^ 64) (hn : n < pages) : ∀ (l : List (Nat × B)) (s : List B), (∀ x ∈ l, x.2.length = 496 ∧ x.1 < pages) → (l.Pairwise fun x y => x.1 < y.1) → base + pages * 8 ≤ s.length →
    take n (pageB (setAll s (l.flatMap fun x => pageW base x.1 (lay x.1 st x.2))) base n) = match l.find? (fun x => x.1 == n) with | some x => (0, x.2, st) | none => take n (pageB s base n)
  | [], s, _, _, _ => rfl
  | x :: l, s, h, hi, hl => by
    obtain ⟨h1, h2⟩ := h x List.mem_cons_self
    rw [List.pairwise_cons] at hi
    rw [List.flatMap_cons, setAll_app, pages_ws hp hs hn l _ (fun y hy => h y (List.mem_cons_of_mem _ hy)) hi.2 (by rw [setAll_len]; exact hl), List.find?_cons]
    by_cases hx : x.1 = n
    · have hno : l.find? (fun x => x.1 == n) = none := List.find?_eq_none.2 fun y hy e => by have := hi.1 y hy; have e' : y.1 = n := by simpa using e
                                                                                             omega
      rw [hno, show (x.1 == n) = true by simpa using hx]
      subst hx
      simp only
      rw [put_get (by simp only [Nat.reducePow] at *; omega) hs (by omega) (by omega), fill_full h1]
    · rw [show (x.1 == n) = false by simpa using hx]
      simp only
      rw [pageB_out (pageW_far hx _)]
theorem redo_look {base pages n : Nat} (hp : pages ≤ 2 ^ 32) (hn : n < pages) : ∀ (gs : List Grp) (s : List B) (a : Option (B × Nat)), (∀ G ∈ gs, G.ok pages) → base + pages * 8 ≤ s.length → (∀ q, a = some q → take n (pageB s base n) = (0, q.1, q.2)) →
    take n (pageB (setAll s (gs.flatMap (Grp.ws base))) base n) = match look gs n a with | some q => (0, q.1, q.2) | none => take n (pageB s base n)
  | [], s, a, _, _, ha => by
    cases a with
    | none => rfl
    | some q => exact ha q rfl
  | G :: gs, s, a, h, hl, ha => by
    have hG := h G List.mem_cons_self
    have e := pages_ws (base := base) (st := G.st) hp hG.st hn G.pgs s hG.each hG.inc hl
    have ih := redo_look (base := base) hp hn gs (setAll s (G.ws base)) (match G.pgs.find? (fun x => x.1 == n) with | some x => some (x.2, G.st) | none => a) (fun X hX => h X (List.mem_cons_of_mem _ hX)) (by rw [setAll_len]; exact hl) (fun q hq => by
      show take n (pageB (setAll s (G.pgs.flatMap fun x => pageW base x.1 (lay x.1 G.st x.2))) base n) = _
      rw [e]
      cases hf : G.pgs.find? (fun x => x.1 == n) with
      | some x => rw [hf] at hq; injection hq with hq; rw [← hq]
      | none => rw [hf] at hq; exact ha q hq)
    rw [List.flatMap_cons, setAll_app, ih]
    show _ = match look gs n (match G.pgs.find? (fun x => x.1 == n) with | some x => some (x.2, G.st) | none => a) with | some q => (0, q.1, q.2) | none => take n (pageB s base n)
    cases hk : look gs n (match G.pgs.find? (fun x => x.1 == n) with | some x => some (x.2, G.st) | none => a) with
    | some q => rfl
    | none =>
      have hno : G.pgs.find? (fun x => x.1 == n) = none := by
        cases hf : G.pgs.find? (fun x => x.1 == n) with
        | none => rfl
        | some x =>
          exfalso
          rw [hf] at hk
          have : ∀ (gs : List Grp) (q : B × Nat), look gs n (some q) ≠ none := fun gs => by
            induction gs with
            | nil => intro q h; cases h
            | cons X gs ih => intro q h; simp only [look] at h; split at h <;> exact ih _ h
          exact this gs _ hk
      show take n (pageB (setAll s (G.pgs.flatMap fun x => pageW base x.1 (lay x.1 G.st x.2))) base n) = _
      rw [e, hno]
end Go.Proofs.YtoacaikopcdkmaaGreat.Vm
/- The plain model of the vault: what a drum holds, and opening it. Plain Lean, behind Mg. -/
namespace Go.Proofs.YtoacaikopcdkmaaGreat.Vm
def headOf (b0 b1 : B) : Head :=
  let h0 : Head := (takeHead b0).getD ⟨0, 0⟩
  match takeHead b1 with
  | some h => if h0.gen < h.gen then h else h0
  | none => h0
def getHead2 (d : Drum) : Nat × Head × Drum :=
  match d.read 0 with
  | (0, b0, d) => match d.read 1 with
    | (0, b1, d) => if (headOf b0 b1).gen = 0 then (11, ⟨0, 0⟩, d) else (0, headOf b0 b1, d)
    | (e, _, d) => (e, ⟨0, 0⟩, d)
  | (e, _, d) => (e, ⟨0, 0⟩, d)
def z0 : Tape := ⟨0, 0, 0, 0, 0, false⟩
def turn2 (d : Drum) (pl : Plan) (h : Head) : Nat × Head × Tape × Drum :=
  if h.gen = 4294967295 then (5, h, z0, d) else
  match d.write ((h.gen + 1) % 2) (layHead ⟨h.gen + 1, h.stamp⟩) with
  | (0, d) => match d.flush with
    | (0, d) => match Tape.open d 2 (2 + pl.log) (h.gen + 1) with
      | (e, t, _, d) => (e, ⟨h.gen + 1, h.stamp⟩, t, d)
    | (e, d) => (e, ⟨h.gen + 1, h.stamp⟩, z0, d)
  | (e, d) => (e, ⟨h.gen + 1, h.stamp⟩, z0, d)
def recover2 (d : Drum) (pl : Plan) (h : Head) : Nat × Head × Tape × Drum :=
  match Tape.open d 2 (2 + pl.log) h.gen with
  | (0, _, gs, d) =>
    if gs.all (formB pl.pages) = false then (11, h, z0, d) else if h.gen = 4294967295 then (5, h, z0, d) else
    match gs.foldl (redo pl.base) (0, h.stamp, d) with
    | (0, st, d) => match d.flush with
      | (0, d) => turn2 d pl ⟨h.gen, st⟩
      | (e, d) => (e, h, z0, d)
    | (e, st, d) => (e, ⟨h.gen, st⟩, z0, d)
  | (e, _, _, d) => (e, h, z0, d)
/-- A drum's sectors hold a vault: the generation, the groups on the log, what the pages are. -/
structure Disk (s : List B) (pl : Plan) (g st0 : Nat) (gs : List Grp) (C : Nat → B) : Prop where
  plan : draft s.length = some pl
  g1 : 1 ≤ g
  g2 : g < 4294967295
  s0 : st0 < 2 ^ 64
  slot : s.getD (g % 2) [] = layHead ⟨g, st0⟩
  other : ∀ h, takeHead (s.getD ((g + 1) % 2) []) = some h → h.gen < g
  log : OnLog s 2 g 0 0 (gs.map Grp.enc)
  room : wide (gs.map Grp.enc) ≤ pl.log
  stop : ∀ k, wide (gs.map Grp.enc) ≤ k → k < pl.log → ((s.getD (2 + k) []).drop 4).take 4 ≠ put g 4
  fresh : ∀ g', g < g' → g' ≤ 4294967295 → ∀ k, k < pl.log → ((s.getD (2 + k) []).drop 4).take 4 ≠ put g' 4
  ok : ∀ G ∈ gs, G.ok pl.pages
  page : ∀ n, n < pl.pages → ∃ st, (match look gs n none with | some q => (0, q.1, q.2) | none => take n (pageB s pl.base n)) = (0, C n, st)
theorem plan_facts {n : Nat} {pl : Plan} (h : draft n = some pl) : pl.base = 2 + pl.log ∧ pl.base + pl.pages * 8 ≤ n ∧ 16 ≤ pl.log ∧ pl.log ≤ 4096 ∧ 1 ≤ pl.pages ∧ pl.pages ≤ 2048 ∧ 64 ≤ n ∧ n ≤ 16384 := by
  unfold draft at h
  split at h
  · cases h
  · injection h with h
    subst h
    refine ⟨rfl, ?_, ?_, ?_, ?_, ?_, ?_, ?_⟩ <;> first | omega | (simp only; omega)
theorem secs_small {p : B} {n : Nat} (h : secs p.length ≤ n) (hn : n < 65536) : secs p.length < 65536 := by omega
theorem wide_mem : ∀ {ps : List B} {p : B}, p ∈ ps → secs p.length ≤ wide ps
  | q :: ps, p, h => by
    rcases List.mem_cons.1 h with rfl | h
    · simp only [wide]; omega
    · have := wide_mem h; simp only [wide]; omega
/-- The log is opened. -/
theorem open_log {d : Drum} (hu : d.up) {gen : Nat} (h1 : 1 ≤ gen) (h2 : gen ≤ 4294967295) {log : Nat} (hl : 1 ≤ log) (hl2 : log ≤ 4096) (hd : 2 + log ≤ d.now.length) {ps : List B} (ho : OnLog d.now 2 gen 0 0 ps) (hw : wide ps ≤ log)
    (hs : wide ps = log ∨ ((d.now.getD (2 + wide ps) []).drop 4).take 4 ≠ put gen 4) : ∃ k, Tape.open d 2 (2 + log) gen = (0, ⟨2, 2 + log, gen, wide ps, ps.length, false⟩, ps, d.tick k) ∧ k ≤ wide ps + 1 := by
  obtain ⟨k, e, hk⟩ := scan_all (gen := gen) (lo := 2) (N := log) (by omega) ps 0 d ⟨2, 2 + log, gen, 0, 0, false⟩ [] hu (fun p hp => by have := wide_mem hp; omega) ho (by omega) (by omega) (by simpa using hs) rfl
  refine ⟨k, ?_, by omega⟩
  unfold Tape.open
  rw [if_neg (by omega), show 2 + log - 2 = log - 0 by omega, e]
  simp
theorem flush_up {d : Drum} (hu : d.up) : d.flush = (0, { d with safe := setAll d.safe d.loose, loose := [], steps := d.steps + 1 }) := by
  unfold Drum.flush
  rw [step_up hu]
  rfl
theorem ws_ge (base : Nat) (gs : List Grp) : ∀ w ∈ gs.flatMap (Grp.ws base), base ≤ w.1 := fun w hw => by
  obtain ⟨G, _, hw⟩ := List.mem_flatMap.1 hw
  obtain ⟨x, _, hw⟩ := List.mem_flatMap.1 hw
  obtain ⟨i, _, rfl⟩ := List.mem_map.1 hw
  show base ≤ base + x.1 * 8 + i
  omega
theorem layHead_len (h : Head) : (layHead h).length = 64 := by rw [layHead_eq]; simp only [List.length_append, put_len, List.length_cons, List.length_nil, List.length_replicate]
theorem mod2 (g : Nat) : (g % 2 = 0 ∧ (g + 1) % 2 = 1) ∨ (g % 2 = 1 ∧ (g + 1) % 2 = 0) := by omega
theorem head_is {s : List B} {g st : Nat} (h1 : 1 ≤ g) (h2 : g < 2 ^ 32) (h3 : st < 2 ^ 64) (hs : s.getD (g % 2) [] = layHead ⟨g, st⟩) (ho : ∀ h, takeHead (s.getD ((g + 1) % 2) []) = some h → h.gen < g) : headOf (s.getD 0 []) (s.getD 1 []) = ⟨g, st⟩ := by
  have ht : takeHead (s.getD (g % 2) []) = some ⟨g, st⟩ := by rw [hs]; exact takeHead_lay h1 h2 h3
  unfold headOf
  rcases mod2 g with ⟨a, b⟩ | ⟨a, b⟩ <;> rw [a] at ht <;> rw [b] at ho
  · rw [ht]
    simp only [Option.getD_some]
    cases e : takeHead (s.getD 1 []) with
    | none => rfl
    | some h => simp only; rw [if_neg (by have := ho h e; omega)]
  · rw [ht]
    cases e : takeHead (s.getD 0 []) with
    | none => simp only [Option.getD_none]; rw [if_pos (by omega)]
    | some h => simp only [Option.getD_some]; rw [if_pos (ho h e)]
theorem getHead_up {d : Drum} (hu : d.up) (hl : 2 ≤ d.now.length) {g st : Nat} (hg : 1 ≤ g) (h : headOf (d.now.getD 0 []) (d.now.getD 1 []) = ⟨g, st⟩) : getHead2 d = (0, ⟨g, st⟩, d.tick 2) := by
  unfold getHead2
  rw [read_up hu (by omega)]
  simp only
  rw [read_up (tick_up hu 1) (by show 1 < d.now.length; omega)]
  simp only
  rw [show (d.tick 1).now = d.now from rfl, h, if_neg (by show ¬ g = 0; omega), tick_tick]
/-- The next generation begins. -/
theorem turn_up {d : Drum} (hu : d.up) (hsy : d.now = setAll d.safe d.loose) {pl : Plan} (hp : draft d.now.length = some pl) {g st : Nat} (hg : g < 4294967295) (hf : ∀ k, k < pl.log → ((d.now.getD (2 + k) []).drop 4).take 4 ≠ put (g + 1) 4) :
    ∃ k, turn2 d pl ⟨g, st⟩ = (0, ⟨g + 1, st⟩, ⟨2, 2 + pl.log, g + 1, 0, 0, false⟩, { d with now := d.now.set ((g + 1) % 2) (layHead ⟨g + 1, st⟩), safe := d.now.set ((g + 1) % 2) (layHead ⟨g + 1, st⟩), loose := [], steps := d.steps + k }) ∧ k ≤ 3 := by
  obtain ⟨p1, p2, p3, p4, p5, p6, p7, p8⟩ := plan_facts hp
  have hm : (g + 1) % 2 < 2 := Nat.mod_lt _ (by decide)
  unfold turn2
  rw [if_neg (show ¬ g = 4294967295 by omega), write_up hu (show (g + 1) % 2 < d.now.length by omega) (Nat.le_of_eq (layHead_len _)), fill_full (layHead_len _)]
  simp only
  rw [flush_up (puts_up hu _)]
  simp only
  have e1 : (d.puts [((g + 1) % 2, layHead ⟨g + 1, st⟩)]).now = d.now.set ((g + 1) % 2) (layHead ⟨g + 1, st⟩) := rfl
  have e2 : setAll (d.puts [((g + 1) % 2, layHead ⟨g + 1, st⟩)]).safe (d.puts [((g + 1) % 2, layHead ⟨g + 1, st⟩)]).loose = d.now.set ((g + 1) % 2) (layHead ⟨g + 1, st⟩) := by
    show setAll d.safe (d.loose ++ [((g + 1) % 2, layHead ⟨g + 1, st⟩)]) = _
    rw [setAll_app, ← hsy]; rfl
  rw [e2]
  obtain ⟨k, e, hk⟩ := open_log (d := { d.puts [((g + 1) % 2, layHead ⟨g + 1, st⟩)] with safe := d.now.set ((g + 1) % 2) (layHead ⟨g + 1, st⟩), loose := [], steps := (d.puts [((g + 1) % 2, layHead ⟨g + 1, st⟩)]).steps + 1 }) hu (gen := g + 1) (by omega) (by omega) (log := pl.log) (by omega) p4 (by show 2 + pl.log ≤ (d.now.set _ _).length; rw [List.length_set]; omega) (ps := []) trivial (by simp [wide]) (Or.inr (by
    show (((d.now.set ((g + 1) % 2) (layHead ⟨g + 1, st⟩)).getD (2 + 0) []).drop 4).take 4 ≠ _
    have : (d.now.set ((g + 1) % 2) (layHead ⟨g + 1, st⟩)).getD (2 + 0) [] = d.now.getD (2 + 0) [] := by simp only [List.getD_eq_getElem?_getD, List.getElem?_set_ne (show (g + 1) % 2 ≠ 2 + 0 by omega)]
    rw [this]
    exact hf 0 (by omega)))
  rw [e]
  simp only [wide, List.length_nil] at hk ⊢
  refine ⟨2 + k, ?_, by omega⟩
  simp only [Drum.tick, Drum.puts, List.length_cons, List.length_nil]
  rw [show d.steps + (0 + 1) + 1 + k = d.steps + (2 + k) by omega]
  rfl
end Go.Proofs.YtoacaikopcdkmaaGreat.Vm
/- The plain model of the vault: recovery makes what the drum holds stand. Plain Lean, behind Mh. -/
namespace Go.Proofs.YtoacaikopcdkmaaGreat.Vm
theorem set_getD {s : List B} {i k : Nat} {b : B} : (s.set i b).getD k [] = if i = k ∧ k < s.length then b else s.getD k [] := by
  simp only [List.getD_eq_getElem?_getD, List.getElem?_set]
  by_cases h : i = k
  · subst h
    by_cases h2 : i < s.length
    · simp [h2]
    · simp [h2]
  · simp [h]
theorem look_st : ∀ (gs : List Grp) (n : Nat) (a : Option (B × Nat)) {q : B × Nat}, (∀ G ∈ gs, G.st < 2 ^ 64) → (∀ x, a = some x → x.2 < 2 ^ 64) → look gs n a = some q → q.2 < 2 ^ 64
  | [], _, a, q, _, ha, h => ha q h
  | G :: gs, n, a, q, hg, ha, h => look_st gs n _ (fun X hX => hg X (List.mem_cons_of_mem _ hX)) (fun x hx => by
      cases hf : G.pgs.find? (fun x => x.1 == n) with
      | some y => rw [hf] at hx; injection hx with hx; rw [← hx]; exact hg G List.mem_cons_self
      | none => rw [hf] at hx; exact ha x hx) h
theorem last_st {gs : List Grp} {st0 : Nat} (h0 : st0 < 2 ^ 64) (h : ∀ G ∈ gs, G.st < 2 ^ 64) : ((gs.getLast?.map Grp.st).getD st0) < 2 ^ 64 := by
  cases e : gs.getLast? with
  | none => exact h0
  | some G => exact h G (List.mem_of_getLast? e)
/-- RECOVERY. -/
theorem recover_disk {s : List B} {pl : Plan} {g st0 : Nat} {gs : List Grp} {C : Nat → B} (D : Disk s pl g st0 gs C) (hg : g + 1 < 4294967295) {d : Drum} (hu : d.up) (hn : d.now = s) (hs : d.safe = s) (hl : d.loose = []) :
    ∃ st1 d', recover2 d pl ⟨g, st0⟩ = (0, ⟨g + 1, st1⟩, ⟨2, 2 + pl.log, g + 1, 0, 0, false⟩, d') ∧ d'.up ∧ d'.safe = d'.now ∧ d'.loose = [] ∧ Disk d'.now pl (g + 1) st1 [] C ∧ d'.steps ≤ d.steps + pl.log + 1 + (gs.flatMap (Grp.ws pl.base)).length + 4 := by
  obtain ⟨p1, p2, p3, p4, p5, p6, p7, p8⟩ := plan_facts D.plan
  have hln : d.now.length = s.length := by rw [hn]
  have hpg : pl.pages ≤ 2 ^ 32 := by simp only [Nat.reducePow]; omega
  obtain ⟨k1, e1, hk1⟩ := open_log hu D.g1 (by have := D.g2; omega) (log := pl.log) (by omega) p4 (by omega) (ps := gs.map Grp.enc) (by rw [hn]; exact D.log) D.room (by
    rw [hn]
    rcases Nat.lt_or_ge (wide (gs.map Grp.enc)) pl.log with h | h
    · exact .inr (D.stop _ (Nat.le_refl _) h)
    · exact .inl (by have := D.room; omega))
  have hform : (gs.map Grp.enc).all (formB pl.pages) = true := by
    rw [List.all_map, List.all_eq_true]
    exact fun G hG => form_enc hpg (D.ok G hG)
  have hr := redo_all (base := pl.base) (pages := pl.pages) hpg gs (d := d.tick k1) (st := st0) (tick_up hu k1) D.ok (by show pl.base + pl.pages * 8 ≤ d.now.length; omega)
  have hst := last_st D.s0 fun G hG => (D.ok G hG).st
  -- the drum behind the flush
  have hnow : setAll s (gs.flatMap (Grp.ws pl.base)) = setAll ((d.tick k1).puts (gs.flatMap (Grp.ws pl.base))).safe ((d.tick k1).puts (gs.flatMap (Grp.ws pl.base))).loose := by
    show _ = setAll d.safe (d.loose ++ _)
    rw [hs, hl, List.nil_append]
  have hge := ws_ge pl.base gs
  have low : ∀ k, k < pl.base → (setAll s (gs.flatMap (Grp.ws pl.base))).getD k [] = s.getD k [] := fun k hk => setAll_out _ s fun w hw e => by have := hge w hw; omega
  obtain ⟨k2, e2, hk2⟩ := turn_up (d := { ((d.tick k1).puts (gs.flatMap (Grp.ws pl.base))) with safe := setAll s (gs.flatMap (Grp.ws pl.base)), loose := [], steps := ((d.tick k1).puts (gs.flatMap (Grp.ws pl.base))).steps + 1 }) hu (by show setAll d.now _ = setAll (setAll s _) []; rw [hn]; rfl) (pl := pl)
    (by show draft (setAll d.now _).length = _; rw [setAll_len, hln]; exact D.plan) (g := g) (st := (gs.getLast?.map Grp.st).getD st0) D.g2 (fun k hk => by
      show (((setAll d.now (gs.flatMap (Grp.ws pl.base))).getD (2 + k) []).drop 4).take 4 ≠ _
      rw [hn, low (2 + k) (by omega)]
      exact D.fresh (g + 1) (by omega) (by omega) k hk)
  refine ⟨(gs.getLast?.map Grp.st).getD st0, { ((d.tick k1).puts (gs.flatMap (Grp.ws pl.base))) with now := (setAll s (gs.flatMap (Grp.ws pl.base))).set ((g + 1) % 2) (layHead ⟨g + 1, (gs.getLast?.map Grp.st).getD st0⟩), safe := (setAll s (gs.flatMap (Grp.ws pl.base))).set ((g + 1) % 2) (layHead ⟨g + 1, (gs.getLast?.map Grp.st).getD st0⟩), loose := [], steps := ((d.tick k1).puts (gs.flatMap (Grp.ws pl.base))).steps + 1 + k2 }, ?_, hu, rfl, rfl, ?_, ?_⟩
  · unfold recover2
    rw [e1]
    simp only
    rw [hform, if_neg (by decide), if_neg (show ¬ g = 4294967295 by omega), hr]
    simp only
    rw [flush_up (puts_up (tick_up hu k1) _)]
    simp only
    rw [← hnow, e2]
    simp only [Drum.puts, Drum.tick]
    rw [hn]
  · have hm : (g + 1) % 2 < 2 := Nat.mod_lt _ (by decide)
    have hlen : ((setAll s (gs.flatMap (Grp.ws pl.base))).set ((g + 1) % 2) (layHead ⟨g + 1, (gs.getLast?.map Grp.st).getD st0⟩)).length = s.length := by rw [List.length_set, setAll_len]
    have at0 : ∀ k, 2 ≤ k → ((setAll s (gs.flatMap (Grp.ws pl.base))).set ((g + 1) % 2) (layHead ⟨g + 1, (gs.getLast?.map Grp.st).getD st0⟩)).getD k [] = (setAll s (gs.flatMap (Grp.ws pl.base))).getD k [] := fun k hk => by rw [set_getD, if_neg (by omega)]
    have hfresh : ∀ g', g < g' → g' ≤ 4294967295 → ∀ k, k < pl.log → ((((setAll s (gs.flatMap (Grp.ws pl.base))).set ((g + 1) % 2) (layHead ⟨g + 1, (gs.getLast?.map Grp.st).getD st0⟩)).getD (2 + k) []).drop 4).take 4 ≠ put g' 4 := fun g' h1 h2 k hk => by
      rw [at0 _ (by omega), low _ (by omega)]; exact D.fresh g' h1 h2 k hk
    refine ⟨by rw [hlen]; exact D.plan, by omega, hg, hst, ?_, ?_, trivial, by simp [wide], fun k _ hk => hfresh (g + 1) (by omega) (by omega) k hk, fun g' h1 h2 => hfresh g' (by omega) h2, fun G hG => (by cases hG), fun n hn' => ?_⟩
    · show ((setAll s (gs.flatMap (Grp.ws pl.base))).set ((g + 1) % 2) (layHead ⟨g + 1, (gs.getLast?.map Grp.st).getD st0⟩)).getD ((g + 1) % 2) [] = _
      rw [set_getD, if_pos ⟨rfl, by rw [setAll_len]; omega⟩]
    · intro h hh
      have e : (g + 1 + 1) % 2 = g % 2 := by omega
      rw [e] at hh
      have hne : (g + 1) % 2 ≠ g % 2 := by omega
      have : ((setAll s (gs.flatMap (Grp.ws pl.base))).set ((g + 1) % 2) (layHead ⟨g + 1, (gs.getLast?.map Grp.st).getD st0⟩)).getD (g % 2) [] = layHead ⟨g, st0⟩ := by
        rw [set_getD, if_neg (by omega), low _ (by omega), D.slot]
      rw [this, takeHead_lay D.g1 (by have := D.g2; simp only [Nat.reducePow]; omega) D.s0] at hh
      injection hh with hh
      rw [← hh]
      show g < g + 1
      omega
    · show ∃ st, take n (pageB ((setAll s (gs.flatMap (Grp.ws pl.base))).set ((g + 1) % 2) (layHead ⟨g + 1, (gs.getLast?.map Grp.st).getD st0⟩)) pl.base n) = (0, C n, st)
      have hp : pageB ((setAll s (gs.flatMap (Grp.ws pl.base))).set ((g + 1) % 2) (layHead ⟨g + 1, (gs.getLast?.map Grp.st).getD st0⟩)) pl.base n = pageB (setAll s (gs.flatMap (Grp.ws pl.base))) pl.base n := by
        unfold pageB
        exact fm_congr fun i hi => at0 _ (by omega)
      rw [hp, redo_look hpg hn' gs s none D.ok (by omega) (fun q hq => by cases hq)]
      exact D.page n hn'
  · show (d.steps + k1 + (gs.flatMap (Grp.ws pl.base)).length) + 1 + k2 ≤ _
    have := D.room
    omega
end Go.Proofs.YtoacaikopcdkmaaGreat.Vm
/- The plain model of the vault: between the calls; a crash; a checkpoint; a commit. Plain Lean, behind Mi. -/
namespace Go.Proofs.YtoacaikopcdkmaaGreat.Vm
/-- A write within a page that the log's groups put again. -/
def Safe (pl : Plan) (gs : List Grp) (w : Nat × B) : Prop := ∃ n, n < pl.pages ∧ (look gs n none).isSome = true ∧ pl.base + n * 8 ≤ w.1 ∧ w.1 < pl.base + n * 8 + 8
/-- Writes within such pages leave what the drum holds. -/
theorem disk_writes {s : List B} {pl : Plan} {g st0 : Nat} {gs : List Grp} {C : Nat → B} (D : Disk s pl g st0 gs C) {ws : List (Nat × B)} (h : ∀ w ∈ ws, Safe pl gs w) : Disk (setAll s ws) pl g st0 gs C := by
  obtain ⟨p1, p2, p3, p4, p5, p6, p7, p8⟩ := plan_facts D.plan
  have low : ∀ k, k < pl.base → (setAll s ws).getD k [] = s.getD k [] := fun k hk => setAll_out ws s fun w hw e => by
    obtain ⟨n, _, _, h3, _⟩ := h w hw
    omega
  have hm1 : g % 2 < 2 := Nat.mod_lt _ (by decide)
  have hm2 : (g + 1) % 2 < 2 := Nat.mod_lt _ (by decide)
  refine ⟨by rw [setAll_len]; exact D.plan, D.g1, D.g2, D.s0, by rw [low _ (by omega)]; exact D.slot, by rw [low _ (by omega)]; exact D.other, onLog_same _ _ _ (fun k _ hk => low _ (by have := D.room; omega)) D.log, D.room,
    fun k h1 h2 => by rw [low _ (by omega)]; exact D.stop k h1 h2, fun g' h1 h2 k hk => by rw [low _ (by omega)]; exact D.fresh g' h1 h2 k hk, D.ok, fun n hn => ?_⟩
  have hp := D.page n hn
  cases hl : look gs n none with
  | some q => rw [hl] at hp; exact hp
  | none =>
    rw [hl] at hp
    simp only at hp ⊢
    rw [pageB_out fun w hw => by
      obtain ⟨m, _, h2, h3, h4⟩ := h w hw
      have hmn : m ≠ n := fun e => by rw [e, hl] at h2; cases h2
      rcases Nat.lt_or_gt_of_ne hmn with h5 | h5
      · left; omega
      · right; omega]
    exact hp
/-- Between the calls. -/
structure Run (d : Drum) (pl : Plan) (g st0 : Nat) (gs : List Grp) (C : Nat → B) : Prop where
  up : d.up
  sync : d.now = setAll d.safe d.loose
  disk : Disk d.safe pl g st0 gs C
  loose : ∀ w ∈ d.loose, Safe pl gs w
  now : ∀ n, n < pl.pages → ∃ st, take n (pageB d.now pl.base n) = (0, C n, st)
def kept : List Bool → List (Nat × B) → List (Nat × B)
  | k :: ks, w :: ws => if k then w :: kept ks ws else kept ks ws
  | _, _ => []
theorem kept_mem : ∀ (ks : List Bool) (ws : List (Nat × B)), ∀ w ∈ kept ks ws, w ∈ ws
  | [], _, w, h => by cases h
  | _ :: _, [], w, h => by cases h
  | k :: ks, x :: ws, w, h => by
    simp only [kept] at h
    split at h
    · rcases List.mem_cons.1 h with rfl | h
      · exact List.mem_cons_self
      · exact List.mem_cons_of_mem _ (kept_mem ks ws w h)
    · exact List.mem_cons_of_mem _ (kept_mem ks ws w h)
def Drum.crash2 (d : Drum) (keep : List Bool) : Drum := { d with safe := setAll d.safe (kept keep d.loose), now := setAll d.safe (kept keep d.loose), loose := [], fuse := none, down := false }
/-- A CRASH: whatever is kept, the drum holds the same. -/
theorem crash_disk {d : Drum} {pl : Plan} {g st0 : Nat} {gs : List Grp} {C : Nat → B} (R : Run d pl g st0 gs C) (keep : List Bool) : Disk (d.crash2 keep).now pl g st0 gs C ∧ (d.crash2 keep).up ∧ (d.crash2 keep).safe = (d.crash2 keep).now ∧ (d.crash2 keep).loose = [] :=
  ⟨disk_writes R.disk fun w hw => R.loose w (kept_mem keep _ w hw), ⟨rfl, rfl⟩, rfl, rfl⟩
/-- What stands behind a recovery. -/
theorem run_of {d : Drum} (hu : d.up) (hs : d.safe = d.now) (hl : d.loose = []) {pl : Plan} {g st0 : Nat} {C : Nat → B} (D : Disk d.now pl g st0 [] C) : Run d pl g st0 [] C :=
  ⟨hu, by rw [hs, hl]; rfl, by rw [hs]; exact D, (fun w hw => by rw [hl] at hw; cases hw), fun n hn => D.page n hn⟩
/-- A CRASH AND AN OPENING: the same pages, the log empty. -/
theorem crash_open {d : Drum} {pl : Plan} {g st0 : Nat} {gs : List Grp} {C : Nat → B} (R : Run d pl g st0 gs C) (hg : g + 1 < 4294967295) (keep : List Bool) :
    ∃ st1 d', recover2 (d.crash2 keep) pl ⟨g, st0⟩ = (0, ⟨g + 1, st1⟩, ⟨2, 2 + pl.log, g + 1, 0, 0, false⟩, d') ∧ Run d' pl (g + 1) st1 [] C := by
  obtain ⟨D, hu, hs, hl⟩ := crash_disk R keep
  obtain ⟨st1, d', e, h1, h2, h3, h4, _⟩ := recover_disk D hg hu rfl hs hl
  exact ⟨st1, d', e, run_of h1 h2 h3 h4⟩
theorem now_low {d : Drum} {pl : Plan} {g st0 : Nat} {gs : List Grp} {C : Nat → B} (R : Run d pl g st0 gs C) {k : Nat} (hk : k < pl.base) : d.now.getD k [] = d.safe.getD k [] := by
  rw [R.sync]
  exact setAll_out _ _ fun w hw e => by
    obtain ⟨n, _, _, h3, _⟩ := R.loose w hw
    omega
/-- A CHECKPOINT. -/
theorem checkpoint_run {d : Drum} {pl : Plan} {g st0 st : Nat} {gs : List Grp} {C : Nat → B} (R : Run d pl g st0 gs C) (hg : g + 1 < 4294967295) (hst : st < 2 ^ 64) :
    ∃ d', turn2 (d.flush).2 pl ⟨g, st⟩ = (0, ⟨g + 1, st⟩, ⟨2, 2 + pl.log, g + 1, 0, 0, false⟩, d') ∧ Run d' pl (g + 1) st [] C := by
  have hlen : d.now.length = d.safe.length := by rw [R.sync, setAll_len]
  obtain ⟨p1, p2, p3, p4, p5, p6, p7, p8⟩ := plan_facts R.disk.plan
  rw [flush_up R.up]
  simp only
  obtain ⟨k, e, _⟩ := turn_up (d := { d with safe := setAll d.safe d.loose, loose := [], steps := d.steps + 1 }) R.up (by show d.now = setAll (setAll d.safe d.loose) []; rw [R.sync]; rfl) (pl := pl) (by show draft d.now.length = _; rw [hlen]; exact R.disk.plan) (g := g) (st := st) R.disk.g2 (fun k hk => by
    show ((d.now.getD (2 + k) []).drop 4).take 4 ≠ _
    rw [now_low R (by omega)]
    exact R.disk.fresh (g + 1) (by omega) (by omega) k hk)
  refine ⟨_, e, ?_⟩
  refine run_of ?_ rfl rfl ?_
  · exact R.up
  show Disk (d.now.set ((g + 1) % 2) (layHead ⟨g + 1, st⟩)) pl (g + 1) st [] C
  have hm : (g + 1) % 2 < 2 := Nat.mod_lt _ (by decide)
  have at2 : ∀ k, 2 ≤ k → (d.now.set ((g + 1) % 2) (layHead ⟨g + 1, st⟩)).getD k [] = d.now.getD k [] := fun k hk => by rw [set_getD, if_neg (by omega)]
  have hfresh : ∀ g', g < g' → g' ≤ 4294967295 → ∀ k, k < pl.log → (((d.now.set ((g + 1) % 2) (layHead ⟨g + 1, st⟩)).getD (2 + k) []).drop 4).take 4 ≠ put g' 4 := fun g' h1 h2 k hk => by
    rw [at2 _ (by omega), now_low R (by omega)]; exact R.disk.fresh g' h1 h2 k hk
  refine ⟨by rw [List.length_set, hlen]; exact R.disk.plan, by omega, hg, hst, ?_, ?_, trivial, by simp [wide], fun k _ hk => hfresh (g + 1) (by omega) (by omega) k hk, fun g' h1 h2 => hfresh g' (by omega) h2, fun G hG => (by cases hG), fun n hn => ?_⟩
  · rw [set_getD, if_pos ⟨rfl, by omega⟩]
  · intro h hh
    have e : (g + 1 + 1) % 2 = g % 2 := by omega
    rw [e, set_getD, if_neg (by omega), now_low R (by omega), R.disk.slot, takeHead_lay R.disk.g1 (by have := R.disk.g2; simp only [Nat.reducePow]; omega) R.disk.s0] at hh
    injection hh with hh
    rw [← hh]
    show g < g + 1
    omega
  · show ∃ st', take n (pageB (d.now.set ((g + 1) % 2) (layHead ⟨g + 1, st⟩)) pl.base n) = (0, C n, st')
    have hp : pageB (d.now.set ((g + 1) % 2) (layHead ⟨g + 1, st⟩)) pl.base n = pageB d.now pl.base n := by
      unfold pageB
      exact fm_congr fun i hi => at2 _ (by omega)
    rw [hp]
    exact R.now n hn
end Go.Proofs.YtoacaikopcdkmaaGreat.Vm
/- The plain model of the vault: a group goes on the log, its pages on their places: a commit. Plain Lean, behind Mj. -/
namespace Go.Proofs.YtoacaikopcdkmaaGreat.Vm
def secW (t : Tape) (p : B) (i : Nat) : Nat × B := (t.lo + t.place + i, (secOf t.gen t.place t.groups (secs p.length) p i).lay (part p i))
def grpW (t : Tape) (p : B) : List (Nat × B) := (List.range (secs p.length)).map (secW t p)
theorem part_48 (p : B) (i : Nat) : (part p i).length ≤ 48 := by rw [part_len]; omega
theorem writes_up {t : Tape} {p : B} : ∀ (k i : Nat) {d : Drum}, d.up → i + k = secs p.length → t.lo + t.place + secs p.length ≤ d.now.length → Tape.writes t p (secs p.length) k d = (0, d.puts ((List.range' i k).map (secW t p)))
  | 0, i, d, _, _, _ => by rw [List.range'_zero, List.map_nil, puts_nil]; rfl
  | k + 1, i, d, hu, hi, hl => by
    have e : secs p.length - (k + 1) = i := by omega
    have hs : ((secOf t.gen t.place t.groups (secs p.length) p i).lay (part p i)).length = 64 := sec_len _ (part_48 p i)
    rw [Tape.writes]
    simp only [e]
    have hw := write_up hu (n := t.lo + t.place + i) (p := (secOf t.gen t.place t.groups (secs p.length) p i).lay (part p i)) (by omega) (Nat.le_of_eq hs)
    rw [fill_full hs] at hw
    have hw' : d.write (t.lo + t.place + i) (Sec.lay ⟨t.gen, t.place + i, t.groups, secs p.length - 1 - i, ((p.drop (i * 48)).take 48).length⟩ ((p.drop (i * 48)).take 48)) = (0, d.puts [secW t p i]) := hw
    rw [hw']
    simp only
    rw [writes_up k (i + 1) (puts_up hu _) (by omega) (by unfold Drum.puts; rw [setAll_len]; exact hl), puts_puts, List.range'_succ, List.map_cons]
    rfl
theorem append_up {t : Tape} {p : B} {d : Drum} (hu : d.up) (ht : t.down = false) (hf : secs p.length ≤ t.free) (hl : t.lo + t.place + secs p.length ≤ d.now.length) : t.append d p = (0, { t with place := t.place + secs p.length, groups := t.groups + 1 }, d.puts (grpW t p)) := by
  unfold Tape.append
  unfold Tape.free at hf
  simp only
  rw [if_neg (by rw [ht]; decide), if_neg (by omega), writes_up (secs p.length) 0 hu (by omega) hl]
  simp only
  rw [← List.range_eq_range']
  rfl
theorem grpW_at {t : Tape} {p : B} {w : Nat × B} (h : w ∈ grpW t p) : ∃ i, i < secs p.length ∧ w = secW t p i := by
  obtain ⟨i, hi, e⟩ := List.mem_map.1 h
  exact ⟨i, List.mem_range.1 hi, e.symm⟩
theorem grpW_nodup (t : Tape) (p : B) : ((grpW t p).map (·.1)).Nodup := by
  unfold grpW
  rw [List.map_map]
  exact List.Pairwise.map _ (fun a b h => by show t.lo + t.place + a ≠ t.lo + t.place + b; omega) List.nodup_range
theorem put_inj {a b : Nat} (ha : a < 2 ^ 32) (hb : b < 2 ^ 32) (h : put a 4 = put b 4) : a = b := by
  have h1 := num_put a 4
  rw [h, num_put] at h1
  rw [Nat.mod_eq_of_lt (by simpa using hb), Nat.mod_eq_of_lt (by simpa using ha)] at h1
  exact h1.symm
/-- The pages behind a group. -/
def over (C : Nat → B) (G : Grp) (n : Nat) : B := match G.pgs.find? (fun x => x.1 == n) with | some x => x.2 | none => C n
theorem look_snoc (gs : List Grp) (G : Grp) (n : Nat) : ∀ (a : Option (B × Nat)), look (gs ++ [G]) n a = match G.pgs.find? (fun x => x.1 == n) with | some x => some (x.2, G.st) | none => look gs n a := by
  induction gs with
  | nil => intro a; rfl
  | cons X gs ih => intro a; exact ih _
/-- A GROUP ON THE LOG: the drum (flushed) holds what the group says. -/
theorem disk_group {d : Drum} {pl : Plan} {g st0 : Nat} {gs : List Grp} {C : Nat → B} (R : Run d pl g st0 gs C) {G : Grp} (hG : G.ok pl.pages) {t : Tape} (t1 : t.lo = 2) (t2 : t.gen = g) (t3 : t.place = wide (gs.map Grp.enc)) (t4 : t.groups = gs.length) (hw : wide (gs.map Grp.enc) + secs G.enc.length ≤ pl.log) :
    Disk (setAll d.now (grpW t G.enc)) pl g st0 (gs ++ [G]) (over C G) := by
  obtain ⟨p1, p2, p3, p4, p5, p6, p7, p8⟩ := plan_facts R.disk.plan
  have hlen : d.now.length = d.safe.length := by rw [R.sync, setAll_len]
  have D := R.disk
  have hm1 : g % 2 < 2 := Nat.mod_lt _ (by decide)
  have hm2 : (g + 1) % 2 < 2 := Nat.mod_lt _ (by decide)
  have hout : ∀ k, (k < 2 + wide (gs.map Grp.enc) ∨ 2 + wide (gs.map Grp.enc) + secs G.enc.length ≤ k) → (setAll d.now (grpW t G.enc)).getD k [] = d.now.getD k [] := fun k hk => setAll_out _ _ fun w hw' e => by
    obtain ⟨i, hi, rfl⟩ := grpW_at hw'
    have e' : t.lo + t.place + i = k := e
    omega
  have hin : ∀ i, i < secs G.enc.length → (setAll d.now (grpW t G.enc)).getD (2 + wide (gs.map Grp.enc) + i) [] = (secOf g (wide (gs.map Grp.enc)) gs.length (secs G.enc.length) G.enc i).lay (part G.enc i) := fun i hi => by
    have h := setAll_in (grpW t G.enc) d.now (w := secW t G.enc i) (grpW_nodup t G.enc) (List.mem_map.2 ⟨i, List.mem_range.2 hi, rfl⟩) (by show t.lo + t.place + i < _; omega)
    unfold secW at h
    rw [t1, t2, t3, t4] at h
    exact h
  have hlow : ∀ k, k < 2 → (setAll d.now (grpW t G.enc)).getD k [] = d.safe.getD k [] := fun k hk => by rw [hout k (by omega), now_low R (by omega)]
  have hfresh : ∀ g', g < g' → g' ≤ 4294967295 → ∀ k, k < pl.log → (((setAll d.now (grpW t G.enc)).getD (2 + k) []).drop 4).take 4 ≠ put g' 4 := fun g' h1 h2 k hk => by
    by_cases hc : 2 + k < 2 + wide (gs.map Grp.enc) ∨ 2 + wide (gs.map Grp.enc) + secs G.enc.length ≤ 2 + k
    · rw [hout _ hc, now_low R (by omega)]; exact D.fresh g' h1 h2 k hk
    · obtain ⟨i, hi⟩ : ∃ i, 2 + k = 2 + wide (gs.map Grp.enc) + i := ⟨k - wide (gs.map Grp.enc), by omega⟩
      rw [hi, hin i (by omega), sec_4 _ (part_48 _ _)]
      intro e
      have hh : (secOf g (wide (gs.map Grp.enc)) gs.length (secs G.enc.length) G.enc i).gen = g := rfl
      rw [hh, Nat.mod_eq_of_lt (by omega)] at e
      have := put_inj (by simp only [Nat.reducePow]; omega) (by simp only [Nat.reducePow]; omega) e
      omega
  have hwide : wide ((gs ++ [G]).map Grp.enc) = wide (gs.map Grp.enc) + secs G.enc.length := by rw [List.map_append, wide_app]; rfl
  refine ⟨by rw [setAll_len, hlen]; exact D.plan, D.g1, D.g2, D.s0, by rw [hlow _ hm1]; exact D.slot, by rw [hlow _ hm2]; exact D.other, ?_, by rw [hwide]; exact hw, fun k h1 h2 => ?_, hfresh, ?_, fun n hn => ?_⟩
  · rw [List.map_append, onLog_app]
    refine ⟨onLog_same _ _ _ (fun k _ hk => by rw [hout _ (by omega), now_low R (by omega)]) D.log, fun j hj => ?_, trivial⟩
    have := hin j hj
    rw [show 2 + (0 + wide (gs.map Grp.enc) + j) = 2 + wide (gs.map Grp.enc) + j by omega, this, Nat.zero_add, Nat.zero_add, List.length_map]
  · rw [hwide] at h1
    rw [hout _ (by omega), now_low R (by omega)]
    exact D.stop k (by omega) h2
  · intro X hX
    rcases List.mem_append.1 hX with h | h
    · exact D.ok X h
    · rw [List.mem_singleton.1 h]; exact hG
  · rw [look_snoc]
    unfold over
    cases hf : G.pgs.find? (fun x => x.1 == n) with
    | some x => exact ⟨G.st, rfl⟩
    | none =>
      have hp := D.page n hn
      simp only
      cases hl : look gs n none with
      | some q => rw [hl] at hp; exact hp
      | none =>
        simp only
        rw [pageB_out fun w hw' => by
          obtain ⟨i, hi, rfl⟩ := grpW_at hw'
          left
          show t.lo + t.place + i < _
          omega]
        exact R.now n hn
theorem look_some {gs : List Grp} {G : Grp} {n : Nat} {x : Nat × B} (hx : x ∈ G.pgs) (hn : x.1 = n) : (look (gs ++ [G]) n none).isSome = true := by
  rw [look_snoc]
  cases hf : G.pgs.find? (fun x => x.1 == n) with
  | some y => rfl
  | none => exact absurd (by simpa using hn) (List.find?_eq_none.1 hf x hx)
/-- Some of the group's pages (in order) go to their places. -/
theorem run_pages {d : Drum} {pl : Plan} {g st0 : Nat} {gs : List Grp} {C : Nat → B} {G : Grp} (hu : d.up) (hl : d.loose = []) (hs : d.safe = d.now) (D : Disk d.now pl g st0 (gs ++ [G]) (over C G)) (hG : G.ok pl.pages)
    (hC : ∀ n, n < pl.pages → ∃ st, take n (pageB d.now pl.base n) = (0, C n, st)) : Run (d.puts (G.ws pl.base)) pl g st0 (gs ++ [G]) (over C G) := by
  obtain ⟨p1, p2, p3, p4, p5, p6, p7, p8⟩ := plan_facts D.plan
  have hpg : pl.pages ≤ 2 ^ 32 := by simp only [Nat.reducePow]; omega
  refine ⟨puts_up hu _, ?_, by show Disk d.safe _ _ _ _ _; rw [hs]; exact D, fun w hw => ?_, fun n hn => ?_⟩
  · show setAll d.now _ = setAll d.safe (d.loose ++ _)
    rw [hs, hl, List.nil_append]
  · have hw' : w ∈ G.ws pl.base := by
      have : (d.puts (G.ws pl.base)).loose = d.loose ++ G.ws pl.base := rfl
      rw [this, hl, List.nil_append] at hw
      exact hw
    obtain ⟨x, hx, hw2⟩ := List.mem_flatMap.1 hw'
    obtain ⟨i, hi, rfl⟩ := List.mem_map.1 hw2
    have hi' := List.mem_range.1 hi
    refine ⟨x.1, (hG.each x hx).2, look_some hx rfl, ?_, ?_⟩
    · show _ ≤ pl.base + x.1 * 8 + i; omega
    · show pl.base + x.1 * 8 + i < _; omega
  · show ∃ st, take n (pageB (setAll d.now (G.pgs.flatMap fun x => pageW pl.base x.1 (lay x.1 G.st x.2))) pl.base n) = _
    rw [pages_ws hpg hG.st hn G.pgs d.now hG.each hG.inc (by omega)]
    unfold over
    cases hf : G.pgs.find? (fun x => x.1 == n) with
    | some x => exact ⟨G.st, rfl⟩
    | none => exact hC n hn
/-- A COMMIT (the log has room). -/
theorem commit_run {d : Drum} {pl : Plan} {g st0 : Nat} {gs : List Grp} {C : Nat → B} (R : Run d pl g st0 gs C) {G : Grp} (hG : G.ok pl.pages) (hw : wide (gs.map Grp.enc) + secs G.enc.length ≤ pl.log) :
    ∃ d1 d2, Tape.append ⟨2, 2 + pl.log, g, wide (gs.map Grp.enc), gs.length, false⟩ d G.enc = (0, ⟨2, 2 + pl.log, g, wide (gs.map Grp.enc) + secs G.enc.length, gs.length + 1, false⟩, d1) ∧ Tape.flush ⟨2, 2 + pl.log, g, wide (gs.map Grp.enc) + secs G.enc.length, gs.length + 1, false⟩ d1 = (0, ⟨2, 2 + pl.log, g, wide (gs.map Grp.enc) + secs G.enc.length, gs.length + 1, false⟩, d2) ∧
      d2.up ∧ d2.now.length = d.now.length ∧ Run (d2.puts (G.ws pl.base)) pl g st0 (gs ++ [G]) (over C G) := by
  obtain ⟨p1, p2, p3, p4, p5, p6, p7, p8⟩ := plan_facts R.disk.plan
  have hlen : d.now.length = d.safe.length := by rw [R.sync, setAll_len]
  have D := disk_group R hG (t := ⟨2, 2 + pl.log, g, wide (gs.map Grp.enc), gs.length, false⟩) rfl rfl rfl rfl hw
  refine ⟨_, { d.puts (grpW ⟨2, 2 + pl.log, g, wide (gs.map Grp.enc), gs.length, false⟩ G.enc) with safe := setAll d.now (grpW ⟨2, 2 + pl.log, g, wide (gs.map Grp.enc), gs.length, false⟩ G.enc), loose := [], steps := (d.puts (grpW ⟨2, 2 + pl.log, g, wide (gs.map Grp.enc), gs.length, false⟩ G.enc)).steps + 1 }, append_up R.up rfl (by show _ ≤ 2 + pl.log - 2 - wide (gs.map Grp.enc); omega) (by show 2 + wide (gs.map Grp.enc) + _ ≤ _; omega), ?_, R.up, ?_, ?_⟩
  · unfold Tape.flush
    rw [if_neg (show ¬ (false = true) from Bool.false_ne_true), flush_up (puts_up R.up _)]
    have : setAll (d.puts (grpW ⟨2, 2 + pl.log, g, wide (gs.map Grp.enc), gs.length, false⟩ G.enc)).safe (d.puts (grpW ⟨2, 2 + pl.log, g, wide (gs.map Grp.enc), gs.length, false⟩ G.enc)).loose = setAll d.now (grpW ⟨2, 2 + pl.log, g, wide (gs.map Grp.enc), gs.length, false⟩ G.enc) := by
      show setAll d.safe (d.loose ++ _) = _
      rw [setAll_app, ← R.sync]
    rw [this]
    rfl
  · show (setAll d.now _).length = _
    rw [setAll_len]
  · refine run_pages R.up rfl rfl D hG fun n hn => ?_
    show ∃ st, take n (pageB (setAll d.now (grpW _ G.enc)) pl.base n) = _
    rw [pageB_out fun w hw' => by
      obtain ⟨i, hi, rfl⟩ := grpW_at hw'
      left
      show 2 + wide (gs.map Grp.enc) + i < _
      omega]
    exact R.now n hn
end Go.Proofs.YtoacaikopcdkmaaGreat.Vm
/- The plain model of the vault: the cache as a list of entries. Plain Lean, behind Mk. -/
namespace Go.Proofs.YtoacaikopcdkmaaGreat.Vm
structure En where
  key : Nat
  val : B
  dirty : Bool
def fnd (k : Nat) (L : List En) : Option En := L.find? fun e => e.key == k
def rem (k : Nat) (L : List En) : List En := L.eraseP fun e => e.key == k
def usd (k : Nat) (L : List En) : List En := match fnd k L with | none => L | some e => rem k L ++ [e]
def freeE (e : En) : Bool := !e.dirty
def putL (k : Nat) (v : B) (dirty : Bool) (n : Nat) (L : List En) : List En := match fnd k L with
  | some e => rem k L ++ [⟨k, v, e.dirty || dirty⟩]
  | none => if L.length = n then (if L.any freeE = true then L.eraseP freeE ++ [⟨k, v, dirty⟩] else L) else L ++ [⟨k, v, dirty⟩]
def cleanL (k : Nat) (L : List En) : List En := L.map fun e => if e.key = k then { e with dirty := false } else e
/-- The cache, the changed pages, the pages that last (C) and those that are now (cur). -/
structure CI (L : List En) (n : Nat) (ch : List Nat) (C cur : Nat → B) : Prop where
  nd : (L.map En.key).Nodup
  len : L.length ≤ n
  clean : ∀ e ∈ L, e.dirty = false → e.key ∉ ch ∧ e.val = C e.key
  dirty : ∀ e ∈ L, e.dirty = true → e.key ∈ ch ∧ e.val = cur e.key
  there : ∀ k ∈ ch, ∃ e ∈ L, e.key = k
  chn : ch.Nodup
  few : ch.length < n
  same : ∀ k, k ∉ ch → cur k = C k
theorem fnd_none {k : Nat} {L : List En} (h : fnd k L = none) : ∀ e ∈ L, e.key ≠ k := fun e he hk => by
  have := List.find?_eq_none.1 h e he
  simp [hk] at this
theorem fnd_some {k : Nat} {L : List En} {e : En} (h : fnd k L = some e) : e ∈ L ∧ e.key = k := ⟨List.mem_of_find?_eq_some h, by simpa using List.find?_some h⟩
theorem rem_filter {k : Nat} : ∀ {L : List En}, (L.map En.key).Nodup → rem k L = L.filter fun e => e.key != k
  | [], _ => rfl
  | e :: L, h => by
    rw [List.map_cons, List.nodup_cons] at h
    by_cases he : e.key = k
    · have h1 : rem k (e :: L) = L := by unfold rem; rw [List.eraseP_cons_of_pos (by simpa using he)]
      rw [h1, List.filter_cons_of_neg (by simpa using he)]
      symm
      rw [List.filter_eq_self]
      intro x hx
      have : x.key ≠ k := fun hk => h.1 (List.mem_map.2 ⟨x, hx, by rw [hk, he]⟩)
      simpa using this
    · have h1 : rem k (e :: L) = e :: rem k L := by unfold rem; rw [List.eraseP_cons_of_neg (by simpa using he)]
      rw [h1, List.filter_cons_of_pos (by simpa using he), rem_filter h.2]
theorem mem_rem {k : Nat} {L : List En} (h : (L.map En.key).Nodup) {e : En} : e ∈ rem k L ↔ e ∈ L ∧ e.key ≠ k := by
  rw [rem_filter h, List.mem_filter]; simp
theorem key_inj {L : List En} (h : (L.map En.key).Nodup) {a b : En} (ha : a ∈ L) (hb : b ∈ L) (hk : a.key = b.key) : a = b := by
  induction L with
  | nil => cases ha
  | cons x L ih =>
    rw [List.map_cons, List.nodup_cons] at h
    rcases List.mem_cons.1 ha with rfl | ha' <;> rcases List.mem_cons.1 hb with rfl | hb'
    · rfl
    · exact absurd (List.mem_map.2 ⟨b, hb', hk.symm⟩) h.1
    · exact absurd (List.mem_map.2 ⟨a, ha', hk⟩) h.1
    · exact ih h.2 ha' hb'
theorem fnd_of {L : List En} (h : (L.map En.key).Nodup) {e : En} (he : e ∈ L) : fnd e.key L = some e := by
  cases hf : fnd e.key L with
  | none => exact absurd rfl (fnd_none hf e he)
  | some x => rw [key_inj h (fnd_some hf).1 he (fnd_some hf).2]
theorem rem_keys {k : Nat} {L : List En} (h : (L.map En.key).Nodup) : ((rem k L).map En.key).Nodup := h.sublist (List.eraseP_sublist.map _)
theorem keys_snoc {L : List En} (h : (L.map En.key).Nodup) {x : En} (hx : ∀ e ∈ L, e.key ≠ x.key) : ((L ++ [x]).map En.key).Nodup := by
  rw [List.map_append, List.nodup_append]
  refine ⟨h, by simp, fun a ha b hb => ?_⟩
  obtain ⟨e, he, rfl⟩ := List.mem_map.1 ha
  have : b = x.key := by simpa using hb
  rw [this]
  exact hx e he
theorem rem_length {k : Nat} {L : List En} {e : En} (h : fnd k L = some e) : (rem k L).length + 1 = L.length := by
  have hm := (fnd_some h)
  unfold rem
  rw [List.length_eraseP_of_mem hm.1 (by simpa using hm.2)]
  have := List.length_pos_of_mem hm.1
  omega
theorem CI.usd {L : List En} {n : Nat} {ch : List Nat} {C cur : Nat → B} (H : CI L n ch C cur) (k : Nat) : CI (Vm.usd k L) n ch C cur := by
  unfold Vm.usd
  cases hf : fnd k L with
  | none => exact H
  | some e =>
    obtain ⟨h1, h2⟩ := fnd_some hf
    simp only
    have hm : ∀ x, x ∈ rem k L ++ [e] ↔ x ∈ L := fun x => by
      rw [List.mem_append, mem_rem H.nd, List.mem_singleton]
      constructor
      · rintro (h | rfl)
        · exact h.1
        · exact h1
      · intro h
        by_cases hk : x.key = k
        · exact .inr (key_inj H.nd h h1 (by rw [hk, h2]))
        · exact .inl ⟨h, hk⟩
    refine ⟨keys_snoc (rem_keys H.nd) fun x hx => by rw [h2]; exact ((mem_rem H.nd).1 hx).2, ?_, fun x hx => H.clean x ((hm x).1 hx), fun x hx => H.dirty x ((hm x).1 hx), fun j hj => ?_, H.chn, H.few, H.same⟩
    · rw [List.length_append, List.length_singleton, rem_length hf]; exact H.len
    · obtain ⟨x, hx, hk⟩ := H.there j hj
      exact ⟨x, (hm x).2 hx, hk⟩
theorem nodup_le : ∀ {l m : List Nat}, l.Nodup → l ⊆ m → l.length ≤ m.length
  | [], _, _, _ => Nat.zero_le _
  | a :: l, m, h, hs => by
    rw [List.nodup_cons] at h
    have ha : a ∈ m := hs List.mem_cons_self
    have ih := nodup_le (m := m.erase a) h.2 fun x hx => (List.mem_erase_of_ne (fun (e : x = a) => h.1 (e ▸ hx))).2 (hs (List.mem_cons_of_mem _ hx))
    rw [List.length_erase_of_mem ha] at ih
    have := List.length_pos_of_mem ha
    rw [List.length_cons]
    omega
/-- There is room for one more. -/
theorem CI.free {L : List En} {n : Nat} {ch : List Nat} {C cur : Nat → B} (H : CI L n ch C cur) (hl : L.length = n) : L.any freeE = true := by
  cases h : L.any freeE with
  | true => rfl
  | false =>
    exfalso
    have hd : ∀ e ∈ L, e.dirty = true := fun e he => by
      have := List.any_eq_false.1 h e he
      unfold freeE at this
      simpa using this
    have hs : (L.map En.key) ⊆ ch := fun k hk => by
      obtain ⟨e, he, rfl⟩ := List.mem_map.1 hk
      exact (H.dirty e he (hd e he)).1
    have := nodup_le H.nd hs
    rw [List.length_map] at this
    have := H.few
    omega
def chAdd (k : Nat) (ch : List Nat) : List Nat := if k ∈ ch then ch else ch ++ [k]
theorem mem_chAdd {k j : Nat} {ch : List Nat} : j ∈ chAdd k ch ↔ j ∈ ch ∨ j = k := by
  unfold chAdd
  split
  · rename_i h
    exact ⟨.inl, fun h2 => h2.elim id fun e => e ▸ h⟩
  · simp
theorem chAdd_nodup {k : Nat} {ch : List Nat} (h : ch.Nodup) : (chAdd k ch).Nodup := by
  unfold chAdd
  split
  · exact h
  · rename_i hk
    rw [List.nodup_append]
    exact ⟨h, by simp, fun a ha b hb => by rw [List.mem_singleton] at hb; rintro rfl; exact hk (hb ▸ ha)⟩
def setC (cur : Nat → B) (k : Nat) (v : B) : Nat → B := fun m => if m = k then v else cur m
/-- A changed page goes in. -/
theorem CI.put {L : List En} {n : Nat} {ch : List Nat} {C cur : Nat → B} (H : CI L n ch C cur) (k : Nat) (v : B) (hf : (chAdd k ch).length < n) : CI (putL k v true n L) n (chAdd k ch) C (setC cur k v) := by
  have hsame : ∀ j, j ∉ chAdd k ch → setC cur k v j = C j := fun j hj => by
    rw [mem_chAdd, not_or] at hj
    unfold setC
    rw [if_neg hj.2]
    exact H.same j hj.1
  -- any list whose members are those of L without k, less some clean ones
  have main : ∀ M : List En, (M.map En.key).Nodup → (∀ e ∈ M, e ∈ L ∧ e.key ≠ k) → (∀ e ∈ L, e.key ≠ k → e.dirty = true → e ∈ M) → M.length < n → CI (M ++ [⟨k, v, true⟩]) n (chAdd k ch) C (setC cur k v) := fun M m1 m2 m3 m4 => by
    refine ⟨keys_snoc m1 fun e he => (m2 e he).2, by rw [List.length_append, List.length_singleton]; omega, fun e he hd => ?_, fun e he hd => ?_, fun j hj => ?_, chAdd_nodup H.chn, hf, hsame⟩
    · rcases List.mem_append.1 he with h | h
      · obtain ⟨a, b⟩ := m2 e h
        obtain ⟨c1, c2⟩ := H.clean e a hd
        exact ⟨fun h => (mem_chAdd.1 h).elim c1 b, c2⟩
      · rw [List.mem_singleton.1 h] at hd; cases hd
    · rcases List.mem_append.1 he with h | h
      · obtain ⟨a, b⟩ := m2 e h
        obtain ⟨c1, c2⟩ := H.dirty e a hd
        refine ⟨mem_chAdd.2 (.inl c1), ?_⟩
        unfold setC
        rw [if_neg b, c2]
      · rw [List.mem_singleton.1 h]
        exact ⟨mem_chAdd.2 (.inr rfl), by unfold setC; rw [if_pos rfl]⟩
    · by_cases hk : j = k
      · exact ⟨_, List.mem_append_right _ (List.mem_singleton.2 rfl), hk.symm⟩
      · rcases mem_chAdd.1 hj with h | h
        · obtain ⟨e, he, hek⟩ := H.there j h
          have hd : e.dirty = true := by
            cases hd : e.dirty with
            | true => rfl
            | false => exact absurd (hek ▸ h) (H.clean e he hd).1
          exact ⟨e, List.mem_append_left _ (m3 e he (by rw [hek]; exact hk) hd), hek⟩
        · exact absurd h hk
  unfold putL
  cases hk : fnd k L with
  | some e =>
    simp only [Bool.or_true]
    refine main _ (rem_keys H.nd) (fun x hx => (mem_rem H.nd).1 hx) (fun x hx h1 _ => (mem_rem H.nd).2 ⟨hx, h1⟩) ?_
    have := rem_length hk
    have := H.len
    omega
  | none =>
    have hne := fnd_none hk
    simp only
    by_cases hl : L.length = n
    · have ha := H.free hl
      rw [if_pos hl, if_pos ha]
      refine main _ (H.nd.sublist (List.eraseP_sublist.map _)) (fun x hx => ⟨List.eraseP_subset hx, hne x (List.eraseP_subset hx)⟩) (fun x hx _ hd => (List.mem_eraseP_of_neg (by unfold freeE; simp [hd])).2 hx) ?_
      obtain ⟨a, h1, h2⟩ := List.any_eq_true.1 ha
      rw [List.length_eraseP_of_mem h1 h2]
      have := H.few
      omega
    · rw [if_neg hl]
      have := H.len
      exact main _ H.nd (fun x hx => ⟨hx, hne x hx⟩) (fun x hx _ _ => hx) (by omega)
/-- A page that was read goes in. -/
theorem CI.got {L : List En} {n : Nat} {ch : List Nat} {C cur : Nat → B} (H : CI L n ch C cur) {k : Nat} (hk : fnd k L = none) : CI (putL k (C k) false n L) n ch C cur := by
  have hne := fnd_none hk
  have hch : k ∉ ch := fun h => by
    obtain ⟨e, he, e2⟩ := H.there k h
    exact hne e he e2
  have main : ∀ M : List En, (M.map En.key).Nodup → (∀ e ∈ M, e ∈ L) → (∀ e ∈ L, e.dirty = true → e ∈ M) → M.length < n → CI (M ++ [⟨k, C k, false⟩]) n ch C cur := fun M m1 m2 m3 m4 => by
    refine ⟨keys_snoc m1 fun e he => hne e (m2 e he), by rw [List.length_append, List.length_singleton]; omega, fun e he hd => ?_, fun e he hd => ?_, fun j hj => ?_, H.chn, H.few, H.same⟩
    · rcases List.mem_append.1 he with h | h
      · exact H.clean e (m2 e h) hd
      · rw [List.mem_singleton.1 h]; exact ⟨hch, rfl⟩
    · rcases List.mem_append.1 he with h | h
      · exact H.dirty e (m2 e h) hd
      · rw [List.mem_singleton.1 h] at hd; cases hd
    · obtain ⟨e, he, hek⟩ := H.there j hj
      have hd : e.dirty = true := by
        cases hd : e.dirty with
        | true => rfl
        | false => exact absurd (hek ▸ hj) (H.clean e he hd).1
      exact ⟨e, List.mem_append_left _ (m3 e he hd), hek⟩
  unfold putL
  rw [hk]
  simp only
  by_cases hl : L.length = n
  · have ha := H.free hl
    rw [if_pos hl, if_pos ha]
    refine main _ (H.nd.sublist (List.eraseP_sublist.map _)) (fun x hx => List.eraseP_subset hx) (fun x hx hd => (List.mem_eraseP_of_neg (by unfold freeE; simp [hd])).2 hx) ?_
    obtain ⟨a, h1, h2⟩ := List.any_eq_true.1 ha
    rw [List.length_eraseP_of_mem h1 h2]
    have := H.few
    omega
  · rw [if_neg hl]
    have := H.len
    exact main _ H.nd (fun x hx => hx) (fun x hx _ => hx) (by omega)
/-- A page is let go. -/
theorem CI.drop {L : List En} {n : Nat} {ch : List Nat} {C cur : Nat → B} (H : CI L n ch C cur) (k : Nat) : CI (rem k L) n (ch.erase k) C (setC cur k (C k)) := by
  have hm := fun e => mem_rem (k := k) H.nd (e := e)
  have hc : ∀ j, j ∈ ch.erase k ↔ j ≠ k ∧ j ∈ ch := fun j => H.chn.mem_erase_iff
  refine ⟨rem_keys H.nd, Nat.le_trans (List.eraseP_sublist.length_le) H.len, fun e he hd => ?_, fun e he hd => ?_, fun j hj => ?_, H.chn.erase k, Nat.lt_of_le_of_lt (List.erase_sublist.length_le) H.few, fun j hj => ?_⟩
  · obtain ⟨a, b⟩ := (hm e).1 he
    exact ⟨fun h => (H.clean e a hd).1 ((hc _).1 h).2, (H.clean e a hd).2⟩
  · obtain ⟨a, b⟩ := (hm e).1 he
    exact ⟨(hc _).2 ⟨b, (H.dirty e a hd).1⟩, by unfold setC; rw [if_neg b]; exact (H.dirty e a hd).2⟩
  · obtain ⟨a, b⟩ := (hc j).1 hj
    obtain ⟨e, he, hk⟩ := H.there j b
    exact ⟨e, (hm e).2 ⟨he, by rw [hk]; exact a⟩, hk⟩
  · unfold setC
    by_cases hk : j = k
    · rw [if_pos hk, hk]
    · rw [if_neg hk]; exact H.same j fun h => hj ((hc j).2 ⟨hk, h⟩)
/-- All changes are let go. -/
theorem CI.back : ∀ (l : List Nat) {L : List En} {n : Nat} {ch : List Nat} {C cur : Nat → B}, CI L n ch C cur → (∀ k ∈ ch, k ∈ l) → CI (l.foldl (fun L k => rem k L) L) n [] C C
  | [], L, n, ch, C, cur, H, hl => by
    have : ch = [] := List.eq_nil_iff_forall_not_mem.2 fun k hk => by cases hl k hk
    subst this
    exact ⟨H.nd, H.len, H.clean, fun e he hd => absurd (H.dirty e he hd).1 (by simp), H.there, H.chn, H.few, fun _ _ => rfl⟩
  | k :: l, L, n, ch, C, cur, H, hl => CI.back l (H.drop k) fun j hj => by
      have := H.chn.mem_erase_iff.1 hj
      rcases List.mem_cons.1 (hl j this.2) with h | h
      · exact absurd h this.1
      · exact h
theorem clean_all (l : List Nat) : ∀ (L : List En), l.foldl (fun L k => cleanL k L) L = L.map fun e => if e.key ∈ l then { e with dirty := false } else e := by
  induction l with
  | nil => intro L; simp
  | cons k l ih =>
    intro L
    rw [List.foldl_cons, ih]
    unfold cleanL
    rw [List.map_map]
    refine List.map_congr_left fun e _ => ?_
    simp only [Function.comp]
    by_cases h1 : e.key = k
    · rw [if_pos h1, if_pos (show e.key ∈ k :: l by rw [h1]; exact List.mem_cons_self)]
      split <;> rfl
    · rw [if_neg h1]
      by_cases h2 : e.key ∈ l
      · rw [if_pos h2, if_pos (List.mem_cons_of_mem _ h2)]
      · rw [if_neg h2, if_neg (fun h => (List.mem_cons.1 h).elim h1 h2)]
/-- All changes last. -/
theorem CI.done {L : List En} {n : Nat} {ch : List Nat} {C cur : Nat → B} (H : CI L n ch C cur) {l : List Nat} (hl : ∀ k ∈ ch, k ∈ l) : CI (l.foldl (fun L k => cleanL k L) L) n [] cur cur := by
  rw [clean_all]
  refine ⟨?_, by rw [List.length_map]; exact H.len, fun e he hd => ⟨by simp, ?_⟩, fun e he hd => ?_, fun k hk => (by cases hk), by simp, by have := H.few; simp only [List.length_nil]; omega, fun _ _ => rfl⟩
  · rw [List.map_map]
    have : (L.map (En.key ∘ fun e => if e.key ∈ l then { e with dirty := false } else e)) = L.map En.key := List.map_congr_left fun e _ => by simp only [Function.comp]; split <;> rfl
    rw [this]; exact H.nd
  · obtain ⟨x, hx, rfl⟩ := List.mem_map.1 he
    have hcase : x.val = cur x.key := by
      cases hxd : x.dirty with
      | true => exact (H.dirty x hx hxd).2
      | false =>
        obtain ⟨a, b⟩ := H.clean x hx hxd
        rw [b, H.same x.key a]
    split <;> exact hcase
  · obtain ⟨x, hx, rfl⟩ := List.mem_map.1 he
    exfalso
    by_cases h : x.key ∈ l
    · rw [if_pos h] at hd; cases hd
    · rw [if_neg h] at hd; exact h (hl _ (H.dirty x hx hd).1)
end Go.Proofs.YtoacaikopcdkmaaGreat.Vm
/- The plain model of the vault: its calls within a transaction. Plain Lean, behind Ml. -/
namespace Go.Proofs.YtoacaikopcdkmaaGreat.Vm
structure Va where
  pl : Plan
  frames : Nat
  L : List En
  tape : Tape
  head : Head
  taken : B
  was : B
  ch : List Nat
  busy : Bool
  down : Bool
def bitAt (t : B) (n : Nat) : Bool := decide ((t.getD (n / 8) 0).toNat / 2 ^ (n % 8) % 2 = 1)
def Va.has (v : Va) (n : Int) : Bool := decide (0 < n) && decide (n < v.pl.pages) && bitAt v.taken n.toNat
def Va.may (v : Va) (ns : List Nat) : Bool := decide (v.ch.length + (ns.filter fun n => decide (n ∉ v.ch)).length < v.frames)
def Va.put (v : Va) (n : Nat) (p : B) : Va := { v with ch := chAdd n v.ch, L := putL n (fill 496 p) true v.frames v.L }
def flip1 (t : B) (n : Nat) : B := t.set (n / 8) (t.getD (n / 8) 0 ^^^ UInt8.ofNat (2 ^ (n % 8)))
def Va.turnMap (v : Va) (n : Nat) : Va := ({ v with taken := flip1 v.taken n }).put 0 (flip1 v.taken n)
def Va.ask (v : Va) (busy : Bool) : Nat := if v.down = true then 9 else if v.busy ≠ busy then 3 else 0
def Va.begin (v : Va) : Nat × Va := if v.ask false ≠ 0 then (v.ask false, v) else (0, { v with busy := true, was := v.taken })
def Va.lowest (v : Va) : Nat → Nat → Nat
  | 0, n => n
  | k + 1, n => if v.has n = true then v.lowest k (n + 1) else n
def Va.alloc (v : Va) : Nat × Nat × Va :=
  if v.ask true ≠ 0 then (v.ask true, 0, v) else
  if v.pl.pages ≤ v.lowest v.pl.pages 1 then (4, 0, v) else
  if v.may [0, v.lowest v.pl.pages 1] = false then (5, 0, v) else (0, v.lowest v.pl.pages 1, (v.turnMap (v.lowest v.pl.pages 1)).put (v.lowest v.pl.pages 1) [])
def Va.free (v : Va) (n : Int) : Nat × Va :=
  if v.ask true ≠ 0 then (v.ask true, v) else if v.has n = false then (1, v) else
  if v.may [0] = false ∧ n.toNat ∉ v.ch then (5, v) else (0, ({ v with ch := v.ch.erase n.toNat, L := rem n.toNat v.L }).turnMap n.toNat)
def Va.put1 (v : Va) (n : Int) (p : B) : Nat × Va :=
  if v.ask true ≠ 0 then (v.ask true, v) else if v.has n = false then (1, v) else if 496 < p.length then (6, v) else
  if v.may [n.toNat] = false then (5, v) else (0, v.put n.toNat p)
def Va.get (v : Va) (d : Drum) (n : Int) : Nat × B × Va × Drum :=
  if v.down = true then (9, [], v, d) else if v.has n = false then (1, [], v, d) else
  match fnd n.toNat v.L with
  | some e => (0, e.val, { v with L := usd n.toNat v.L }, d)
  | none => match getPage d v.pl.base n.toNat with
    | (0, p, _, d) => (0, p, { v with L := putL n.toNat p false v.frames v.L }, d)
    | (e, _, _, d) => (e, [], { v with down := v.down || decide (e = 9) }, d)
def Va.back (v : Va) : Va := { v with busy := false, L := v.ch.foldl (fun L k => rem k L) v.L, ch := [], taken := v.was }
def Va.abort (v : Va) : Nat × Va := if v.ask true ≠ 0 then (v.ask true, v) else (0, v.back)
/-- The vault and its drum, but for the map. -/
structure VJ (v : Va) (d : Drum) (C cur : Nat → B) : Prop where
  run : ∃ gs st0, Run d v.pl v.head.gen st0 gs C ∧ v.tape = ⟨2, 2 + v.pl.log, v.head.gen, wide (gs.map Grp.enc), gs.length, false⟩
  ci : CI v.L v.frames v.ch C cur
  down : v.down = false
  pages : ∀ k ∈ v.ch, k < v.pl.pages
  len : ∀ k, k < v.pl.pages → (C k).length = 496 ∧ (cur k).length = 496
  idle : v.busy = false → v.ch = []
  was : v.busy = true → v.was = C 0
structure VI (v : Va) (d : Drum) (C cur : Nat → B) : Prop extends VJ v d C cur where
  taken : v.taken = cur 0
theorem VJ.one {v : Va} {d : Drum} {C cur : Nat → B} (H : VJ v d C cur) : 1 ≤ v.pl.pages ∧ v.pl.pages ≤ 2048 := by
  obtain ⟨gs, st0, R, _⟩ := H.run
  obtain ⟨p1, p2, p3, p4, p5, p6, p7, p8⟩ := plan_facts R.disk.plan
  exact ⟨p5, p6⟩
theorem VJ.put {v : Va} {d : Drum} {C cur : Nat → B} (H : VJ v d C cur) (hb : v.busy = true) {n : Nat} (hn : n < v.pl.pages) {p : B} (hp : p.length ≤ 496) (hf : (chAdd n v.ch).length < v.frames) : VJ (v.put n p) d C (setC cur n (fill 496 p)) := by
  refine ⟨H.run, H.ci.put n (fill 496 p) hf, H.down, fun k hk => ?_, fun k hk => ⟨(H.len k hk).1, ?_⟩, fun h => ?_, H.was⟩
  · rcases mem_chAdd.1 hk with h | h
    · exact H.pages k h
    · rw [h]; exact hn
  · unfold setC
    split
    · exact fill_len hp
    · exact (H.len k hk).2
  · have : v.busy = false := h
    rw [hb] at this; cases this
theorem chAdd_len (n : Nat) (ch : List Nat) : (chAdd n ch).length = ch.length + if n ∈ ch then 0 else 1 := by
  unfold chAdd; split <;> simp
theorem may_one {v : Va} {n : Nat} (h : v.may [n] = true) : (chAdd n v.ch).length < v.frames := by
  unfold Va.may at h
  rw [chAdd_len]
  by_cases hn : n ∈ v.ch
  · rw [List.filter_cons_of_neg (by simpa using hn)] at h
    rw [if_pos hn]; simpa using h
  · rw [List.filter_cons_of_pos (by simpa using hn)] at h
    rw [if_neg hn]; simpa using h
theorem may_two {v : Va} {n : Nat} (hn0 : n ≠ 0) (h : v.may [0, n] = true) : (chAdd 0 v.ch).length < v.frames ∧ (chAdd n (chAdd 0 v.ch)).length < v.frames := by
  have hc : (chAdd n (chAdd 0 v.ch)).length = v.ch.length + ([0, n].filter fun n => decide (n ∉ v.ch)).length := by
    rw [chAdd_len, chAdd_len]
    have h1 : n ∈ chAdd 0 v.ch ↔ n ∈ v.ch := by rw [mem_chAdd]; exact ⟨fun h => h.elim id fun e => absurd e hn0, .inl⟩
    by_cases a : 0 ∈ v.ch <;> by_cases b : n ∈ v.ch <;> simp [a, b, h1]
  have h2 : (chAdd n (chAdd 0 v.ch)).length < v.frames := by
    rw [hc]
    unfold Va.may at h
    exact of_decide_eq_true h
  refine ⟨?_, h2⟩
  rw [chAdd_len n] at h2
  omega
theorem flip_len (t : B) (n : Nat) : (flip1 t n).length = t.length := by unfold flip1; rw [List.length_set]
/-- A page is taken, or let go. -/
theorem VJ.turnMap {v : Va} {d : Drum} {C cur : Nat → B} (H : VJ v d C cur) (hb : v.busy = true) (hl : v.taken.length = 496) {n : Nat} (hf : (chAdd 0 v.ch).length < v.frames) : VI (v.turnMap n) d C (setC cur 0 (flip1 v.taken n)) := by
  have hl2 : (flip1 v.taken n).length = 496 := by rw [flip_len, hl]
  have H2 : VJ { v with taken := flip1 v.taken n } d C cur := ⟨H.run, H.ci, H.down, H.pages, H.len, H.idle, H.was⟩
  have H3 := H2.put hb (n := 0) (p := flip1 v.taken n) H.one.1 (by omega) hf
  rw [fill_full hl2] at H3
  exact ⟨H3, by show flip1 v.taken n = _; unfold setC; rw [if_pos rfl]⟩
theorem lowest_pos (v : Va) : ∀ (k n : Nat), n ≤ v.lowest k n
  | 0, n => Nat.le_refl n
  | k + 1, n => by
    unfold Va.lowest
    split
    · exact Nat.le_trans (Nat.le_succ n) (lowest_pos v k (n + 1))
    · exact Nat.le_refl n
theorem has_pos {v : Va} {n : Int} (h : v.has n = true) : 0 < n ∧ n.toNat < v.pl.pages ∧ n.toNat ≠ 0 := by
  unfold Va.has at h
  simp only [Bool.and_eq_true, decide_eq_true_eq] at h
  omega
/-- What a call within a transaction leaves. -/
structure Kept (v w : Va) (d e : Drum) (C : Nat → B) : Prop where
  inv : ∃ cur, VI w e C cur
  busy : w.busy = v.busy
  head : w.head = v.head
  pl : w.pl = v.pl
  frames : w.frames = v.frames
  was : w.was = v.was
theorem Kept.self {v : Va} {d : Drum} {C cur : Nat → B} (H : VI v d C cur) : Kept v v d d C := ⟨⟨cur, H⟩, rfl, rfl, rfl, rfl, rfl⟩
theorem ask_busy {v : Va} {b : Bool} (h : ¬ v.ask b ≠ 0) : v.busy = b := by
  unfold Va.ask at h
  split at h
  · omega
  · split at h
    · omega
    · rename_i h2; exact Decidable.not_not.1 h2
theorem alloc_kept {v : Va} {d : Drum} {C cur : Nat → B} (H : VI v d C cur) : Kept v v.alloc.2.2 d d C := by
  unfold Va.alloc
  by_cases h1 : v.ask true ≠ 0
  · rw [if_pos h1]; exact .self H
  rw [if_neg h1]
  by_cases h2 : v.pl.pages ≤ v.lowest v.pl.pages 1
  · rw [if_pos h2]; exact .self H
  rw [if_neg h2]
  by_cases h3 : v.may [0, v.lowest v.pl.pages 1] = false
  · rw [if_pos h3]; exact .self H
  rw [if_neg h3]
  have hb := ask_busy h1
  have h0 := lowest_pos v v.pl.pages 1
  obtain ⟨m1, m2⟩ := may_two (v := v) (n := v.lowest v.pl.pages 1) (by omega) (by simpa using h3)
  have H2 := H.toVJ.turnMap hb (n := v.lowest v.pl.pages 1) (by rw [H.taken]; exact (H.len 0 H.one.1).2) m1
  have H3 := H2.toVJ.put (n := v.lowest v.pl.pages 1) (p := []) hb (by show v.lowest v.pl.pages 1 < v.pl.pages; omega) (by simp) m2
  refine ⟨⟨_, ⟨H3, ?_⟩⟩, rfl, rfl, rfl, rfl, rfl⟩
  show (v.turnMap (v.lowest v.pl.pages 1)).taken = setC _ _ _ 0
  rw [H2.taken]
  rw [show setC (setC cur 0 (flip1 v.taken (v.lowest v.pl.pages 1))) (v.lowest v.pl.pages 1) (fill 496 []) 0 = setC cur 0 (flip1 v.taken (v.lowest v.pl.pages 1)) 0 from by
    rw [setC, if_neg (by omega)]]
theorem free_kept {v : Va} {d : Drum} {C cur : Nat → B} (H : VI v d C cur) (n : Int) : Kept v (v.free n).2 d d C := by
  unfold Va.free
  by_cases h1 : v.ask true ≠ 0
  · rw [if_pos h1]; exact .self H
  rw [if_neg h1]
  by_cases h2 : v.has n = false
  · rw [if_pos h2]; exact .self H
  rw [if_neg h2]
  by_cases h3 : v.may [0] = false ∧ n.toNat ∉ v.ch
  · rw [if_pos h3]; exact .self H
  rw [if_neg h3]
  have hb := ask_busy h1
  obtain ⟨q1, q2, q3⟩ := has_pos (v := v) (n := n) (by simpa using h2)
  have H2 : VJ { v with ch := v.ch.erase n.toNat, L := rem n.toNat v.L } d C (setC cur n.toNat (C n.toNat)) := by
    refine ⟨H.run, H.ci.drop n.toNat, H.down, fun k hk => H.pages k (List.mem_of_mem_erase hk), fun k hk => ⟨(H.len k hk).1, ?_⟩, fun h => ?_, H.was⟩
    · unfold setC
      split
      · rename_i e; rw [← e]; exact (H.len k hk).1
      · exact (H.len k hk).2
    · have : v.busy = false := h
      rw [hb] at this; cases this
  have hf : (chAdd 0 (v.ch.erase n.toNat)).length < v.frames := by
    have hfew := H.ci.few
    have he : (v.ch.erase n.toNat).length ≤ v.ch.length := List.erase_sublist.length_le
    by_cases hm : v.may [0] = true
    · have := may_one hm
      rw [chAdd_len] at this ⊢
      by_cases h0 : 0 ∈ v.ch
      · have : 0 ∈ v.ch.erase n.toNat := (List.mem_erase_of_ne (Ne.symm q3)).2 h0
        rw [if_pos this]; omega
      · rw [if_neg h0] at this
        split <;> omega
    · have hmem : n.toNat ∈ v.ch := Decidable.not_not.1 fun hno => h3 ⟨by simpa using hm, hno⟩
      rw [chAdd_len, List.length_erase_of_mem hmem]
      have := List.length_pos_of_mem hmem
      split <;> omega
  have H3 := H2.turnMap hb (n := n.toNat) (by show v.taken.length = 496; rw [H.taken]; exact (H.len 0 H.one.1).2) hf
  exact ⟨⟨_, H3⟩, rfl, rfl, rfl, rfl, rfl⟩
theorem put_kept {v : Va} {d : Drum} {C cur : Nat → B} (H : VI v d C cur) (n : Int) (p : B) : Kept v (v.put1 n p).2 d d C := by
  unfold Va.put1
  by_cases h1 : v.ask true ≠ 0
  · rw [if_pos h1]; exact .self H
  rw [if_neg h1]
  by_cases h2 : v.has n = false
  · rw [if_pos h2]; exact .self H
  rw [if_neg h2]
  by_cases h3 : 496 < p.length
  · rw [if_pos h3]; exact .self H
  rw [if_neg h3]
  by_cases h4 : v.may [n.toNat] = false
  · rw [if_pos h4]; exact .self H
  rw [if_neg h4]
  have hb := ask_busy h1
  obtain ⟨q1, q2, q3⟩ := has_pos (v := v) (n := n) (by simpa using h2)
  have H3 := H.toVJ.put hb q2 (p := p) (by omega) (may_one (by simpa using h4))
  exact ⟨⟨_, H3, by show v.taken = setC _ _ _ 0; rw [H.taken, setC, if_neg (Ne.symm q3)]⟩, rfl, rfl, rfl, rfl, rfl⟩
theorem run_tick {d : Drum} {pl : Plan} {g st0 : Nat} {gs : List Grp} {C : Nat → B} (R : Run d pl g st0 gs C) (k : Nat) : Run (d.tick k) pl g st0 gs C := ⟨R.up, R.sync, R.disk, R.loose, R.now⟩
/-- A page is had. -/
theorem get_ok {v : Va} {d : Drum} {C cur : Nat → B} (H : VI v d C cur) {n : Int} (hn : v.has n = true) :
    ∃ L k, v.get d n = (0, cur n.toNat, { v with L := L }, d.tick k) ∧ VI { v with L := L } (d.tick k) C cur := by
  obtain ⟨q1, q2, q3⟩ := has_pos hn
  obtain ⟨gs, st0, R, ht⟩ := H.run
  obtain ⟨p1, p2, p3, p4, p5, p6, p7, p8⟩ := plan_facts R.disk.plan
  have hlen : d.now.length = d.safe.length := by rw [R.sync, setAll_len]
  have inv : ∀ (L : List En) (k : Nat), CI L v.frames v.ch C cur → VI { v with L := L } (d.tick k) C cur := fun L k hc => ⟨⟨⟨gs, st0, run_tick R k, ht⟩, hc, H.down, H.pages, H.len, H.idle, H.was⟩, H.taken⟩
  unfold Va.get
  rw [if_neg (by rw [H.down]; decide), if_neg (by rw [hn]; decide)]
  cases hf : fnd n.toNat v.L with
  | some e =>
    obtain ⟨h1, h2⟩ := fnd_some hf
    refine ⟨usd n.toNat v.L, 0, ?_, inv _ 0 (H.ci.usd _)⟩
    have hv : e.val = cur n.toNat := by
      cases hd : e.dirty with
      | true => rw [← h2]; exact (H.ci.dirty e h1 hd).2
      | false =>
        obtain ⟨a, b⟩ := H.ci.clean e h1 hd
        rw [b, ← h2, H.ci.same _ a]
    simp only [hv]
    rfl
  | none =>
    have hch : n.toNat ∉ v.ch := fun h => by
      obtain ⟨e, he, hk⟩ := H.ci.there _ h
      exact fnd_none hf e he hk
    obtain ⟨st, hp⟩ := R.now n.toNat q2
    simp only
    rw [getPage_up R.up (by omega), hp]
    simp only
    refine ⟨putL n.toNat (C n.toNat) false v.frames v.L, 8, ?_, inv _ 8 (H.ci.got hf)⟩
    rw [H.ci.same _ hch]
theorem get_no {v : Va} {d : Drum} (hd : v.down = false) {n : Int} (hn : v.has n = false) : v.get d n = (1, [], v, d) := by
  unfold Va.get
  rw [if_neg (by rw [hd]; decide), if_pos hn]
/-- What a transaction did is gone. -/
theorem back_ok {v : Va} {d : Drum} {C cur : Nat → B} (H : VI v d C cur) (hb : v.busy = true) : VI v.back d C C :=
  ⟨⟨H.run, H.ci.back v.ch fun _ h => h, H.down, fun k hk => (by cases hk), fun k hk => ⟨(H.len k hk).1, (H.len k hk).1⟩, fun _ => rfl, fun h => (by cases h)⟩, H.was hb⟩
theorem begin_ok {v : Va} {d : Drum} {C cur : Nat → B} (H : VI v d C cur) (hb : v.busy = false) : v.begin = (0, { v with busy := true, was := v.taken }) ∧ VI { v with busy := true, was := v.taken } d C C ∧ cur 0 = C 0 := by
  have hch := H.idle hb
  have hsame : ∀ k, cur k = C k := fun k => H.ci.same k (by rw [hch]; simp)
  have hcur : cur = C := funext hsame
  subst hcur
  refine ⟨?_, ⟨⟨H.run, H.ci, H.down, H.pages, H.len, fun h => (by cases h), fun _ => H.taken⟩, H.taken⟩, rfl⟩
  unfold Va.begin Va.ask
  rw [H.down, hb]
  rfl
end Go.Proofs.YtoacaikopcdkmaaGreat.Vm
/- The plain model of the vault: checkpoint, commit. Plain Lean, behind Mm. -/
namespace Go.Proofs.YtoacaikopcdkmaaGreat.Vm
theorem mem_ins {x y : Nat} : ∀ {l : List Nat}, y ∈ ins x l ↔ y = x ∨ y ∈ l
  | [] => by simp [ins]
  | z :: l => by
    unfold ins
    split
    · simp
    · rw [List.mem_cons, mem_ins, List.mem_cons]
      constructor
      · rintro (h | h | h)
        · exact .inr (.inl h)
        · exact .inl h
        · exact .inr (.inr h)
      · rintro (h | h | h)
        · exact .inr (.inl h)
        · exact .inl h
        · exact .inr (.inr h)
theorem ins_inc {x : Nat} : ∀ {l : List Nat}, x ∉ l → l.Pairwise (· < ·) → (ins x l).Pairwise (· < ·)
  | [], _, _ => by simp [ins]
  | z :: l, hx, h => by
    rw [List.pairwise_cons] at h
    rw [List.mem_cons, not_or] at hx
    unfold ins
    split
    · rename_i hle
      refine List.pairwise_cons.2 ⟨fun y hy => ?_, List.pairwise_cons.2 h⟩
      rcases List.mem_cons.1 hy with rfl | hy
      · omega
      · have := h.1 y hy; omega
    · rename_i hle
      refine List.pairwise_cons.2 ⟨fun y hy => ?_, ins_inc hx.2 h.2⟩
      rcases mem_ins.1 hy with rfl | hy
      · omega
      · exact h.1 y hy
theorem mem_isort {y : Nat} : ∀ {l : List Nat}, y ∈ isort l ↔ y ∈ l
  | [] => by simp [isort]
  | z :: l => by
    show y ∈ ins z (isort l) ↔ _
    rw [mem_ins, mem_isort, List.mem_cons]
theorem isort_inc : ∀ {l : List Nat}, l.Nodup → (isort l).Pairwise (· < ·)
  | [], _ => by simp [isort]
  | z :: l, h => by
    rw [List.nodup_cons] at h
    exact ins_inc (fun hm => h.1 (mem_isort.1 hm)) (isort_inc h.2)
theorem isort_len : ∀ (l : List Nat), (isort l).length = l.length
  | [] => rfl
  | z :: l => by
    show (ins z (isort l)).length = _
    have : ∀ (m : List Nat), (ins z m).length = m.length + 1 := fun m => by
      induction m with
      | nil => rfl
      | cons y m ih => unfold ins; split <;> simp [ih]
    rw [this, isort_len l, List.length_cons]
def Va.checkpoint (v : Va) (d : Drum) : Nat × Va × Drum :=
  match d.flush with
  | (0, d) => match turn2 d v.pl v.head with
    | (e, h, t, d) => (e, { v with head := h, tape := t }, d)
  | (e, d) => (e, v, d)
def Va.val (v : Va) (n : Nat) : B := ((fnd n v.L).map En.val).getD []
def Va.group (v : Va) : Grp := ⟨v.head.stamp + 1, (isort v.ch).map fun n => (n, v.val n)⟩
def used (l : List Nat) (L : List En) : List En := l.foldl (fun L n => usd n L) L
def cleaned (l : List Nat) (L : List En) : List En := l.foldl (fun L n => cleanL n L) L
def putPages (base st : Nat) (d : Drum) (l : List (Nat × B)) : Nat × Drum := l.foldl (fun r x => if r.1 = 0 then putPage r.2 base x.1 st x.2 else r) (0, d)
/-- .. once the log has room. -/
def Va.write (v : Va) (G : Grp) (d : Drum) : Nat × Va × Drum :=
  match v.tape.append d G.enc with
  | (0, t, d) => match t.flush d with
    | (0, t, d) => match putPages v.pl.base G.st d G.pgs with
      | (e, d) => (e, { v with tape := t, head := { v.head with stamp := G.st }, L := cleaned (isort v.ch) (used (isort v.ch) v.L), ch := [], busy := false, down := v.down || decide (e = 9) }, d)
    | (e, t, d) => (e, { v with tape := t, down := v.down || decide (e = 9) }, d)
  | (e, t, d) => (e, { v with tape := t, down := v.down || decide (e = 9) }, d)
def Va.commit (v : Va) (d : Drum) : Nat × Va × Drum :=
  if v.ask true ≠ 0 then (v.ask true, v, d) else
  if v.ch = [] then (0, v.back, d) else
  if v.pl.log * 48 < v.group.enc.length then (4, ({ v with L := used (isort v.ch) v.L }).back, d) else
  if v.tape.free * 48 < v.group.enc.length then
    match ({ v with L := used (isort v.ch) v.L }).checkpoint d with
    | (0, w, d) => w.write v.group d
    | (e, w, d) => (e, { w with down := w.down || decide (e = 9) }, d)
  else ({ v with L := used (isort v.ch) v.L }).write v.group d
theorem CI.used {n : Nat} {ch : List Nat} {C cur : Nat → B} : ∀ (l : List Nat) {L : List En}, CI L n ch C cur → CI (Vm.used l L) n ch C cur
  | [], _, H => H
  | k :: l, _, H => CI.used l (H.usd k)
theorem VI.used {v : Va} {d : Drum} {C cur : Nat → B} (H : VI v d C cur) (l : List Nat) : VI { v with L := Vm.used l v.L } d C cur := ⟨⟨H.run, H.ci.used l, H.down, H.pages, H.len, H.idle, H.was⟩, H.taken⟩
theorem VI.val {v : Va} {d : Drum} {C cur : Nat → B} (H : VI v d C cur) {n : Nat} (hn : n ∈ v.ch) : v.val n = cur n := by
  obtain ⟨e, he, hk⟩ := H.ci.there n hn
  have hd : e.dirty = true := by
    cases hd : e.dirty with
    | true => rfl
    | false => exact absurd (hk ▸ hn) (H.ci.clean e he hd).1
  unfold Va.val
  rw [← hk, fnd_of H.ci.nd he]
  exact (H.ci.dirty e he hd).2
theorem VI.group {v : Va} {d : Drum} {C cur : Nat → B} (H : VI v d C cur) (hne : v.ch ≠ []) (hst : v.head.stamp + 1 < 2 ^ 64) : v.group.ok v.pl.pages ∧ over C v.group = cur := by
  have hlen : v.ch.length ≤ 2048 := by
    have := nodup_le H.ci.chn (m := List.range v.pl.pages) fun k hk => List.mem_range.2 (H.pages k hk)
    rw [List.length_range] at this
    have := H.one.2
    omega
  have hmem : ∀ x ∈ v.group.pgs, x.1 ∈ v.ch ∧ x.2 = cur x.1 := fun x hx => by
    obtain ⟨k, hk, rfl⟩ := List.mem_map.1 hx
    exact ⟨mem_isort.1 hk, H.val (mem_isort.1 hk)⟩
  refine ⟨⟨fun e => ?_, ?_, hst, fun x hx => ?_, ?_⟩, funext fun n => ?_⟩
  · have := congrArg List.length e
    unfold Va.group at this
    simp only [List.length_map, isort_len, List.length_nil] at this
    exact hne (List.eq_nil_of_length_eq_zero this)
  · show ((isort v.ch).map _).length < _
    rw [List.length_map, isort_len]; omega
  · obtain ⟨a, b⟩ := hmem x hx
    rw [b]
    exact ⟨(H.len _ (H.pages _ a)).2, H.pages _ a⟩
  · exact List.Pairwise.map _ (fun a b h => h) (isort_inc H.ci.chn)
  · unfold over
    cases hf : v.group.pgs.find? (fun x => x.1 == n) with
    | some x =>
      obtain ⟨a, b⟩ := hmem x (List.mem_of_find?_eq_some hf)
      have hx : x.1 = n := by simpa using List.find?_some hf
      simp only
      rw [b, hx]
    | none =>
      simp only
      symm
      refine H.ci.same n fun hn => ?_
      have := List.find?_eq_none.1 hf (n, v.val n) (List.mem_map.2 ⟨n, mem_isort.2 hn, rfl⟩)
      simp at this
theorem putPages_up {base st : Nat} : ∀ (l : List (Nat × B)) {d : Drum}, d.up → (∀ x ∈ l, x.2.length = 496 ∧ base + x.1 * 8 + 8 ≤ d.now.length) → putPages base st d l = (0, d.puts (l.flatMap fun x => pageW base x.1 (lay x.1 st x.2)))
  | [], d, _, _ => by rw [List.flatMap_nil, puts_nil]; rfl
  | x :: l, d, hu, h => by
    obtain ⟨h1, h2⟩ := h x List.mem_cons_self
    have ih := putPages_up (base := base) (st := st) l (d := d.puts (pageW base x.1 (lay x.1 st x.2))) (puts_up hu _) (fun y hy => ⟨(h y (List.mem_cons_of_mem _ hy)).1, by unfold Drum.puts; rw [setAll_len]; exact (h y (List.mem_cons_of_mem _ hy)).2⟩)
    unfold putPages at ih ⊢
    rw [List.foldl_cons, if_pos rfl, putPage_up hu (by omega) h2, ih, puts_puts, List.flatMap_cons]
/-- A CHECKPOINT changes nothing. -/
theorem checkpoint_ok {v : Va} {d : Drum} {C cur : Nat → B} (H : VI v d C cur) (hg : v.head.gen + 1 < 4294967295) (hst : v.head.stamp < 2 ^ 64) :
    ∃ t d', v.checkpoint d = (0, { v with head := ⟨v.head.gen + 1, v.head.stamp⟩, tape := t }, d') ∧ VI { v with head := ⟨v.head.gen + 1, v.head.stamp⟩, tape := t } d' C cur ∧ t = ⟨2, 2 + v.pl.log, v.head.gen + 1, 0, 0, false⟩ ∧ d'.loose = [] := by
  obtain ⟨gs, st0, R, ht⟩ := H.run
  obtain ⟨d', e, R'⟩ := checkpoint_run R hg hst
  have hloose : d'.loose = [] := by
    cases hl : d'.loose with
    | nil => rfl
    | cons w ws =>
      exfalso
      obtain ⟨n, _, h, _⟩ := R'.loose w (by rw [hl]; exact List.mem_cons_self)
      cases h
  refine ⟨_, d', ?_, ⟨⟨⟨[], v.head.stamp, R', rfl⟩, H.ci, H.down, H.pages, H.len, H.idle, H.was⟩, H.taken⟩, rfl, hloose⟩
  rw [flush_up R.up] at e
  unfold Va.checkpoint
  rw [flush_up R.up]
  simp only at e ⊢
  rw [e]
/-- The log has room. -/
theorem write_ok {v : Va} {d : Drum} {C cur : Nat → B} (H : VI v d C cur) {G : Grp} (hG : G.ok v.pl.pages) (hC : over C G = cur) (hf : G.enc.length ≤ v.tape.free * 48) :
    ∃ v' d', v.write G d = (0, v', d') ∧ VI v' d' cur cur ∧ v'.busy = false ∧ v'.head = ⟨v.head.gen, G.st⟩ ∧ v'.pl = v.pl ∧ v'.frames = v.frames := by
  obtain ⟨gs, st0, R, ht⟩ := H.run
  have h4 : ∀ x ∈ G.pgs, x.2.length = 496 := fun x hx => (hG.each x hx).1
  have hl := enc_len h4
  obtain ⟨p1, p2, p3, p4, p5, p6, p7, p8⟩ := plan_facts R.disk.plan
  have hroom := R.disk.room
  rw [ht] at hf
  simp only [Tape.free] at hf
  obtain ⟨d1, d2, e1, e2, hu2, hl2, R2⟩ := commit_run R hG (by unfold secs; omega)
  have hlen : d.now.length = d.safe.length := by rw [R.sync, setAll_len]
  have e3 := putPages_up (base := v.pl.base) (st := G.st) G.pgs hu2 (fun x hx => ⟨h4 x hx, by have := (hG.each x hx).2; omega⟩)
  rw [hC] at R2
  refine ⟨{ v with tape := ⟨2, 2 + v.pl.log, v.head.gen, wide (gs.map Grp.enc) + secs G.enc.length, gs.length + 1, false⟩, head := { v.head with stamp := G.st }, L := cleaned (isort v.ch) (used (isort v.ch) v.L), ch := [], busy := false, down := v.down || decide (0 = 9) }, d2.puts (G.ws v.pl.base), ?_, ⟨⟨⟨gs ++ [G], st0, R2, ?_⟩, ?_, ?_, fun k hk => (by cases hk), fun k hk => ⟨(H.len k hk).2, (H.len k hk).2⟩, fun _ => rfl, fun h => (by cases h)⟩, H.taken⟩, rfl, rfl, rfl, rfl⟩
  · unfold Va.write
    rw [ht, e1]
    simp only
    rw [e2]
    simp only
    rw [e3]
    rfl
  · show Tape.mk _ _ _ _ _ _ = _
    rw [List.map_append, wide_app, List.length_append]
    rfl
  · exact (H.ci.used (isort v.ch)).done fun k hk => mem_isort.2 hk
  · show (v.down || false) = false
    rw [H.down]; rfl
/-- A COMMIT. -/
theorem commit_ok {v : Va} {d : Drum} {C cur : Nat → B} (H : VI v d C cur) (hb : v.busy = true) (hg : v.head.gen + 1 < 4294967295) (hst : v.head.stamp + 1 < 2 ^ 64) :
    ∃ e v' d', v.commit d = (e, v', d') ∧ ((e = 0 ∧ VI v' d' cur cur ∧ (v.group.enc.length ≤ v.tape.free * 48 → v'.head.gen = v.head.gen)) ∨ (e = 4 ∧ VI v' d' C C ∧ v.ch ≠ [] ∧ v.pl.log * 48 < v.group.enc.length)) ∧ v'.busy = false ∧ v'.head.gen ≤ v.head.gen + 1 ∧ v'.head.stamp ≤ v.head.stamp + 1 ∧ v'.pl = v.pl ∧ v'.frames = v.frames := by
  have hask : ¬ v.ask true ≠ 0 := by unfold Va.ask; rw [H.down, hb]; simp
  unfold Va.commit
  rw [if_neg hask]
  by_cases h1 : v.ch = []
  · rw [if_pos h1]
    have hcur : cur = C := funext fun k => H.ci.same k (by rw [h1]; simp)
    subst hcur
    exact ⟨0, v.back, d, rfl, .inl ⟨rfl, back_ok H hb, fun _ => rfl⟩, rfl, Nat.le_succ _, Nat.le_succ _, rfl, rfl⟩
  rw [if_neg h1]
  obtain ⟨hG, hC⟩ := H.group h1 hst
  have H1 := H.used (isort v.ch)
  by_cases h2 : v.pl.log * 48 < v.group.enc.length
  · rw [if_pos h2]
    exact ⟨4, _, d, rfl, .inr ⟨rfl, back_ok H1 hb, h1, h2⟩, rfl, Nat.le_succ _, Nat.le_succ _, rfl, rfl⟩
  rw [if_neg h2]
  by_cases h3 : v.tape.free * 48 < v.group.enc.length
  · rw [if_pos h3]
    obtain ⟨t, d', e, H2, ht, _⟩ := checkpoint_ok H1 hg (by show v.head.stamp < _; omega)
    rw [e]
    simp only
    obtain ⟨v', d2, e2, H3, b1, b2, b3, b4⟩ := write_ok H2 hG hC (by show _ ≤ t.free * 48; rw [ht]; simp only [Tape.free]; omega)
    rw [e2]
    refine ⟨0, v', d2, rfl, .inl ⟨rfl, H3, fun h => absurd h (by omega)⟩, b1, ?_, ?_, b3, b4⟩ <;> rw [b2]
    · exact Nat.le_refl _
    · exact Nat.le_refl _
  · rw [if_neg h3]
    obtain ⟨v', d2, e2, H3, b1, b2, b3, b4⟩ := write_ok H1 hG hC (by show _ ≤ v.tape.free * 48; omega)
    rw [e2]
    refine ⟨0, v', d2, rfl, .inl ⟨rfl, H3, fun _ => by rw [b2]⟩, b1, ?_, ?_, b3, b4⟩ <;> rw [b2]
    · exact Nat.le_succ _
    · exact Nat.le_refl _
end Go.Proofs.YtoacaikopcdkmaaGreat.Vm
/- The plain model of the vault: any call; what is seen; opening. Plain Lean, behind Mn. -/
namespace Go.Proofs.YtoacaikopcdkmaaGreat.Vm
structure Op where
  kind : Int
  n : Int
  p : B
def Va.check1 (v : Va) (d : Drum) : Nat × Va × Drum := if v.ask false ≠ 0 then (v.ask false, v, d) else v.checkpoint d
/-- What a call leaves. -/
def Va.does (v : Va) (d : Drum) (o : Op) : Va × Drum :=
  if o.kind = 0 then (v.begin.2, d) else
  if o.kind = 1 then (v.alloc.2.2, d) else
  if o.kind = 2 then ((v.free o.n).2, d) else
  if o.kind = 3 then (v.get d o.n).2.2 else
  if o.kind = 4 then ((v.put1 o.n o.p).2, d) else
  if o.kind = 5 then (v.commit d).2 else
  if o.kind = 6 then (v.abort.2, d) else
  if o.kind = 7 then (v.check1 d).2 else (v, d)
theorem get_kept {v : Va} {d : Drum} {C cur : Nat → B} (H : VI v d C cur) (n : Int) : Kept v (v.get d n).2.2.1 d (v.get d n).2.2.2 C := by
  cases hn : v.has n with
  | true =>
    obtain ⟨L, k, e, H2⟩ := get_ok H hn
    rw [e]
    exact ⟨⟨cur, H2⟩, rfl, rfl, rfl, rfl, rfl⟩
  | false => rw [get_no H.down hn]; exact .self H
/-- The calls within a transaction. -/
theorem does_in {v : Va} {d : Drum} {C cur : Nat → B} (H : VI v d C cur) {o : Op} (h1 : 1 ≤ o.kind) (h2 : o.kind ≤ 4) : Kept v (v.does d o).1 d (v.does d o).2 C := by
  unfold Va.does
  rw [if_neg (by omega)]
  by_cases a : o.kind = 1
  · rw [if_pos a]; exact alloc_kept H
  rw [if_neg a]
  by_cases a : o.kind = 2
  · rw [if_pos a]; exact free_kept H o.n
  rw [if_neg a]
  by_cases a : o.kind = 3
  · rw [if_pos a]; exact get_kept H o.n
  rw [if_neg a, if_pos (by omega)]
  exact put_kept H o.n o.p
/-- What any call leaves. -/
structure Some1 (v w : Va) (e : Drum) : Prop where
  inv : ∃ C cur, VI w e C cur
  gen : w.head.gen ≤ v.head.gen + 1
  stamp : w.head.stamp ≤ v.head.stamp + 1
  pl : w.pl = v.pl
  frames : w.frames = v.frames
theorem Kept.some {v w : Va} {d e : Drum} {C : Nat → B} (K : Kept v w d e C) : Some1 v w e := by
  obtain ⟨cur, H⟩ := K.inv
  exact ⟨⟨C, cur, H⟩, by rw [K.head]; exact Nat.le_succ _, by rw [K.head]; exact Nat.le_succ _, K.pl, K.frames⟩
theorem does_ok {v : Va} {d : Drum} {C cur : Nat → B} (H : VI v d C cur) (hg : v.head.gen + 1 < 4294967295) (hst : v.head.stamp + 1 < 2 ^ 64) (o : Op) : Some1 v (v.does d o).1 (v.does d o).2 := by
  unfold Va.does
  by_cases a : o.kind = 0
  · rw [if_pos a]
    by_cases hb : v.busy = false
    · obtain ⟨e, H2, _⟩ := begin_ok H hb
      rw [e]
      exact ⟨⟨C, C, H2⟩, Nat.le_succ _, Nat.le_succ _, rfl, rfl⟩
    · have : v.begin.2 = v := by
        unfold Va.begin
        rw [if_pos (by unfold Va.ask; rw [H.down]; simp [hb])]
      rw [this]; exact (Kept.self H).some
  rw [if_neg a]
  by_cases a : o.kind = 1
  · rw [if_pos a]; exact (alloc_kept H).some
  rw [if_neg a]
  by_cases a : o.kind = 2
  · rw [if_pos a]; exact (free_kept H o.n).some
  rw [if_neg a]
  by_cases a : o.kind = 3
  · rw [if_pos a]; exact (get_kept H o.n).some
  rw [if_neg a]
  by_cases a : o.kind = 4
  · rw [if_pos a]; exact (put_kept H o.n o.p).some
  rw [if_neg a]
  by_cases a : o.kind = 5
  · rw [if_pos a]
    by_cases hb : v.busy = true
    · obtain ⟨e, v', d', h1, h2, h3, h4, h5, h6, h7⟩ := commit_ok H hb hg hst
      rw [h1]
      refine ⟨?_, h4, h5, h6, h7⟩
      rcases h2 with ⟨_, h, _⟩ | ⟨_, h, _⟩
      · exact ⟨_, _, h⟩
      · exact ⟨_, _, h⟩
    · have : (v.commit d).2 = (v, d) := by
        unfold Va.commit
        rw [if_pos (by unfold Va.ask; rw [H.down]; simp [hb])]
      rw [this]; exact (Kept.self H).some
  rw [if_neg a]
  by_cases a : o.kind = 6
  · rw [if_pos a]
    by_cases hb : v.busy = true
    · have : v.abort.2 = v.back := by
        unfold Va.abort
        rw [if_neg (by unfold Va.ask; rw [H.down, hb]; simp)]
      rw [this]
      exact ⟨⟨_, _, back_ok H hb⟩, Nat.le_succ _, Nat.le_succ _, rfl, rfl⟩
    · have : v.abort.2 = v := by
        unfold Va.abort
        rw [if_pos (by unfold Va.ask; rw [H.down]; simp [hb])]
      rw [this]; exact (Kept.self H).some
  rw [if_neg a]
  by_cases a : o.kind = 7
  · rw [if_pos a]
    unfold Va.check1
    by_cases hb : v.ask false ≠ 0
    · rw [if_pos hb]; exact (Kept.self H).some
    · rw [if_neg hb]
      obtain ⟨t, d', e, H2, _⟩ := checkpoint_ok H hg (by omega)
      rw [e]
      exact ⟨⟨_, _, H2⟩, Nat.le_refl _, Nat.le_succ _, rfl, rfl⟩
  rw [if_neg a]
  exact (Kept.self H).some
/-! ## what is seen -/
def Va.takenL (v : Va) : List Nat := (List.range v.pl.pages).filter fun n => v.has n
def Va.gets (v : Va) (d : Drum) : List Nat → Option (List B) × Va × Drum
  | [] => (some [], v, d)
  | n :: l => match v.get d n with
    | (0, p, v, d) => if p.length = 496 then (match v.gets d l with | (r, v, d) => (r.map (p :: ·), v, d)) else (none, v, d)
    | (_, _, v, d) => (none, v, d)
theorem gets_ok {C cur : Nat → B} : ∀ (l : List Nat) {v : Va} {d : Drum}, VI v d C cur → (∀ n ∈ l, v.has n = true) → ∃ L k, v.gets d l = (some (l.map cur), { v with L := L }, d.tick k) ∧ VI { v with L := L } (d.tick k) C cur
  | [], v, d, H, _ => ⟨v.L, 0, rfl, H⟩
  | n :: l, v, d, H, h => by
    have hn := h n List.mem_cons_self
    obtain ⟨L, k, e, H2⟩ := get_ok H hn
    obtain ⟨L2, k2, e2, H3⟩ := gets_ok l H2 (fun m hm => h m (List.mem_cons_of_mem _ hm))
    refine ⟨L2, k + k2, ?_, ?_⟩
    · have hl : (cur n).length = 496 := (H.len n (by have := has_pos hn; omega)).2
      unfold Va.gets
      rw [e]
      simp only [Int.toNat_natCast]
      rw [if_pos hl, e2, tick_tick]
      simp only [Option.map_some, List.map_cons]
    · rw [tick_tick] at H3; exact H3
def seen (pl : Plan) (cur : Nat → B) : List Nat := (List.range pl.pages).filter fun n => decide (0 < n) && bitAt (cur 0) n
theorem taken_seen {v : Va} {d : Drum} {C cur : Nat → B} (H : VI v d C cur) : v.takenL = seen v.pl cur := by
  unfold Va.takenL seen
  refine List.filter_congr fun n hn => ?_
  have := List.mem_range.1 hn
  unfold Va.has
  rw [H.taken, decide_eq_true (show (n : Int) < v.pl.pages by omega), Int.toNat_natCast]
  simp
/-- What is seen of the state is `seen` and the pages. -/
theorem state_ok {v : Va} {d : Drum} {C cur : Nat → B} (H : VI v d C cur) : ∃ L k, v.gets d v.takenL = (some ((seen v.pl cur).map cur), { v with L := L }, d.tick k) ∧ VI { v with L := L } (d.tick k) C cur ∧ v.takenL = seen v.pl cur := by
  obtain ⟨L, k, e, H2⟩ := gets_ok v.takenL H fun n hn => (List.mem_filter.1 hn).2
  rw [taken_seen H] at e
  exact ⟨L, k, by rw [taken_seen H]; exact e, H2, taken_seen H⟩
end Go.Proofs.YtoacaikopcdkmaaGreat.Vm
/- The plain model of the vault: opening; the laws. Plain Lean, behind Mo. -/
namespace Go.Proofs.YtoacaikopcdkmaaGreat.Vm
def blank1 (base : Nat) (r : Nat × Drum) (i : Nat) : Nat × Drum := if r.1 = 0 then (match r.2.read (base + i) with | (0, b, d) => (if b.all (· == 0) = true then 0 else 11, d) | (e, _, d) => (e, d)) else r
def fresh2 (d : Drum) (pl : Plan) (h : Head) : Nat × Head × Tape × Drum :=
  match (List.range 8).foldl (blank1 pl.base) (0, d) with
  | (0, d) => turn2 d pl h
  | (e, d) => (e, h, z0, d)
def begun (d : Drum) (pl : Plan) : Nat × Head × Tape × Drum := match getHead2 d with
  | (0, h, d) => recover2 d pl h
  | (11, h, d) => fresh2 d pl h
  | (e, h, d) => (e, h, z0, d)
def vopen2 (d : Drum) (frames : Int) : Nat × Option Va × Drum :=
  if frames < 4 ∨ 1024 < frames then (1, none, d) else
  match draft d.now.length with
  | none => (1, none, d)
  | some pl => match begun d pl with
    | (0, h, t, d) => match getPage d pl.base 0 with
      | (0, p, _, d) => (0, some ⟨pl, frames.toNat, [], t, h, p, [], [], false, false⟩, d)
      | (e, _, _, d) => (e, none, d)
    | (e, _, _, d) => (e, none, d)
theorem take_len {n : Nat} {b q : B} {st : Nat} (h : take n b = (0, q, st)) : q.length = 496 := by
  unfold take at h
  split at h
  · cases h
  · rename_i hb
    split at h
    · injection h with _ h; injection h with h _; rw [← h, List.length_replicate]
    · split at h
      · cases h
      · split at h
        · cases h
        · injection h with _ h; injection h with h _; rw [← h, List.length_drop]; omega
/-- Behind what is begun. -/
theorem opened {d : Drum} {pl : Plan} {frames : Int} (hf : 4 ≤ frames ∧ frames ≤ 1024) (hp : draft d.now.length = some pl) {g st : Nat} {d1 : Drum} (hb : begun d pl = (0, ⟨g, st⟩, ⟨2, 2 + pl.log, g, 0, 0, false⟩, d1)) {C : Nat → B} (R : Run d1 pl g st [] C) :
    ∃ v, vopen2 d frames = (0, some v, d1.tick 8) ∧ VI v (d1.tick 8) C C ∧ v.busy = false ∧ v.head = ⟨g, st⟩ ∧ v.pl = pl ∧ v.frames = frames.toNat ∧ v.tape.groups = 0 := by
  obtain ⟨p1, p2, p3, p4, p5, p6, p7, p8⟩ := plan_facts R.disk.plan
  have hlen : d1.now.length = d1.safe.length := by rw [R.sync, setAll_len]
  obtain ⟨st', hp0⟩ := R.now 0 (by omega)
  have hlenC : ∀ k, k < pl.pages → (C k).length = 496 := fun k hk => by
    obtain ⟨x, hx⟩ := R.now k hk
    exact take_len hx
  refine ⟨⟨pl, frames.toNat, [], ⟨2, 2 + pl.log, g, 0, 0, false⟩, ⟨g, st⟩, C 0, [], [], false, false⟩, ?_, ⟨⟨⟨[], st, run_tick R 8, rfl⟩, ⟨by simp, by simp, fun e he => (by cases he), fun e he => (by cases he), fun k hk => (by cases hk), by simp, by simp only [List.length_nil]; omega, fun _ _ => rfl⟩, rfl, fun k hk => (by cases hk), fun k hk => ⟨hlenC k hk, hlenC k hk⟩, fun _ => rfl, fun h => (by cases h)⟩, rfl⟩, rfl, rfl, rfl, rfl, rfl⟩
  unfold vopen2
  rw [if_neg (by omega), hp]
  simp only
  rw [hb]
  simp only
  rw [getPage_up R.up (by omega), hp0]
  rfl
/-- A drum that holds a vault is opened. -/
theorem open_disk {d : Drum} {pl : Plan} {g st0 : Nat} {gs : List Grp} {C : Nat → B} (D : Disk d.now pl g st0 gs C) (hu : d.up) (hs : d.safe = d.now) (hl : d.loose = []) (hg : g + 1 < 4294967295) {frames : Int} (hf : 4 ≤ frames ∧ frames ≤ 1024) :
    ∃ v d', vopen2 d frames = (0, some v, d') ∧ VI v d' C C ∧ v.busy = false ∧ v.head.gen = g + 1 ∧ v.pl = pl ∧ v.frames = frames.toNat ∧ v.tape.groups = 0 := by
  obtain ⟨p1, p2, p3, p4, p5, p6, p7, p8⟩ := plan_facts D.plan
  have hh := getHead_up hu (by omega) D.g1 (head_is D.g1 (by have := D.g2; simp only [Nat.reducePow]; omega) D.s0 D.slot D.other)
  obtain ⟨st1, d1, e, h1, h2, h3, h4, _⟩ := recover_disk D hg (d := d.tick 2) (tick_up hu 2) rfl hs hl
  have hb : begun d pl = (0, ⟨g + 1, st1⟩, ⟨2, 2 + pl.log, g + 1, 0, 0, false⟩, d1) := by
    unfold begun
    rw [hh]
    exact e
  obtain ⟨v, e1, H, b1, b2, b3, b4, b5⟩ := opened hf D.plan hb (run_of h1 h2 h3 h4)
  exact ⟨v, _, e1, H, b1, by rw [b2], b3, b4, b5⟩
/-- A CRASH between the calls: the pages that lasted. -/
theorem crash_ok {v : Va} {d : Drum} {C cur : Nat → B} (H : VI v d C cur) (hg : v.head.gen + 1 < 4294967295) (keep : List Bool) {frames : Int} (hf : 4 ≤ frames ∧ frames ≤ 1024) :
    ∃ w d', vopen2 (d.crash2 keep) frames = (0, some w, d') ∧ VI w d' C C ∧ w.busy = false ∧ w.head.gen = v.head.gen + 1 ∧ w.pl = v.pl ∧ w.frames = frames.toNat ∧ w.tape.groups = 0 := by
  obtain ⟨gs, st0, R, ht⟩ := H.run
  obtain ⟨D, hu, hs, hl⟩ := crash_disk R keep
  exact open_disk D hu hs hl hg hf
/-! ## a new drum -/
def zs : B := List.replicate 64 0
theorem new_at {n k : Nat} (h : k < n) : (Drum.new n).now.getD k [] = zs := by
  unfold Drum.new zs
  simp only [List.getD_eq_getElem?_getD, List.getElem?_replicate, if_pos h, Option.getD_some]
theorem zs_head : takeHead zs = none := by decide +kernel
theorem zs_put {g : Nat} (h1 : 1 ≤ g) (h2 : g < 2 ^ 32) : (zs.drop 4).take 4 ≠ put g 4 := fun e => by
  have h0 : (zs.drop 4).take 4 = put 0 4 := by decide
  rw [h0] at e
  have := put_inj (by decide) h2 e
  omega
theorem blank_go (base : Nat) : ∀ (l : List Nat) {d : Drum}, d.up → (∀ i ∈ l, base + i < d.now.length ∧ d.now.getD (base + i) [] = zs) → l.foldl (blank1 base) (0, d) = (0, d.tick l.length)
  | [], d, _, _ => rfl
  | i :: l, d, hu, h => by
    obtain ⟨h1, h2⟩ := h i List.mem_cons_self
    have e : blank1 base (0, d) i = (0, d.tick 1) := by
      unfold blank1
      rw [if_pos rfl]
      simp only
      rw [read_up hu h1, h2]
      rfl
    rw [List.foldl_cons, e, blank_go base l (tick_up hu 1) (fun j hj => h j (List.mem_cons_of_mem _ hj)), tick_tick, List.length_cons, Nat.add_comm 1]
theorem open_zero {d : Drum} {n : Nat} (hu : d.up) (hnow : d.now = (Drum.new n).now) (hsy : d.now = setAll d.safe d.loose) {pl : Plan} (hp : draft n = some pl) {frames : Int} (hf : 4 ≤ frames ∧ frames ≤ 1024) :
    ∃ v d', vopen2 d frames = (0, some v, d') ∧ VI v d' (fun _ => List.replicate 496 0) (fun _ => List.replicate 496 0) ∧ v.busy = false ∧ v.head = ⟨1, 0⟩ ∧ v.pl = pl ∧ v.frames = frames.toNat ∧ v.tape.groups = 0 := by
  obtain ⟨p1, p2, p3, p4, p5, p6, p7, p8⟩ := plan_facts hp
  have hn : d.now.length = n := by rw [hnow]; unfold Drum.new; exact List.length_replicate ..
  have new_at : ∀ {k : Nat}, k < n → d.now.getD k [] = zs := fun hk => by rw [hnow]; exact Vm.new_at hk
  have hh : getHead2 d = (11, ⟨0, 0⟩, d.tick 2) := by
    unfold getHead2
    rw [read_up hu (by omega)]
    simp only
    rw [read_up (tick_up hu 1) (show 1 < d.now.length by omega)]
    simp only
    rw [show (d.tick 1).now = d.now from rfl, new_at (by omega), new_at (by omega)]
    unfold headOf
    rw [zs_head]
    rfl
  have hbl := blank_go pl.base (List.range 8) (d := d.tick 2) hu (fun i hi => by
    have := List.mem_range.1 hi
    exact ⟨show _ < d.now.length by omega, new_at (by omega)⟩)
  obtain ⟨k, e, _⟩ := turn_up (d := (d.tick 2).tick (List.range 8).length) hu hsy (pl := pl) (by show draft d.now.length = _; rw [hn]; exact hp) (g := 0) (st := 0) (by decide) (fun j hj => by
    show ((d.now.getD (2 + j) []).drop 4).take 4 ≠ _
    rw [new_at (by omega)]
    exact zs_put (by decide) (by decide))
  have hb : begun d pl = turn2 ((d.tick 2).tick (List.range 8).length) pl ⟨0, 0⟩ := by
    unfold begun
    rw [hh]
    show fresh2 _ pl ⟨0, 0⟩ = _
    unfold fresh2
    rw [hbl]
    rfl
  rw [e] at hb
  have at2 : ∀ k, 2 ≤ k → k < n → (d.now.set 1 (layHead ⟨1, 0⟩)).getD k [] = zs := fun k h1 h2 => by rw [set_getD, if_neg (by omega), new_at h2]
  have D : Disk (d.now.set 1 (layHead ⟨1, 0⟩)) pl 1 0 [] (fun _ => List.replicate 496 0) := by
    refine ⟨by rw [List.length_set, hn]; exact hp, by decide, by decide, by decide, ?_, fun h hh2 => ?_, trivial, by simp [wide], fun k _ hk => ?_, fun g' h1 h2 k hk => ?_, fun G hG => (by cases hG), fun m hm => ⟨0, ?_⟩⟩
    · show (d.now.set 1 (layHead ⟨1, 0⟩)).getD 1 [] = _
      rw [set_getD, if_pos ⟨rfl, by omega⟩]
    · exfalso
      have : (d.now.set 1 (layHead ⟨1, 0⟩)).getD 0 [] = zs := by rw [set_getD, if_neg (by omega), new_at (by omega)]
      have hh3 : takeHead ((d.now.set 1 (layHead ⟨1, 0⟩)).getD 0 []) = some h := hh2
      rw [this, zs_head] at hh3
      cases hh3
    · rw [at2 _ (by omega) (by omega)]; exact zs_put (by decide) (by decide)
    · rw [at2 _ (by omega) (by omega)]; exact zs_put (by omega) (by simp only [Nat.reducePow]; omega)
    · show take m (pageB (d.now.set 1 (layHead ⟨1, 0⟩)) pl.base m) = _
      have hpb : pageB (d.now.set 1 (layHead ⟨1, 0⟩)) pl.base m = (List.range 8).flatMap fun _ => zs := by
        unfold pageB
        refine fm_congr fun i hi => ?_
        have := List.mem_range.1 hi
        exact at2 _ (by omega) (by omega)
      rw [hpb]
      have : ((List.range 8).flatMap fun _ => zs) = List.replicate 512 0 := by decide +kernel
      rw [this]
      unfold take
      rw [if_neg (by rw [List.length_replicate]; decide), if_pos (List.all_eq_true.2 fun x hx => by rw [List.eq_of_mem_replicate hx]; rfl)]
  obtain ⟨v, e1, H, b1, b2, b3, b4, b5⟩ := opened (C := fun _ => List.replicate 496 0) hf (by rw [hn]; exact hp) hb (by
    refine run_of ?_ rfl rfl ?_
    · exact hu
    · exact D)
  exact ⟨v, _, e1, H, b1, b2, b3, b4, b5⟩
theorem open_new {n : Nat} {pl : Plan} (hp : draft n = some pl) {frames : Int} (hf : 4 ≤ frames ∧ frames ≤ 1024) :
    ∃ v d', vopen2 (Drum.new n) frames = (0, some v, d') ∧ VI v d' (fun _ => List.replicate 496 0) (fun _ => List.replicate 496 0) ∧ v.busy = false ∧ v.head = ⟨1, 0⟩ ∧ v.pl = pl ∧ v.frames = frames.toNat ∧ v.tape.groups = 0 :=
  open_zero ⟨rfl, rfl⟩ rfl rfl hp hf
/-! ## the laws -/
/-- Some calls. -/
def Va.run (v : Va) (d : Drum) (ops : List Op) : Va × Drum := ops.foldl (fun r o => r.1.does r.2 o) (v, d)
theorem run_ok : ∀ (ops : List Op) {v : Va} {d : Drum} (N : Nat), (∃ C cur, VI v d C cur) → v.head.gen ≤ N → v.head.stamp ≤ N → N + ops.length < 4294967294 →
    (∃ C cur, VI (v.run d ops).1 (v.run d ops).2 C cur) ∧ (v.run d ops).1.head.gen ≤ N + ops.length ∧ (v.run d ops).1.head.stamp ≤ N + ops.length ∧ (v.run d ops).1.pl = v.pl ∧ (v.run d ops).1.frames = v.frames
  | [], v, d, N, H, h1, h2, _ => ⟨H, h1, h2, rfl, rfl⟩
  | o :: ops, v, d, N, ⟨C, cur, H⟩, h1, h2, h3 => by
    rw [List.length_cons] at h3 ⊢
    have K := does_ok H (by omega) (by simp only [Nat.reducePow]; omega) o
    have kg := K.gen
    have ks := K.stamp
    obtain ⟨a1, a2, a3, a4, a5⟩ := run_ok ops (N + 1) K.inv (by omega) (by omega) (by omega)
    exact ⟨a1, by show _ ≤ _; have : (v.run d (o :: ops)) = (v.does d o).1.run (v.does d o).2 ops := rfl
                  rw [this]; omega, by have : (v.run d (o :: ops)) = (v.does d o).1.run (v.does d o).2 ops := rfl
                                       rw [this]; omega, a4.trans K.pl, a5.trans K.frames⟩
/-- .. within a transaction. -/
theorem run_inside : ∀ (ops : List Op) {v : Va} {d : Drum} {C cur : Nat → B}, VI v d C cur → (∀ o ∈ ops, 1 ≤ o.kind ∧ o.kind ≤ 4) → Kept v (v.run d ops).1 d (v.run d ops).2 C
  | [], v, d, C, cur, H, _ => .self H
  | o :: ops, v, d, C, cur, H, h => by
    obtain ⟨h1, h2⟩ := h o List.mem_cons_self
    have K := does_in H h1 h2
    obtain ⟨cur2, H2⟩ := K.inv
    have K2 := run_inside ops H2 (fun x hx => h x (List.mem_cons_of_mem _ hx))
    have e : v.run d (o :: ops) = (v.does d o).1.run (v.does d o).2 ops := rfl
    rw [e]
    exact ⟨K2.inv, K2.busy.trans K.busy, K2.head.trans K.head, K2.pl.trans K.pl, K2.frames.trans K.frames, K2.was.trans K.was⟩
/-- What is seen of a vault. -/
def sees (v : Va) (d : Drum) (pl : Plan) (cur : Nat → B) : Prop := v.takenL = seen pl cur ∧ (v.gets d v.takenL).1 = some ((seen pl cur).map cur)
theorem VI.sees {v : Va} {d : Drum} {C cur : Nat → B} (H : VI v d C cur) : Vm.sees v d v.pl cur := by
  obtain ⟨L, k, e, _, h⟩ := state_ok H
  exact ⟨h, by rw [e]⟩
/-- VaultUndoes, on the model: begin, calls, abort: the same; begin, calls, a crash: the same. -/
theorem undoes {v : Va} {d : Drum} {C : Nat → B} (H : VI v d C C) (hb : v.busy = false) (hg : v.head.gen + 1 < 4294967295) {more : List Op} (hm : ∀ o ∈ more, 1 ≤ o.kind ∧ o.kind ≤ 4) :
    let r := v.begin.2.run d more
    v.begin.1 = 0 ∧ v.begin.2.begin.1 = 3 ∧ r.1.abort.1 = 0 ∧ VI r.1.abort.2 r.2 C C ∧ r.1.abort.2.busy = false ∧ r.1.abort.2.head = v.head ∧ r.1.abort.2.pl = v.pl ∧ r.1.abort.2.frames = v.frames ∧
      ∀ (keep : List Bool) (frames : Int), 4 ≤ frames ∧ frames ≤ 1024 → ∃ w d', vopen2 (r.2.crash2 keep) frames = (0, some w, d') ∧ VI w d' C C ∧ w.pl = v.pl := by
  obtain ⟨e, H2, _⟩ := begin_ok H hb
  rw [e]
  have K := run_inside more H2 hm
  obtain ⟨cur, H3⟩ := K.inv
  have hb3 : (Va.run { v with busy := true, was := v.taken } d more).1.busy = true := K.busy
  have hab : (Va.run { v with busy := true, was := v.taken } d more).1.abort = (0, (Va.run { v with busy := true, was := v.taken } d more).1.back) := by
    unfold Va.abort
    rw [if_neg (by unfold Va.ask; rw [H3.down, hb3]; simp)]
  refine ⟨rfl, ?_, by rw [hab], by rw [hab]; exact back_ok H3 hb3, by rw [hab]; rfl, by rw [hab]; exact K.head, by rw [hab]; exact K.pl, by rw [hab]; exact K.frames, fun keep frames hf => ?_⟩
  · unfold Va.begin
    rw [if_pos (by unfold Va.ask; rw [H2.down]; simp)]
    unfold Va.ask
    rw [H2.down]
    simp
  · obtain ⟨w, d', e1, H4, _, _, h5, _, _⟩ := crash_ok H3 (by rw [K.head]; exact hg) keep hf
    exact ⟨w, d', e1, H4, h5.trans K.pl⟩
/-- VaultChecks, on the model. -/
theorem checks {v : Va} {d : Drum} {C : Nat → B} (H : VI v d C C) (hb : v.busy = false) (hg : v.head.gen + 2 < 4294967295) (hst : v.head.stamp < 2 ^ 64) (keep : List Bool) {frames : Int} (hf : 4 ≤ frames ∧ frames ≤ 1024) :
    ∃ w d', v.check1 d = (0, w, d') ∧ w.tape.groups = 0 ∧ w.head.gen = v.head.gen + 1 ∧ d'.loose = [] ∧ VI w d' C C ∧ w.pl = v.pl ∧ ∀ k, ∃ x d2, vopen2 ((d'.tick k).crash2 keep) frames = (0, some x, d2) ∧ VI x d2 C C ∧ x.head.gen = v.head.gen + 2 ∧ x.pl = v.pl := by
  obtain ⟨t, d', e, H2, ht, hl⟩ := checkpoint_ok H (by omega) hst
  refine ⟨_, d', ?_, by rw [ht], rfl, hl, H2, rfl, fun k => ?_⟩
  · unfold Va.check1
    rw [if_neg (by unfold Va.ask; rw [H.down, hb]; simp), e]
  · obtain ⟨gs, st0, R, ht2⟩ := H2.run
    have H3 : VI { v with head := ⟨v.head.gen + 1, v.head.stamp⟩, tape := t } (d'.tick k) C C := ⟨⟨⟨gs, st0, run_tick R k, ht2⟩, H2.ci, H2.down, H2.pages, H2.len, H2.idle, H2.was⟩, H2.taken⟩
    obtain ⟨x, d2, e1, H4, _, h5, h6, _, _⟩ := crash_ok H3 (by show v.head.gen + 1 + 1 < _; omega) keep hf
    exact ⟨x, d2, e1, H4, h5, h6⟩
end Go.Proofs.YtoacaikopcdkmaaGreat.Vm
/- The plain model of the vault: VaultOpens; the map's bits; what Alloc and Free answer. Plain Lean, behind Mp. -/
namespace Go.Proofs.YtoacaikopcdkmaaGreat.Vm
theorem zs_all : zs.all (· == 0) = true := by decide
theorem all_zero {b : B} (hl : b.length = 64) (h : b.all (· == 0) = true) : b = zs := by
  unfold zs
  rw [List.eq_replicate_iff]
  exact ⟨hl, fun x hx => by simpa using List.all_eq_true.1 h x hx⟩
/-- Something else stands on the drum, within the first page. -/
theorem blank_stop (base : Nat) : ∀ (l : List Nat) {d : Drum}, d.up → (∀ i ∈ l, base + i < d.now.length) → (∃ i ∈ l, (d.now.getD (base + i) []).all (· == 0) = false) → ∃ d', l.foldl (blank1 base) (0, d) = (11, d')
  | [], d, _, _, ⟨i, hi, _⟩ => by cases hi
  | i :: l, d, hu, h, hx => by
    have h1 := h i List.mem_cons_self
    rw [List.foldl_cons]
    cases hb : (d.now.getD (base + i) []).all (· == 0) with
    | true =>
      have e : blank1 base (0, d) i = (0, d.tick 1) := by
        unfold blank1
        rw [if_pos rfl]
        simp only
        rw [read_up hu h1]
        simp only
        rw [hb]; rfl
      rw [e]
      refine blank_stop base l (tick_up hu 1) (fun j hj => h j (List.mem_cons_of_mem _ hj)) ?_
      obtain ⟨j, hj, hj2⟩ := hx
      rcases List.mem_cons.1 hj with rfl | hj
      · rw [hb] at hj2; cases hj2
      · exact ⟨j, hj, hj2⟩
    | false =>
      have e : blank1 base (0, d) i = (11, d.tick 1) := by
        unfold blank1
        rw [if_pos rfl]
        simp only
        rw [read_up hu h1]
        simp only
        rw [hb]; rfl
      rw [e]
      refine ⟨d.tick 1, ?_⟩
      have : ∀ (l : List Nat) (d : Drum), l.foldl (blank1 base) (11, d) = (11, d) := fun l => by
        induction l with
        | nil => intro d; rfl
        | cons j l ih => intro d; rw [List.foldl_cons]; exact ih d
      exact this l _
theorem open_other {d : Drum} {n : Nat} (hu : d.up) (hn : d.now.length = n) {pl : Plan} (hp : draft n = some pl) (h0 : d.now.getD 0 [] = zs) (h1 : d.now.getD 1 [] = zs) (hx : ∃ i, i < 8 ∧ (d.now.getD (pl.base + i) []).all (· == 0) = false) {frames : Int} (hf : 4 ≤ frames ∧ frames ≤ 1024) :
    ∃ d', vopen2 d frames = (11, none, d') := by
  obtain ⟨p1, p2, p3, p4, p5, p6, p7, p8⟩ := plan_facts hp
  have hh : getHead2 d = (11, ⟨0, 0⟩, d.tick 2) := by
    unfold getHead2
    rw [read_up hu (by omega)]
    simp only
    rw [read_up (tick_up hu 1) (show 1 < d.now.length by omega)]
    simp only
    rw [show (d.tick 1).now = d.now from rfl, h0, h1]
    unfold headOf
    rw [zs_head]
    rfl
  obtain ⟨i, hi, hx⟩ := hx
  obtain ⟨d', e⟩ := blank_stop pl.base (List.range 8) (d := d.tick 2) hu (fun i hi => by have := List.mem_range.1 hi; show _ < d.now.length; omega) ⟨i, List.mem_range.2 hi, hx⟩
  refine ⟨d', ?_⟩
  unfold vopen2
  rw [if_neg (by omega), hn, hp]
  simp only
  have hb : begun d pl = (11, ⟨0, 0⟩, z0, d') := by
    unfold begun
    rw [hh]
    show fresh2 _ pl ⟨0, 0⟩ = _
    unfold fresh2
    rw [e]
    rfl
  rw [hb]
  rfl
/-- VaultOpens, on the model. -/
theorem opens {n : Nat} {pl : Plan} (hp : draft n = some pl) {frames : Int} (hf : 4 ≤ frames ∧ frames ≤ 1024) {p : B} (hl : p.length = 64) :
    ∃ d, (Drum.new n).write (pl.base + 3) p = (0, d) ∧ if p.all (· == 0) = true then ∃ v d', vopen2 d frames = (0, some v, d') else ∃ d', vopen2 d frames = (11, none, d') := by
  obtain ⟨p1, p2, p3, p4, p5, p6, p7, p8⟩ := plan_facts hp
  have hn : (Drum.new n).now.length = n := by unfold Drum.new; exact List.length_replicate ..
  have hu : (Drum.new n).up := ⟨rfl, rfl⟩
  have hw := write_up hu (n := pl.base + 3) (p := p) (by omega) (by omega)
  rw [fill_full hl] at hw
  refine ⟨_, hw, ?_⟩
  have hnow : ((Drum.new n).puts [(pl.base + 3, p)]).now = (Drum.new n).now.set (pl.base + 3) p := rfl
  split
  · rename_i hz
    have hp0 := all_zero hl hz
    have hsame : ((Drum.new n).puts [(pl.base + 3, p)]).now = (Drum.new n).now := by
      rw [hnow, hp0]
      refine List.ext_getElem? fun k => ?_
      rw [List.getElem?_set]
      split
      · rename_i hk
        subst hk
        rw [if_pos (by omega)]
        unfold Drum.new zs
        simp only [List.getElem?_replicate]
        rw [if_pos (by omega)]
      · rfl
    obtain ⟨v, d', e, _⟩ := open_zero (d := (Drum.new n).puts [(pl.base + 3, p)]) (n := n) (puts_up hu _) hsame rfl hp hf
    exact ⟨v, d', e⟩
  · rename_i hz
    refine open_other (puts_up hu _) (by rw [hnow, List.length_set]; exact hn) hp ?_ ?_ ⟨3, by decide, ?_⟩ hf
    · rw [hnow, set_getD, if_neg (by omega), new_at (by omega)]
    · rw [hnow, set_getD, if_neg (by omega), new_at (by omega)]
    · rw [hnow, set_getD, if_pos ⟨rfl, by omega⟩]
      simpa using hz
/-! ## the map's bits -/
theorem set_getD8 {t : B} {i k : Nat} {b : UInt8} : (t.set i b).getD k 0 = if i = k ∧ k < t.length then b else t.getD k 0 := by
  simp only [List.getD_eq_getElem?_getD, List.getElem?_set]
  by_cases h : i = k
  · subst h
    by_cases h2 : i < t.length
    · simp [h2]
    · simp [h2]
  · simp [h]
theorem bitAt_eq (t : B) (m : Nat) : bitAt t m = (t.getD (m / 8) 0).toNat.testBit (m % 8) := by unfold bitAt; rw [Nat.testBit_eq_decide_div_mod_eq]
theorem bitAt_flip {t : B} {n m : Nat} (hn : n / 8 < t.length) : bitAt (flip1 t n) m = (bitAt t m ^^ decide (m = n)) := by
  rw [bitAt_eq, bitAt_eq]
  unfold flip1
  rw [set_getD8]
  by_cases h : n / 8 = m / 8
  · rw [if_pos ⟨h, by omega⟩, UInt8.toNat_xor, Nat.testBit_xor, h]
    have h8 : n % 8 < 8 := Nat.mod_lt _ (by decide)
    have hp : 2 ^ (n % 8) < 256 := Nat.pow_lt_pow_right (a := 2) (m := n % 8) (n := 8) (by decide) h8
    rw [UInt8.toNat_ofNat', Nat.mod_eq_of_lt (show 2 ^ (n % 8) < 2 ^ 8 from hp), Nat.testBit_two_pow]
    congr 1
    rw [decide_eq_decide]
    omega
  · rw [if_neg (fun x => h x.1), decide_eq_false (show ¬ m = n from fun e => h (by rw [e])), Bool.xor_false]
/-! ## Alloc and Free -/
theorem lowest_spec (v : Va) : ∀ (k n : Nat), (∀ m, n ≤ m → m < v.lowest k n → v.has m = true) ∧ v.lowest k n ≤ n + k ∧ (v.lowest k n < n + k → v.has (v.lowest k n) = false)
  | 0, n => ⟨fun m h1 h2 => by have : v.lowest 0 n = n := rfl
                               omega, Nat.le_refl _, fun h => by have : v.lowest 0 n = n := rfl
                                                                 omega⟩
  | k + 1, n => by
    unfold Va.lowest
    by_cases h : v.has n = true
    · rw [if_pos h]
      obtain ⟨a, b, c⟩ := lowest_spec v k (n + 1)
      refine ⟨fun m h1 h2 => ?_, by omega, fun h3 => c (by omega)⟩
      rcases Nat.eq_or_lt_of_le h1 with rfl | h1
      · exact h
      · exact a m h1 h2
    · rw [if_neg h]
      exact ⟨fun m h1 h2 => by omega, by omega, fun _ => by simpa using h⟩
/-- Alloc gives the least page that isn't taken. -/
theorem alloc_ok {v : Va} {d : Drum} {C cur : Nat → B} (H : VI v d C cur) (hb : v.busy = true) {n : Nat} (h1 : 1 ≤ n) (h2 : n < v.pl.pages) (hall : ∀ m : Nat, 1 ≤ m → m < n → v.has m = true) (hno : v.has n = false) (hm : v.ch.length + 2 < v.frames ∨ (0 ∈ v.ch ∧ v.ch.length + 1 < v.frames)) :
    v.alloc = (0, n, (v.turnMap n).put n []) ∧ ((v.turnMap n).put n []).ch.length ≤ v.ch.length + 2 ∧ (0 ∈ v.ch → ((v.turnMap n).put n []).ch.length ≤ v.ch.length + 1) ∧ 0 ∈ ((v.turnMap n).put n []).ch ∧ ∀ m : Nat, m < v.pl.pages → ((v.turnMap n).put n []).has m = (v.has m || decide (m = n)) := by
  have hlow : v.lowest v.pl.pages 1 = n := by
    obtain ⟨a, b, c⟩ := lowest_spec v v.pl.pages 1
    have hnh : ¬ v.lowest v.pl.pages 1 < n := fun h => by
      have := lowest_pos v v.pl.pages 1
      have h3 := c (by omega)
      rw [hall _ (by omega) h] at h3
      cases h3
    have hnh2 : ¬ n < v.lowest v.pl.pages 1 := fun h => by
      have h3 := a n h1 h
      rw [hno] at h3
      cases h3
    omega
  have hmay : v.may [0, n] = true := by
    unfold Va.may
    refine decide_eq_true ?_
    rcases hm with hm | ⟨h0, hm⟩
    · have : ([0, n].filter fun n => decide (n ∉ v.ch)).length ≤ 2 := List.length_filter_le ..
      omega
    · rw [List.filter_cons_of_neg (by simpa using h0)]
      have : ([n].filter fun n => decide (n ∉ v.ch)).length ≤ 1 := List.length_filter_le ..
      omega
  have hlt : v.taken.length = 496 := by rw [H.taken]; exact (H.len 0 H.one.1).2
  have hp := H.one.2
  have hch : ((v.turnMap n).put n []).ch = chAdd n (chAdd 0 v.ch) := rfl
  refine ⟨?_, ?_, fun h0 => ?_, ?_, fun m hm2 => ?_⟩
  · unfold Va.alloc
    rw [if_neg (by unfold Va.ask; rw [H.down, hb]; simp), hlow, if_neg (by omega), if_neg (by rw [hmay]; decide)]
  · rw [hch, chAdd_len, chAdd_len]; split <;> split <;> omega
  · rw [hch, chAdd_len, chAdd_len, if_pos h0]; split <;> omega
  · rw [hch]; exact mem_chAdd.2 (.inl (mem_chAdd.2 (.inr rfl)))
  · have e : ((v.turnMap n).put n []).has m = (decide ((0 : Int) < m) && decide ((m : Int) < v.pl.pages) && bitAt (flip1 v.taken n) m) := rfl
    have e2 : v.has m = (decide ((0 : Int) < m) && decide ((m : Int) < v.pl.pages) && bitAt v.taken m) := rfl
    have e3 : v.has n = (decide ((0 : Int) < n) && decide ((n : Int) < v.pl.pages) && bitAt v.taken n) := rfl
    rw [hno, decide_eq_true (show (0 : Int) < n by omega), decide_eq_true (show (n : Int) < v.pl.pages by omega)] at e3
    simp only [Bool.true_and] at e3
    rw [e, e2, bitAt_flip (by omega)]
    by_cases hmn : m = n
    · subst hmn
      rw [← e3, decide_eq_true (show (0 : Int) < m by omega), decide_eq_true (show (m : Int) < v.pl.pages by omega)]
      simp
    · rw [decide_eq_false hmn]
      simp
end Go.Proofs.YtoacaikopcdkmaaGreat.Vm
/- The plain model of the vault: the power goes within an opening. Plain Lean, behind Mq. -/
namespace Go.Proofs.YtoacaikopcdkmaaGreat.Vm
/-- The plates are the same. -/
structure Eqv (d e : Drum) : Prop where
  now : d.now = e.now
  safe : d.safe = e.safe
  loose : d.loose = e.loose
theorem Eqv.refl (d : Drum) : Eqv d d := ⟨rfl, rfl, rfl⟩
theorem Eqv.trans {a b c : Drum} (h : Eqv a b) (k : Eqv b c) : Eqv a c := ⟨h.now.trans k.now, h.safe.trans k.safe, h.loose.trans k.loose⟩
theorem Eqv.puts {a b : Drum} (h : Eqv a b) (ws : List (Nat × B)) : Eqv (a.puts ws) (b.puts ws) := ⟨by show setAll a.now ws = setAll b.now ws; rw [h.now], h.safe, by show a.loose ++ ws = b.loose ++ ws; rw [h.loose]⟩
theorem step_any (d : Drum) : (∃ d', d.step = (0, d') ∧ Eqv d' d) ∨ (∃ d', d.step = (9, d') ∧ Eqv d' d) := by
  unfold Drum.step
  by_cases h : d.fuse = some 0
  · rw [if_pos h]
    exact .inr ⟨{ d with down := true }, rfl, rfl, rfl, rfl⟩
  · rw [if_neg h]
    by_cases hd : d.down = true
    · exact .inr ⟨d, by simp only [hd, if_true], .refl d⟩
    · exact .inl ⟨{ d with steps := d.steps + 1, fuse := match d.fuse with | some (k + 1) => some k | x => x }, by simp only [hd, if_false, Bool.false_eq_true], rfl, rfl, rfl⟩
theorem read_any (d : Drum) {n : Nat} (h : n < d.now.length) : (∃ d', d.read n = (0, d.now.getD n [], d') ∧ Eqv d' d) ∨ (∃ d', d.read n = (9, [], d') ∧ Eqv d' d) := by
  unfold Drum.read
  rw [if_pos h]
  rcases step_any d with ⟨d', e, q⟩ | ⟨d', e, q⟩
  · exact .inl ⟨d', by rw [e]; simp only; rw [q.now], q⟩
  · exact .inr ⟨d', by rw [e]; rfl, q⟩
theorem flush_any (d : Drum) : (∃ d', d.flush = (0, d') ∧ Eqv d' { d with safe := setAll d.safe d.loose, loose := [] }) ∨ (∃ d', d.flush = (9, d') ∧ Eqv d' d) := by
  unfold Drum.flush
  rcases step_any d with ⟨d', e, q⟩ | ⟨d', e, q⟩
  · exact .inl ⟨{ d' with safe := setAll d'.safe d'.loose, loose := [] }, by rw [e]; rfl, ⟨q.now, by show setAll d'.safe d'.loose = setAll d.safe d.loose; rw [q.safe, q.loose], rfl⟩⟩
  · exact .inr ⟨d', by rw [e]; rfl, q⟩
/-- Some of the writes. -/
def W (d : Drum) (r : Nat × Drum) (ws : List (Nat × B)) : Prop := (r.1 = 0 ∧ Eqv r.2 (d.puts ws)) ∨ (r.1 = 9 ∧ ∃ j, Eqv r.2 (d.puts (ws.take j)))
theorem W.app {d : Drum} {r r2 : Nat × Drum} {ws ws2 : List (Nat × B)} (h : W d r ws) (h0 : r.1 = 0 → W r.2 r2 ws2) (h9 : r.1 ≠ 0 → r2 = r) : W d r2 (ws ++ ws2) := by
  rcases h with ⟨a, q⟩ | ⟨a, j, q⟩
  · rcases h0 a with ⟨b, q2⟩ | ⟨b, j, q2⟩
    · exact .inl ⟨b, by rw [← puts_puts]; exact q2.trans (q.puts ws2)⟩
    · refine .inr ⟨b, ws.length + j, ?_⟩
      rw [List.take_length_add_append, ← puts_puts]
      exact q2.trans (q.puts _)
  · rw [h9 (by omega)]
    refine .inr ⟨a, min j ws.length, ?_⟩
    rw [List.take_append_of_le_length (Nat.min_le_right ..)]
    have : ws.take (min j ws.length) = ws.take j := by
      rcases Nat.le_total j ws.length with h | h
      · rw [Nat.min_eq_left h]
      · rw [Nat.min_eq_right h, List.take_length, List.take_of_length_le h]
    rw [this]; exact q
theorem W.nil (d : Drum) : W d (0, d) [] := .inl ⟨rfl, by rw [puts_nil]; exact .refl d⟩
theorem write_any (d : Drum) {n : Nat} {p : B} (hn : n < d.now.length) (hp : p.length = 64) : W d (d.write n p) [(n, p)] := by
  unfold Drum.write
  rw [if_neg (by omega), if_neg (by omega)]
  rcases step_any d with ⟨d', e, q⟩ | ⟨d', e, q⟩
  · rw [e]
    refine .inl ⟨rfl, ?_, q.safe, ?_⟩
    · show d'.now.set n (fill 64 p) = d.now.set n p; rw [q.now, fill_full hp]
    · show d'.loose ++ [(n, fill 64 p)] = d.loose ++ [(n, p)]; rw [q.loose, fill_full hp]
  · rw [e]
    exact .inr ⟨rfl, 0, by rw [List.take_zero, puts_nil]; exact q⟩
theorem W_fold {α : Type} {f : Nat × Drum → α → Nat × Drum} {w : α → List (Nat × B)} {N : Nat} (hf : ∀ r x, r.1 ≠ 0 → f r x = r) : ∀ (l : List α) {d : Drum}, d.now.length = N → (∀ x ∈ l, ∀ d' : Drum, d'.now.length = N → W d' (f (0, d') x) (w x)) → W d (l.foldl f (0, d)) (l.flatMap w)
  | [], d, _, _ => .nil d
  | x :: l, d, hd, h => by
    rw [List.foldl_cons, List.flatMap_cons]
    have h1 := h x List.mem_cons_self d hd
    have stay : ∀ (l : List α) (r : Nat × Drum), r.1 ≠ 0 → l.foldl f r = r := fun l => by
      induction l with
      | nil => intro r _; rfl
      | cons y l ih => intro r hr; rw [List.foldl_cons, hf r y hr]; exact ih r hr
    refine h1.app (fun h0 => ?_) (fun h9 => stay l _ h9)
    have hr : f (0, d) x = (0, (f (0, d) x).2) := Prod.ext h0 rfl
    rw [hr]
    refine W_fold hf l ?_ fun y hy => h y (List.mem_cons_of_mem _ hy)
    rcases h1 with ⟨_, q⟩ | ⟨a, _⟩
    · rw [q.now]; show (setAll d.now _).length = _; rw [setAll_len]; exact hd
    · omega
theorem putPage_any (d : Drum) {base n st : Nat} {p : B} (hp : p.length ≤ 496) (hl : base + n * 8 + 8 ≤ d.now.length) : W d (putPage d base n st p) (pageW base n (lay n st p)) := by
  have hb := lay_len n st hp
  have e : pageW base n (lay n st p) = (List.range 8).flatMap fun i => [(base + n * 8 + i, ((lay n st p).drop (i * 64)).take 64)] := by
    unfold pageW
    rw [List.map_eq_flatMap]
  rw [e]
  have h := W_fold (f := fun (r : Nat × Drum) i => if r.1 = 0 then r.2.write (base + n * 8 + i) (((lay n st p).drop (i * 64)).take 64) else r) (w := fun i => [(base + n * 8 + i, ((lay n st p).drop (i * 64)).take 64)]) (N := d.now.length) (fun r x hr => by simp only [if_neg hr]) (List.range 8) (d := d) rfl fun i hi d' hd' => by
    have hi' := List.mem_range.1 hi
    simp only [if_true]
    exact write_any d' (by omega) (by rw [List.length_take, List.length_drop]; omega)
  unfold putPage
  exact h
end Go.Proofs.YtoacaikopcdkmaaGreat.Vm
/- The plain model of the vault: recovery, with the power going within it. Plain Lean, behind Mr. -/
namespace Go.Proofs.YtoacaikopcdkmaaGreat.Vm
theorem scan_any (gen lo : Nat) : ∀ (k place : Nat) (d d0 : Drum) (t : Tape) (all : List B) (group : B) (due : Option Nat), Eqv d d0 → d0.up → lo + place + k ≤ d.now.length →
    (∃ t' d', Tape.scan gen lo k place d t all group due = (9, t', [], d') ∧ Eqv d' d) ∨ (∃ d', Tape.scan gen lo k place d t all group due = ((Tape.scan gen lo k place d0 t all group due).1, (Tape.scan gen lo k place d0 t all group due).2.1, (Tape.scan gen lo k place d0 t all group due).2.2.1, d') ∧ Eqv d' d)
  | 0, place, d, d0, t, all, group, due, _, _, _ => .inr ⟨d, rfl, .refl d⟩
  | k + 1, place, d, d0, t, all, group, due, h, hu, hl => by
    rw [Tape.scan, Tape.scan, read_up hu (by rw [← h.now]; omega)]
    rcases read_any d (n := lo + place) (by omega) with ⟨d', e, q⟩ | ⟨d', e, q⟩
    · rw [e, ← h.now]
      have hq : Eqv d' (d0.tick 1) := ⟨q.now.trans h.now, q.safe.trans h.safe, q.loose.trans h.loose⟩
      cases due <;> simp only <;> split
      all_goals first
        | exact .inr ⟨d', rfl, q⟩
        | (split
           · rcases scan_any gen lo k (place + 1) d' (d0.tick 1) { t with groups := t.groups + 1, place := place + 1 } (all ++ [group ++ List.take (num (List.take 2 (List.drop 14 (d.now.getD (lo + place) [])))) (List.drop 16 (d.now.getD (lo + place) []))]) [] none hq (tick_up hu 1) (by rw [q.now]; omega) with ⟨t', d2, e2, q2⟩ | ⟨d2, e2, q2⟩
             · exact .inl ⟨t', d2, e2, q2.trans q⟩
             · exact .inr ⟨d2, e2, q2.trans q⟩
           · rcases scan_any gen lo k (place + 1) d' (d0.tick 1) t all (group ++ List.take (num (List.take 2 (List.drop 14 (d.now.getD (lo + place) [])))) (List.drop 16 (d.now.getD (lo + place) []))) (some (num (List.take 2 (List.drop 12 (d.now.getD (lo + place) []))) - 1)) hq (tick_up hu 1) (by rw [q.now]; omega) with ⟨t', d2, e2, q2⟩ | ⟨d2, e2, q2⟩
             · exact .inl ⟨t', d2, e2, q2.trans q⟩
             · exact .inr ⟨d2, e2, q2.trans q⟩)
    · rw [e]
      exact .inl ⟨t, d', rfl, q⟩
def Drum.lit (d : Drum) : Drum := { d with fuse := none, down := false }
theorem lit_up (d : Drum) : d.lit.up := ⟨rfl, rfl⟩
theorem lit_eqv (d : Drum) : Eqv d d.lit := ⟨rfl, rfl, rfl⟩
/-- The log is opened, or the power goes. -/
theorem open_any {d : Drum} {gen : Nat} (h1 : 1 ≤ gen) (h2 : gen ≤ 4294967295) {log : Nat} (hl : 1 ≤ log) (hl2 : log ≤ 4096) (hd : 2 + log ≤ d.now.length) {ps : List B} (ho : OnLog d.now 2 gen 0 0 ps) (hw : wide ps ≤ log)
    (hs : wide ps = log ∨ ((d.now.getD (2 + wide ps) []).drop 4).take 4 ≠ put gen 4) :
    (∃ t d', Tape.open d 2 (2 + log) gen = (9, t, [], d') ∧ Eqv d' d) ∨ (∃ d', Tape.open d 2 (2 + log) gen = (0, ⟨2, 2 + log, gen, wide ps, ps.length, false⟩, ps, d') ∧ Eqv d' d) := by
  obtain ⟨k, e, hk⟩ := open_log (d := d.lit) (lit_up d) h1 h2 hl hl2 hd ho hw hs
  unfold Tape.open at e ⊢
  rw [if_neg (show ¬ (d.lit.now.length < 2 + log ∨ 2 + log ≤ 2 ∨ 65535 < 2 + log - 2 ∨ gen < 1 ∨ 4294967295 < gen) from by
    have : d.lit.now.length = d.now.length := rfl
    omega)] at e
  rw [if_neg (by omega)]
  rcases scan_any gen 2 (2 + log - 2) 0 d d.lit ⟨2, 2 + log, gen, 0, 0, false⟩ [] [] none (lit_eqv d) (lit_up d) (by omega) with ⟨t, d', e2, q⟩ | ⟨d', e2, q⟩
  · exact .inl ⟨t, d', e2, q⟩
  · rw [e] at e2
    exact .inr ⟨d', e2, q⟩
/-- All groups are done again, or the power goes. -/
theorem redo_any {base pages : Nat} (hp : pages ≤ 2 ^ 32) : ∀ (gs : List Grp) {d : Drum} {st : Nat}, (∀ G ∈ gs, G.ok pages) → base + pages * 8 ≤ d.now.length →
    W d (((gs.map Grp.enc).foldl (redo base) (0, st, d)).1, ((gs.map Grp.enc).foldl (redo base) (0, st, d)).2.2) (gs.flatMap (Grp.ws base)) ∧
      (((gs.map Grp.enc).foldl (redo base) (0, st, d)).1 = 0 → ((gs.map Grp.enc).foldl (redo base) (0, st, d)).2.1 = (gs.getLast?.map Grp.st).getD st)
  | [], d, st, _, _ => ⟨.nil d, fun _ => rfl⟩
  | G :: gs, d, st, h, hl => by
    have hG := h G List.mem_cons_self
    have h4 : ∀ x ∈ G.pgs, x.2.length = 496 := fun x hx => (hG.each x hx).1
    have hw : W d ((G.pgs.map rec1).foldl (putRec base G.st) (0, d)) (G.ws base) := by
      rw [List.foldl_map]
      refine W_fold (f := fun r x => putRec base G.st r (rec1 x)) (w := fun x => pageW base x.1 (lay x.1 G.st x.2)) (N := d.now.length) (fun r x hr => by unfold putRec; rw [if_neg hr]) G.pgs (d := d) rfl fun x hx d' hd' => ?_
      obtain ⟨a, b⟩ := hG.each x hx
      have e : num ((rec1 x).take 4) = x.1 := by unfold rec1; rw [take_put, num_put, Nat.mod_eq_of_lt (by simp only [Nat.reducePow] at *; omega)]
      have e2 : (rec1 x).drop 4 = x.2 := by unfold rec1; rw [drop_put]
      unfold putRec
      rw [if_pos rfl, e, e2]
      exact putPage_any d' (by omega) (by omega)
    have e : redo base (0, st, d) G.enc = (((G.pgs.map rec1).foldl (putRec base G.st) (0, d)).1, G.st, ((G.pgs.map rec1).foldl (putRec base G.st) (0, d)).2) := by
      unfold redo
      rw [if_pos rfl, enc_stamp hG.st, enc_drop, chunks_recs _ h4 (by rw [enc_len h4]; omega)]
    rw [List.map_cons, List.foldl_cons, e]
    generalize hr : (G.pgs.map rec1).foldl (putRec base G.st) (0, d) = r at hw
    have stay : ∀ (l : List B) (x : Nat × Nat × Drum), x.1 ≠ 0 → l.foldl (redo base) x = x := fun l => by
      induction l with
      | nil => intro x _; rfl
      | cons y l ih => intro x hx; rw [List.foldl_cons, show redo base x y = x from by unfold redo; rw [if_neg hx]]; exact ih x hx
    by_cases h0 : r.1 = 0
    · have hlen : r.2.now.length = d.now.length := by
        rcases hw with ⟨_, q⟩ | ⟨a, _⟩
        · rw [q.now]; show (setAll d.now _).length = _; rw [setAll_len]
        · omega
      rw [h0]
      obtain ⟨a, b⟩ := redo_any hp gs (d := r.2) (st := G.st) (fun X hX => h X (List.mem_cons_of_mem _ hX)) (by rw [hlen]; exact hl)
      refine ⟨?_, fun hz => ?_⟩
      · rw [List.flatMap_cons]
        exact hw.app (fun _ => a) (fun h => absurd h0 h)
      · rw [b hz]
        cases gs with
        | nil => rfl
        | cons X gs => simp [List.getLast?_cons]
    · rw [stay _ _ h0]
      refine ⟨?_, fun hz => absurd hz h0⟩
      rw [List.flatMap_cons]
      exact hw.app (fun h => absurd h h0) (fun _ => rfl)
end Go.Proofs.YtoacaikopcdkmaaGreat.Vm
/- The plain model of the vault: recovery and opening, the power going within them: what a crash finds. Plain Lean, behind Ms. -/
namespace Go.Proofs.YtoacaikopcdkmaaGreat.Vm
/-- Whatever a crash keeps, the same pages are found. -/
def Good (d : Drum) (pl : Plan) (C : Nat → B) (N : Nat) : Prop := ∀ keep, ∃ g st gs, Disk (setAll d.safe (kept keep d.loose)) pl g st gs C ∧ g ≤ N
theorem Good.eqv {d e : Drum} {pl : Plan} {C : Nat → B} {N : Nat} (h : Good e pl C N) (q : Eqv d e) : Good d pl C N := fun keep => by rw [q.safe, q.loose]; exact h keep
theorem kept_nil (keep : List Bool) : kept keep [] = [] := by cases keep <;> rfl
theorem Good.still {d : Drum} {pl : Plan} {g st : Nat} {gs : List Grp} {C : Nat → B} {N : Nat} (D : Disk d.safe pl g st gs C) (hl : d.loose = []) (hg : g ≤ N) : Good d pl C N := fun keep => ⟨g, st, gs, by rw [hl, kept_nil]; exact D, hg⟩
theorem look_has : ∀ (gs : List Grp) {G : Grp} {x : Nat × B} (a : Option (B × Nat)), G ∈ gs → x ∈ G.pgs → (look gs x.1 a).isSome = true := fun gs => by
  have some : ∀ (gs : List Grp) (n : Nat) (q : B × Nat), (look gs n (some q)).isSome = true := fun gs => by
    induction gs with
    | nil => intro n q; rfl
    | cons X gs ih => intro n q; simp only [look]; split <;> exact ih _ _
  induction gs with
  | nil => intro G x a h; cases h
  | cons X gs ih =>
    intro G x a hG hx
    simp only [look]
    rcases List.mem_cons.1 hG with rfl | hG
    · cases hf : G.pgs.find? (fun y => y.1 == x.1) with
      | some y => exact some gs _ _
      | none => exact absurd (by simp) (List.find?_eq_none.1 hf x hx)
    · exact ih _ hG hx
theorem ws_safe {pl : Plan} {gs : List Grp} (hok : ∀ G ∈ gs, G.ok pl.pages) : ∀ w ∈ gs.flatMap (Grp.ws pl.base), Safe pl gs w := fun w hw => by
  obtain ⟨G, hG, hw⟩ := List.mem_flatMap.1 hw
  obtain ⟨x, hx, hw⟩ := List.mem_flatMap.1 hw
  obtain ⟨i, hi, rfl⟩ := List.mem_map.1 hw
  have hi' := List.mem_range.1 hi
  refine ⟨x.1, ((hok G hG).each x hx).2, look_has gs none hG hx, ?_, ?_⟩
  · show _ ≤ pl.base + x.1 * 8 + i; omega
  · show pl.base + x.1 * 8 + i < _; omega
/-- Some of the groups' writes. -/
theorem Good.some {d : Drum} {pl : Plan} {g st : Nat} {gs : List Grp} {C : Nat → B} {N : Nat} (D : Disk d.safe pl g st gs C) (hl : ∀ w ∈ d.loose, Safe pl gs w) (hg : g ≤ N) : Good d pl C N := fun keep => ⟨g, st, gs, disk_writes D fun w hw => hl w (kept_mem keep _ w hw), hg⟩
/-- What stands behind a recovery. -/
theorem recovered {s : List B} {pl : Plan} {g st0 : Nat} {gs : List Grp} {C : Nat → B} (D : Disk s pl g st0 gs C) (hg : g + 1 < 4294967295) : Disk ((setAll s (gs.flatMap (Grp.ws pl.base))).set ((g + 1) % 2) (layHead ⟨g + 1, (gs.getLast?.map Grp.st).getD st0⟩)) pl (g + 1) ((gs.getLast?.map Grp.st).getD st0) [] C := by
  obtain ⟨p1, p2, p3, p4, p5, p6, p7, p8⟩ := plan_facts D.plan
  have hpg : pl.pages ≤ 2 ^ 32 := by simp only [Nat.reducePow]; omega
  have hst := last_st D.s0 fun G hG => (D.ok G hG).st
  have hge := ws_ge pl.base gs
  have low : ∀ k, k < pl.base → (setAll s (gs.flatMap (Grp.ws pl.base))).getD k [] = s.getD k [] := fun k hk => setAll_out _ s fun w hw e => by have := hge w hw; omega
  have hm : (g + 1) % 2 < 2 := Nat.mod_lt _ (by decide)
  have hlen : ((setAll s (gs.flatMap (Grp.ws pl.base))).set ((g + 1) % 2) (layHead ⟨g + 1, (gs.getLast?.map Grp.st).getD st0⟩)).length = s.length := by rw [List.length_set, setAll_len]
  have at0 : ∀ k, 2 ≤ k → ((setAll s (gs.flatMap (Grp.ws pl.base))).set ((g + 1) % 2) (layHead ⟨g + 1, (gs.getLast?.map Grp.st).getD st0⟩)).getD k [] = (setAll s (gs.flatMap (Grp.ws pl.base))).getD k [] := fun k hk => by rw [set_getD, if_neg (by omega)]
  have hfresh : ∀ g', g < g' → g' ≤ 4294967295 → ∀ k, k < pl.log → ((((setAll s (gs.flatMap (Grp.ws pl.base))).set ((g + 1) % 2) (layHead ⟨g + 1, (gs.getLast?.map Grp.st).getD st0⟩)).getD (2 + k) []).drop 4).take 4 ≠ put g' 4 := fun g' h1 h2 k hk => by
    rw [at0 _ (by omega), low _ (by omega)]; exact D.fresh g' h1 h2 k hk
  refine ⟨by rw [hlen]; exact D.plan, by omega, hg, hst, ?_, ?_, trivial, by simp [wide], fun k _ hk => hfresh (g + 1) (by omega) (by omega) k hk, fun g' h1 h2 => hfresh g' (by omega) h2, fun G hG => (by cases hG), fun n hn' => ?_⟩
  · rw [set_getD, if_pos ⟨rfl, by rw [setAll_len]; omega⟩]
  · intro h hh
    have e : (g + 1 + 1) % 2 = g % 2 := by omega
    rw [e, set_getD, if_neg (by omega), low _ (by omega), D.slot, takeHead_lay D.g1 (by have := D.g2; simp only [Nat.reducePow]; omega) D.s0] at hh
    injection hh with hh
    rw [← hh]
    show g < g + 1
    omega
  · show ∃ st, take n (pageB ((setAll s (gs.flatMap (Grp.ws pl.base))).set ((g + 1) % 2) (layHead ⟨g + 1, (gs.getLast?.map Grp.st).getD st0⟩)) pl.base n) = (0, C n, st)
    have hp : pageB ((setAll s (gs.flatMap (Grp.ws pl.base))).set ((g + 1) % 2) (layHead ⟨g + 1, (gs.getLast?.map Grp.st).getD st0⟩)) pl.base n = pageB (setAll s (gs.flatMap (Grp.ws pl.base))) pl.base n := by
      unfold pageB
      exact fm_congr fun i hi => at0 _ (by omega)
    rw [hp, redo_look hpg hn' gs s none D.ok (by omega) (fun q hq => by cases hq)]
    exact D.page n hn'
/-- RECOVERY, or the power goes within it. -/
theorem recover_any {s : List B} {pl : Plan} {g st0 : Nat} {gs : List Grp} {C : Nat → B} (D : Disk s pl g st0 gs C) (hg : g + 1 < 4294967295) {d : Drum} (hn : d.now = s) (hs : d.safe = s) (hl : d.loose = []) :
    (∃ h t d', recover2 d pl ⟨g, st0⟩ = (9, h, t, d') ∧ Good d' pl C (g + 1)) ∨
      (∃ st1 d', recover2 d pl ⟨g, st0⟩ = (0, ⟨g + 1, st1⟩, ⟨2, 2 + pl.log, g + 1, 0, 0, false⟩, d') ∧ d'.safe = d'.now ∧ d'.loose = [] ∧ Disk d'.now pl (g + 1) st1 [] C) := by
  obtain ⟨p1, p2, p3, p4, p5, p6, p7, p8⟩ := plan_facts D.plan
  have hln : d.now.length = s.length := by rw [hn]
  have hpg : pl.pages ≤ 2 ^ 32 := by simp only [Nat.reducePow]; omega
  have hform : (gs.map Grp.enc).all (formB pl.pages) = true := by
    rw [List.all_map, List.all_eq_true]
    exact fun G hG => form_enc hpg (D.ok G hG)
  have hsafe := ws_safe D.ok
  have hm : (g + 1) % 2 < 2 := Nat.mod_lt _ (by decide)
  have G0 : Good d pl C (g + 1) := .still (by rw [hs]; exact D) hl (by omega)
  have D2 := recovered D hg
  unfold recover2
  rcases open_any (d := d) D.g1 (by have := D.g2; omega) (log := pl.log) (by omega) p4 (by omega) (ps := gs.map Grp.enc) (by rw [hn]; exact D.log) D.room (by
    rw [hn]
    rcases Nat.lt_or_ge (wide (gs.map Grp.enc)) pl.log with h | h
    · exact .inr (D.stop _ (Nat.le_refl _) h)
    · exact .inl (by have := D.room; omega)) with ⟨t, d1, e1, q1⟩ | ⟨d1, e1, q1⟩
  · rw [e1]; exact .inl ⟨_, _, d1, rfl, G0.eqv q1⟩
  rw [e1]
  simp only
  rw [hform, if_neg (by decide), if_neg (show ¬ g = 4294967295 by omega)]
  have hl1 : d1.now.length = s.length := by rw [q1.now, hln]
  obtain ⟨hw, hst⟩ := redo_any (base := pl.base) hpg gs (d := d1) (st := st0) D.ok (by omega)
  generalize hr : (gs.map Grp.enc).foldl (redo pl.base) (0, st0, d1) = r at hw hst
  obtain ⟨re, rs, rd⟩ := r
  simp only at hw hst
  have Gw : ∀ (ws : List (Nat × B)), (∀ w ∈ ws, Safe pl gs w) → Good (d1.puts ws) pl C (g + 1) := fun ws h => .some (st := st0) (gs := gs) (g := g) (by show Disk d1.safe _ _ _ _ _; rw [q1.safe, hs]; exact D) (fun w hw => by
    have : (d1.puts ws).loose = d1.loose ++ ws := rfl
    rw [this, q1.loose, hl, List.nil_append] at hw
    exact h w hw) (by omega)
  rcases hw with ⟨a, q2⟩ | ⟨a, j, q2⟩
  rotate_left
  · have a' : re = 9 := a
    subst a'
    exact .inl ⟨_, _, rd, rfl, (Gw _ fun w hw => hsafe w (List.mem_of_mem_take hw)).eqv q2⟩
  have a' : re = 0 := a
  subst a'
  rw [hst rfl]
  simp only
  rcases flush_any rd with ⟨d3, e3, q3⟩ | ⟨d3, e3, q3⟩
  rotate_left
  · rw [e3]; exact .inl ⟨_, _, d3, rfl, (Gw _ hsafe).eqv (q3.trans q2)⟩
  rw [e3]
  simp only
  -- the plates behind the flush
  have n3 : d3.now = setAll s (gs.flatMap (Grp.ws pl.base)) := by rw [q3.now]; show rd.now = _; rw [q2.now]; show setAll d1.now _ = _; rw [q1.now, hn]
  have s3 : d3.safe = setAll s (gs.flatMap (Grp.ws pl.base)) := by
    rw [q3.safe]
    show setAll rd.safe rd.loose = _
    rw [q2.safe, q2.loose]
    show setAll d1.safe (d1.loose ++ _) = _
    rw [q1.safe, q1.loose, hs, hl, List.nil_append]
  have l3 : d3.loose = [] := q3.loose
  have D1 : Disk (setAll s (gs.flatMap (Grp.ws pl.base))) pl g st0 gs C := disk_writes D hsafe
  generalize hst1 : (gs.getLast?.map Grp.st).getD st0 = st1 at D2
  unfold turn2
  rw [if_neg (show ¬ g = 4294967295 by omega)]
  simp only
  have hwr := write_any d3 (n := (g + 1) % 2) (p := layHead ⟨g + 1, st1⟩) (by rw [n3, setAll_len]; omega) (layHead_len _)
  generalize hwe : d3.write ((g + 1) % 2) (layHead ⟨g + 1, st1⟩) = w at hwr
  obtain ⟨we, wd⟩ := w
  have Gh : ∀ (ws : List (Nat × B)), (ws = [] ∨ ws = [((g + 1) % 2, layHead ⟨g + 1, st1⟩)]) → Good (d3.puts ws) pl C (g + 1) := fun ws h keep => by
    have e1 : (d3.puts ws).loose = ws := by show d3.loose ++ ws = ws; rw [l3, List.nil_append]
    have e2 : (d3.puts ws).safe = setAll s (gs.flatMap (Grp.ws pl.base)) := s3
    rw [e1, e2]
    rcases h with rfl | rfl
    · rw [kept_nil]; exact ⟨g, st0, gs, D1, by omega⟩
    · cases keep with
      | nil => exact ⟨g, st0, gs, D1, by omega⟩
      | cons k keep =>
        cases k with
        | false =>
          have : kept (false :: keep) [((g + 1) % 2, layHead ⟨g + 1, st1⟩)] = kept keep [] := rfl
          rw [this, kept_nil]
          exact ⟨g, st0, gs, D1, by omega⟩
        | true =>
          have : kept (true :: keep) [((g + 1) % 2, layHead ⟨g + 1, st1⟩)] = ((g + 1) % 2, layHead ⟨g + 1, st1⟩) :: kept keep [] := rfl
          rw [this, kept_nil]
          exact ⟨g + 1, st1, [], D2, by omega⟩
  rcases hwr with ⟨a, q4⟩ | ⟨a, j, q4⟩
  rotate_left
  · have a' : we = 9 := a
    subst a'
    simp only
    refine .inl ⟨_, _, wd, rfl, (Gh _ ?_).eqv q4⟩
    cases j with
    | zero => exact .inl rfl
    | succ j => exact .inr (by rw [List.take_succ_cons, List.take_nil])
  have a' : we = 0 := a
  subst a'
  simp only
  rcases flush_any wd with ⟨d5, e5, q5⟩ | ⟨d5, e5, q5⟩
  rotate_left
  · rw [e5]; exact .inl ⟨_, _, d5, rfl, (Gh _ (.inr rfl)).eqv (q5.trans q4)⟩
  rw [e5]
  simp only
  have n5 : d5.now = (setAll s (gs.flatMap (Grp.ws pl.base))).set ((g + 1) % 2) (layHead ⟨g + 1, st1⟩) := by rw [q5.now]; show wd.now = _; rw [q4.now]; show setAll d3.now _ = _; rw [n3]; rfl
  have s5 : d5.safe = (setAll s (gs.flatMap (Grp.ws pl.base))).set ((g + 1) % 2) (layHead ⟨g + 1, st1⟩) := by
    rw [q5.safe]
    show setAll wd.safe wd.loose = _
    rw [q4.safe, q4.loose]
    show setAll d3.safe (d3.loose ++ _) = _
    rw [s3, l3]; rfl
  have l5 : d5.loose = [] := q5.loose
  have G5 : Good d5 pl C (g + 1) := .still (by rw [s5]; exact D2) l5 (Nat.le_refl _)
  rcases open_any (d := d5) (gen := g + 1) (by omega) (by omega) (log := pl.log) (by omega) p4 (by rw [n5, List.length_set, setAll_len]; omega) (ps := []) trivial (by simp [wide]) (.inr (by rw [n5]; exact D2.stop 0 (by simp [wide]) (by omega))) with ⟨t, d6, e6, q6⟩ | ⟨d6, e6, q6⟩
  · rw [e6]; exact .inl ⟨_, _, d6, rfl, G5.eqv q6⟩
  · rw [e6]
    refine .inr ⟨st1, d6, ?_, by rw [q6.safe, q6.now, s5, n5], by rw [q6.loose, l5], by rw [q6.now, n5]; exact D2⟩
    rfl
end Go.Proofs.YtoacaikopcdkmaaGreat.Vm
/- The plain model of the vault: opening, the power going within it; VaultAgain. Plain Lean, behind Mt. -/
namespace Go.Proofs.YtoacaikopcdkmaaGreat.Vm
theorem read2_any (d : Drum) (hl : 2 ≤ d.now.length) : (∃ h d', getHead2 d = (9, h, d') ∧ Eqv d' d) ∨ (∃ d', getHead2 d = ((getHead2 d.lit).1, (getHead2 d.lit).2.1, d') ∧ Eqv d' d) := by
  have eu := lit_up d
  have e0 : getHead2 d.lit = if (headOf (d.now.getD 0 []) (d.now.getD 1 [])).gen = 0 then (11, ⟨0, 0⟩, (d.lit.tick 1).tick 1) else (0, headOf (d.now.getD 0 []) (d.now.getD 1 []), (d.lit.tick 1).tick 1) := by
    unfold getHead2
    rw [read_up eu (show 0 < d.now.length by omega)]
    simp only
    rw [read_up (tick_up eu 1) (show 1 < d.now.length by omega)]
    rfl
  rw [e0]
  unfold getHead2
  rcases read_any d (n := 0) (by omega) with ⟨d1, e1, q1⟩ | ⟨d1, e1, q1⟩
  · rw [e1]
    simp only
    rcases read_any d1 (n := 1) (by rw [q1.now]; omega) with ⟨d2, e2, q2⟩ | ⟨d2, e2, q2⟩
    · rw [e2, q1.now]
      simp only
      split
      · exact .inr ⟨d2, rfl, q2.trans q1⟩
      · exact .inr ⟨d2, rfl, q2.trans q1⟩
    · rw [e2]; exact .inl ⟨_, d2, rfl, q2.trans q1⟩
  · rw [e1]; exact .inl ⟨_, d1, rfl, q1⟩
def pageStep (base n : Nat) (r : Nat × B × Drum) (i : Nat) : Nat × B × Drum := if r.1 = 0 then (match r.2.2.read (base + n * 8 + i) with | (e, s, d) => (e, r.2.1 ++ s, d)) else r
theorem pageStep_any (base n : Nat) : ∀ (l : List Nat) (d : Drum) (a : B), (∀ i ∈ l, base + n * 8 + i < d.now.length) →
    (∃ b d', l.foldl (pageStep base n) (0, a, d) = (9, b, d') ∧ Eqv d' d) ∨ (∃ d', l.foldl (pageStep base n) (0, a, d) = (0, a ++ l.flatMap (fun i => d.now.getD (base + n * 8 + i) []), d') ∧ Eqv d' d)
  | [], d, a, _ => .inr ⟨d, by simp, .refl d⟩
  | i :: l, d, a, h => by
    rw [List.foldl_cons]
    have stay : ∀ (l : List Nat) (r : Nat × B × Drum), r.1 ≠ 0 → l.foldl (pageStep base n) r = r := fun l => by
      induction l with
      | nil => intro r _; rfl
      | cons y l ih => intro r hr; rw [List.foldl_cons, show pageStep base n r y = r from by unfold pageStep; rw [if_neg hr]]; exact ih r hr
    rcases read_any d (h i List.mem_cons_self) with ⟨d1, e1, q1⟩ | ⟨d1, e1, q1⟩
    · have e : pageStep base n (0, a, d) i = (0, a ++ d.now.getD (base + n * 8 + i) [], d1) := by unfold pageStep; rw [if_pos rfl, e1]
      rw [e]
      rcases pageStep_any base n l d1 (a ++ d.now.getD (base + n * 8 + i) []) (fun j hj => by rw [q1.now]; exact h j (List.mem_cons_of_mem _ hj)) with ⟨b, d2, e2, q2⟩ | ⟨d2, e2, q2⟩
      · exact .inl ⟨b, d2, e2, q2.trans q1⟩
      · exact .inr ⟨d2, by rw [e2, q1.now, List.flatMap_cons, List.append_assoc], q2.trans q1⟩
    · have e : pageStep base n (0, a, d) i = (9, a ++ [], d1) := by unfold pageStep; rw [if_pos rfl, e1]
      rw [e, stay l (9, a ++ [], d1) (show (9 : Nat) ≠ 0 from by decide)]
      exact .inl ⟨_, d1, rfl, q1⟩
theorem getPage_any (d : Drum) {base n : Nat} (hl : base + n * 8 + 8 ≤ d.now.length) : (∃ d', getPage d base n = (9, [], 0, d') ∧ Eqv d' d) ∨ (∃ d', getPage d base n = ((take n (pageB d.now base n)).1, (take n (pageB d.now base n)).2.1, (take n (pageB d.now base n)).2.2, d') ∧ Eqv d' d) := by
  have h := pageStep_any base n (List.range 8) d [] (fun i hi => by have := List.mem_range.1 hi; omega)
  unfold pageStep at h
  unfold getPage
  rcases h with ⟨b, d', e1, q⟩ | ⟨d', e1, q⟩
  · rw [e1]; exact .inl ⟨d', rfl, q⟩
  · rw [e1]; exact .inr ⟨d', rfl, q⟩
/-- AN OPENING: the same pages behind it, whether it ends or the power goes within it. -/
theorem open_cut {d : Drum} {pl : Plan} {g st0 : Nat} {gs : List Grp} {C : Nat → B} (D : Disk d.now pl g st0 gs C) (hs : d.safe = d.now) (hl : d.loose = []) (hg : g + 1 < 4294967295) {frames : Int} (hf : 4 ≤ frames ∧ frames ≤ 1024) :
    ∃ e v d', vopen2 d frames = (e, v, d') ∧ Good d' pl C (g + 1) := by
  obtain ⟨p1, p2, p3, p4, p5, p6, p7, p8⟩ := plan_facts D.plan
  have G0 : Good d pl C (g + 1) := .still (by rw [hs]; exact D) hl (by omega)
  unfold vopen2
  rw [if_neg (by omega), D.plan]
  have hh := getHead_up (lit_up d) (show 2 ≤ d.now.length by omega) D.g1 (head_is D.g1 (by have := D.g2; simp only [Nat.reducePow]; omega) D.s0 D.slot D.other)
  unfold begun
  rcases read2_any d (by omega) with ⟨h, d1, e1, q1⟩ | ⟨d1, e1, q1⟩
  · rw [e1]; exact ⟨_, _, d1, rfl, G0.eqv q1⟩
  rw [e1, hh]
  simp only
  rcases recover_any (d := d1) D hg q1.now (by rw [q1.safe, hs]) (by rw [q1.loose, hl]) with ⟨h, t, d2, e2, G2⟩ | ⟨st1, d2, e2, s2, l2, D2⟩
  · rw [e2]; exact ⟨_, _, d2, rfl, G2⟩
  rw [e2]
  simp only
  have G2 : Good d2 pl C (g + 1) := .still (by rw [s2]; exact D2) l2 (Nat.le_refl _)
  rcases getPage_any d2 (base := pl.base) (n := 0) (by have := (plan_facts D2.plan).2.1; omega) with ⟨d3, e3, q3⟩ | ⟨d3, e3, q3⟩
  · rw [e3]; exact ⟨_, _, d3, rfl, G2.eqv q3⟩
  · rw [e3]
    generalize take 0 (pageB d2.now pl.base 0) = r
    obtain ⟨a, b, c⟩ := r
    cases a <;> exact ⟨_, _, d3, rfl, G2.eqv q3⟩
/-- A fuse, an opening, a crash; again and again. -/
def again (frames : Int) (keep : List Bool) : List Nat → Drum → Drum
  | [], d => d
  | k :: l, d => again frames keep l ((vopen2 { d with fuse := some k } frames).2.2.crash2 keep)
theorem again_ok {pl : Plan} {C : Nat → B} {frames : Int} (hf : 4 ≤ frames ∧ frames ≤ 1024) (keep : List Bool) : ∀ (l : List Nat) (d : Drum) (N : Nat), (∃ g st gs, Disk d.now pl g st gs C ∧ g ≤ N) → d.up → d.safe = d.now → d.loose = [] → N + l.length + 1 < 4294967295 →
    (∃ g st gs, Disk (again frames keep l d).now pl g st gs C ∧ g ≤ N + l.length) ∧ (again frames keep l d).up ∧ (again frames keep l d).safe = (again frames keep l d).now ∧ (again frames keep l d).loose = []
  | [], d, N, h, hu, hs, hl, _ => ⟨h, hu, hs, hl⟩
  | k :: l, d, N, ⟨g, st, gs, D, hg⟩, hu, hs, hl, hN => by
    rw [List.length_cons] at hN ⊢
    obtain ⟨e, v, d', e1, G⟩ := open_cut (d := { d with fuse := some k }) D hs hl (by omega) hf
    have h2 : again frames keep (k :: l) d = again frames keep l (d'.crash2 keep) := by
      show again frames keep l ((vopen2 { d with fuse := some k } frames).2.2.crash2 keep) = _
      rw [e1]
    rw [h2]
    obtain ⟨g2, st2, gs2, D2, hg2⟩ := G keep
    obtain ⟨a, b, c, d4⟩ := again_ok hf keep l (d'.crash2 keep) (N + 1) ⟨g2, st2, gs2, D2, by omega⟩ ⟨rfl, rfl⟩ rfl rfl (by omega)
    refine ⟨?_, b, c, d4⟩
    obtain ⟨g3, st3, gs3, D3, hg3⟩ := a
    exact ⟨g3, st3, gs3, D3, by omega⟩
end Go.Proofs.YtoacaikopcdkmaaGreat.Vm
/- The plain model of the vault: how many steps an opening takes. Plain Lean, behind Mu. -/
namespace Go.Proofs.YtoacaikopcdkmaaGreat.Vm
theorem pageW_len (base n : Nat) (b : B) : (pageW base n b).length = 8 := by unfold pageW; rw [List.length_map, List.length_range]
theorem grp_len (base : Nat) (G : Grp) : (Grp.ws base G).length = 8 * G.pgs.length := by
  unfold Grp.ws
  induction G.pgs with
  | nil => rfl
  | cons x l ih => rw [List.flatMap_cons, List.length_append, pageW_len, ih, List.length_cons]; omega
theorem ws_len (base pages : Nat) : ∀ (gs : List Grp), (∀ G ∈ gs, G.ok pages) → (gs.flatMap (Grp.ws base)).length ≤ wide (gs.map Grp.enc)
  | [], _ => Nat.le_refl _
  | G :: gs, h => by
    have hG := h G List.mem_cons_self
    have ih := ws_len base pages gs fun X hX => h X (List.mem_cons_of_mem _ hX)
    have he := enc_len fun x hx => (hG.each x hx).1
    rw [List.flatMap_cons, List.length_append, grp_len, List.map_cons, wide, he]
    unfold secs
    omega
/-- A drum that holds a vault is opened, in so many steps. -/
theorem open_steps {d : Drum} {pl : Plan} {g st0 : Nat} {gs : List Grp} {C : Nat → B} (D : Disk d.now pl g st0 gs C) (hu : d.up) (hs : d.safe = d.now) (hl : d.loose = []) (hg : g + 1 < 4294967295) {frames : Int} (hf : 4 ≤ frames ∧ frames ≤ 1024) :
    ∃ v d', vopen2 d frames = (0, some v, d') ∧ VI v d' C C ∧ v.busy = false ∧ v.head.gen = g + 1 ∧ v.pl = pl ∧ v.frames = frames.toNat ∧ v.tape.groups = 0 ∧ d'.steps ≤ d.steps + 3 * pl.log + 40 := by
  obtain ⟨p1, p2, p3, p4, p5, p6, p7, p8⟩ := plan_facts D.plan
  have hh := getHead_up hu (by omega) D.g1 (head_is D.g1 (by have := D.g2; simp only [Nat.reducePow]; omega) D.s0 D.slot D.other)
  obtain ⟨st1, d1, e, h1, h2, h3, h4, h5⟩ := recover_disk D hg (d := d.tick 2) (tick_up hu 2) rfl hs hl
  have hb : begun d pl = (0, ⟨g + 1, st1⟩, ⟨2, 2 + pl.log, g + 1, 0, 0, false⟩, d1) := by
    unfold begun
    rw [hh]
    exact e
  obtain ⟨v, e1, H, b1, b2, b3, b4, b5⟩ := opened hf D.plan hb (run_of h1 h2 h3 h4)
  refine ⟨v, _, e1, H, b1, by rw [b2], b3, b4, b5, ?_⟩
  have hw := ws_len pl.base pl.pages gs D.ok
  have hr := D.room
  have ht : (d.tick 2).steps = d.steps + 2 := rfl
  show d1.steps + 8 ≤ _
  omega
/-- VaultAgain, on the model: what stands on the drum behind a crash; what is found, and how soon. -/
theorem agains {v : Va} {d : Drum} {C cur : Nat → B} (H : VI v d C cur) (hg : v.head.gen + 8 < 4294967290) (keep : List Bool) {frames : Int} (hf : 4 ≤ frames ∧ frames ≤ 1024) {l : List Nat} (hl : l.length ≤ 6) :
    (∃ w d', vopen2 (d.crash2 keep) frames = (0, some w, d') ∧ VI w d' C C ∧ w.pl = v.pl) ∧
      ∃ w d', vopen2 (again frames keep l (d.crash2 keep)) frames = (0, some w, d') ∧ VI w d' C C ∧ w.pl = v.pl ∧ w.busy = false ∧ w.tape.groups = 0 ∧ d'.steps ≤ (again frames keep l (d.crash2 keep)).steps + 3 * v.pl.log + 40 := by
  refine ⟨?_, ?_⟩
  · obtain ⟨w, d', e, h1, _, _, h2, _, _⟩ := crash_ok H (by omega) keep hf
    exact ⟨w, d', e, h1, h2⟩
  · obtain ⟨gs, st0, R, ht⟩ := H.run
    obtain ⟨D, hu, hs, hl0⟩ := crash_disk R keep
    obtain ⟨⟨g2, st2, gs2, D2, hg2⟩, a, b, c⟩ := again_ok hf keep l (d.crash2 keep) v.head.gen ⟨_, _, _, D, Nat.le_refl _⟩ hu hs hl0 (by omega)
    obtain ⟨w, d', e, h1, h2, _, h4, _, h6, h7⟩ := open_steps D2 a b c (by omega) hf
    exact ⟨w, d', e, h1, h4, h2, h6, h7⟩
end Go.Proofs.YtoacaikopcdkmaaGreat.Vm
/- The plain model of the vault: VaultFills. Plain Lean, behind Mv. -/
namespace Go.Proofs.YtoacaikopcdkmaaGreat.Vm
/-- Pages 1 .. p - 1 are taken; j of them by this transaction. -/
structure Fl (v : Va) (d : Drum) (C : Nat → B) (p j : Nat) : Prop where
  inv : ∃ cur, VI v d C cur
  busy : v.busy = true
  has : ∀ m : Nat, m < v.pl.pages → v.has m = decide (1 ≤ m ∧ m < p)
  cnt : (j = 0 ∧ v.ch = []) ∨ (0 ∈ v.ch ∧ v.ch.length ≤ 1 + j)
theorem has_big {v : Va} {m : Nat} (h : v.pl.pages ≤ m) : v.has m = false := by
  unfold Va.has
  rw [decide_eq_false (show ¬ ((m : Int) < v.pl.pages) by omega)]
  simp
theorem fill_begin {v : Va} {d : Drum} {C : Nat → B} (H : VI v d C C) (hb : v.busy = false) {p : Nat} (hh : ∀ m : Nat, m < v.pl.pages → v.has m = decide (1 ≤ m ∧ m < p)) : v.begin.1 = 0 ∧ Fl v.begin.2 d C p 0 ∧ v.begin.2.pl = v.pl ∧ v.begin.2.frames = v.frames ∧ v.begin.2.head = v.head := by
  obtain ⟨e, H2, _⟩ := begin_ok H hb
  rw [e]
  exact ⟨rfl, ⟨⟨C, H2⟩, rfl, hh, .inl ⟨rfl, H.idle hb⟩⟩, rfl, rfl, rfl⟩
theorem fill_one {v : Va} {d : Drum} {C : Nat → B} {p j : Nat} (F : Fl v d C p j) (h1 : 1 ≤ p) (h2 : p < v.pl.pages) (hf : j + 2 < v.frames) (hf2 : 2 < v.frames) : ∃ w, v.alloc = (0, p, w) ∧ Fl w d C (p + 1) (j + 1) ∧ w.pl = v.pl ∧ w.frames = v.frames ∧ w.head = v.head := by
  obtain ⟨cur, H⟩ := F.inv
  have hm : v.ch.length + 2 < v.frames ∨ (0 ∈ v.ch ∧ v.ch.length + 1 < v.frames) := by
    rcases F.cnt with ⟨_, a⟩ | ⟨a, b⟩
    · left; rw [a]; simpa using hf2
    · right; exact ⟨a, by omega⟩
  obtain ⟨e, c1, c2, c3, c4⟩ := alloc_ok H F.busy h1 h2 (fun m m1 m2 => by rw [F.has m (by omega)]; simp; omega) (by rw [F.has p h2]; simp) hm
  have K := alloc_kept H
  rw [e] at K
  refine ⟨_, e, ⟨K.inv, K.busy.trans F.busy, fun m hm2 => ?_, .inr ⟨c3, ?_⟩⟩, K.pl, K.frames, K.head⟩
  · have hm3 : m < v.pl.pages := hm2
    have e2 := c4 m hm3
    rw [F.has m hm3] at e2
    refine e2.trans ?_
    rw [← Bool.decide_or, decide_eq_decide]
    omega
  · rcases F.cnt with ⟨a, b⟩ | ⟨a, b⟩
    · rw [b] at c1; simp only [List.length_nil] at c1; omega
    · have := c2 a; omega
theorem fill_full' {v : Va} {d : Drum} {C : Nat → B} {p j : Nat} (F : Fl v d C p j) (h : v.pl.pages ≤ p) : v.alloc = (4, 0, v) := by
  obtain ⟨cur, H⟩ := F.inv
  have hl : v.pl.pages ≤ v.lowest v.pl.pages 1 := by
    obtain ⟨a, b, c⟩ := lowest_spec v v.pl.pages 1
    have hp := lowest_pos v v.pl.pages 1
    refine Decidable.byContradiction fun hn => ?_
    have h3 := c (by omega)
    rw [F.has _ (by omega)] at h3
    simp at h3
    omega
  unfold Va.alloc
  rw [if_neg (by unfold Va.ask; rw [H.down, F.busy]; simp), if_pos hl]
theorem fill_commit {v : Va} {d : Drum} {C : Nat → B} {p j : Nat} (F : Fl v d C p j) (hg : v.head.gen + 1 < 4294967295) (hst : v.head.stamp + 1 < 2 ^ 64) (hfit : 10 + 500 * (j + 1) ≤ v.pl.log * 48) :
    ∃ w d' C', v.commit d = (0, w, d') ∧ VI w d' C' C' ∧ w.busy = false ∧ (∀ m : Nat, m < w.pl.pages → w.has m = decide (1 ≤ m ∧ m < p)) ∧ w.pl = v.pl ∧ w.frames = v.frames ∧ w.head.gen ≤ v.head.gen + 1 ∧ w.head.stamp ≤ v.head.stamp + 1 := by
  obtain ⟨cur, H⟩ := F.inv
  obtain ⟨e, w, d', e1, h, hb, h4, h5, h6, h7⟩ := commit_ok H F.busy hg hst
  rcases h with ⟨he, hv, _⟩ | ⟨_, _, hne, hlong⟩
  · subst he
    refine ⟨w, d', cur, e1, hv, hb, fun m hm => ?_, h6, h7, h4, h5⟩
    rw [h6] at hm
    rw [← F.has m hm]
    unfold Va.has
    rw [h6, hv.taken, H.taken]
  · exfalso
    have hG := (H.group hne hst).1
    have := enc_len fun x hx => (hG.each x hx).1
    have hn : v.group.pgs.length = v.ch.length := by unfold Va.group; simp only [List.length_map, isort_len]
    have hc : v.ch.length ≤ 1 + j := by
      rcases F.cnt with ⟨_, b⟩ | ⟨_, b⟩
      · exact absurd b hne
      · exact b
    omega
/-- Free, where little is changed. -/
theorem free_ok {v : Va} {d : Drum} {C cur : Nat → B} (H : VI v d C cur) (hb : v.busy = true) (hch : ∀ k ∈ v.ch, k = 0) (hf : 4 ≤ v.frames) {n : Int} (hn : v.has n = true) :
    ∃ w, v.free n = (0, w) ∧ (∀ k ∈ w.ch, k = 0) ∧ (∀ m : Nat, m < v.pl.pages → w.has m = (v.has m && decide ((m : Int) ≠ n))) ∧ Kept v w d d C := by
  obtain ⟨q1, q2, q3⟩ := has_pos hn
  have hlen : v.ch.length ≤ 1 := by
    have := nodup_le H.ci.chn (m := [0]) fun k hk => by rw [hch k hk]; simp
    simpa using this
  have hmay : v.may [0] = true := by
    unfold Va.may
    have : ([0].filter fun n => decide (n ∉ v.ch)).length ≤ 1 := List.length_filter_le ..
    exact decide_eq_true (by omega)
  have e : v.free n = (0, ({ v with ch := v.ch.erase n.toNat, L := rem n.toNat v.L }).turnMap n.toNat) := by
    unfold Va.free
    rw [if_neg (by unfold Va.ask; rw [H.down, hb]; simp), if_neg (by rw [hn]; decide), if_neg (by rw [hmay]; simp)]
  have K := free_kept H n
  rw [e] at K
  refine ⟨_, e, fun k hk => ?_, fun m hm => ?_, K⟩
  · rcases mem_chAdd.1 hk with h | h
    · exact hch k (List.mem_of_mem_erase h)
    · exact h
  · have hlt : v.taken.length = 496 := by rw [H.taken]; exact (H.len 0 H.one.1).2
    have hp := H.one.2
    have e1 : (({ v with ch := v.ch.erase n.toNat, L := rem n.toNat v.L } : Va).turnMap n.toNat).has m = (decide ((0 : Int) < m) && decide ((m : Int) < v.pl.pages) && bitAt (flip1 v.taken n.toNat) m) := rfl
    have e2 : v.has m = (decide ((0 : Int) < m) && decide ((m : Int) < v.pl.pages) && bitAt v.taken m) := rfl
    have e3 : v.has n = (decide (0 < n) && decide (n < v.pl.pages) && bitAt v.taken n.toNat) := rfl
    rw [hn] at e3
    simp only [Bool.and_eq_true, Bool.true_eq, decide_eq_true_eq] at e3
    rw [e1, e2, bitAt_flip (by omega)]
    by_cases hmn : m = n.toNat
    · subst hmn
      rw [e3.2, decide_eq_false (show ¬ ((n.toNat : Nat) : Int) ≠ n from fun h => h (by omega))]
      simp
    · rw [decide_eq_false hmn, decide_eq_true (show (m : Int) ≠ n by omega)]
      simp
end Go.Proofs.YtoacaikopcdkmaaGreat.Vm
/- The plain model of the vault: what the laws' first lines see. Plain Lean, behind Mw. -/
namespace Go.Proofs.YtoacaikopcdkmaaGreat.Vm
theorem put_ok {v : Va} {d : Drum} {C cur : Nat → B} (H : VI v d C cur) (hb : v.busy = true) {n : Int} (hn : v.has n = true) {p : B} (hp : p.length ≤ 496) (hm : v.may [n.toNat] = true) :
    v.put1 n p = (0, v.put n.toNat p) ∧ VI (v.put n.toNat p) d C (setC cur n.toNat (fill 496 p)) := by
  obtain ⟨q1, q2, q3⟩ := has_pos hn
  have H3 := H.toVJ.put hb q2 hp (may_one hm)
  refine ⟨?_, ⟨H3, by show v.taken = setC _ _ _ 0; rw [H.taken, setC, if_neg (Ne.symm q3)]⟩⟩
  unfold Va.put1
  rw [if_neg (by unfold Va.ask; rw [H.down, hb]; simp), if_neg (by rw [hn]; decide), if_neg (by omega), if_neg (by rw [hm]; decide)]
def zp : B := List.replicate 496 0
theorem bit_zp (m : Nat) : bitAt zp m = false := by
  rw [bitAt_eq]
  have : zp.getD (m / 8) 0 = 0 := by
    unfold zp
    simp only [List.getD_eq_getElem?_getD, List.getElem?_replicate]
    split <;> rfl
  rw [this]
  exact Nat.zero_testBit _
theorem awake_ok : ∃ v d1 v2 v4 d2 w d3, vopen2 (Drum.new 100) 8 = (0, some v, d1) ∧ v.begin.1 = 0 ∧ v.begin.2.alloc = (0, 1, v2) ∧ (v2.put1 1 [97]).1 = 0 ∧ (v2.put1 1 [97]).2.commit d1 = (0, v4, d2) ∧
    vopen2 (d2.crash2 []) 8 = (0, some w, d3) ∧ (∃ L k, w.get d3 1 = (0, 97 :: List.replicate 495 0, { w with L := L }, d3.tick k) ∧ Va.takenL { w with L := L } = [1] ∧ Va.head { w with L := L } = w.head) ∧ w.head.gen = 2 := by
  have hp : draft 100 = some ⟨25, 27, 9⟩ := rfl
  obtain ⟨v, d1, e1, H1, hb1, hh1, hpl1, hf1, hgr⟩ := open_new hp (frames := 8) (by decide)
  have hno : ∀ m : Nat, v.has m = false := fun m => by
    unfold Va.has
    rw [H1.taken, show bitAt (List.replicate 496 0) (m : Int).toNat = false from bit_zp _]
    simp
  have hfr : v.frames = 8 := hf1
  have hch : v.ch = [] := H1.idle hb1
  obtain ⟨gs, st0, R, ht⟩ := H1.run
  have hgs : gs = [] := by
    rw [ht] at hgr
    exact List.eq_nil_of_length_eq_zero hgr
  have hfree : v.tape.free = 25 := by rw [ht, hgs, hpl1]; rfl
  obtain ⟨b0, H1b, _⟩ := begin_ok H1 hb1
  have hal := alloc_ok H1b rfl (n := 1) (by decide) (by show 1 < v.pl.pages; rw [hpl1]; decide) (fun m m1 m2 => by omega) (hno 1) (.inl (by show v.ch.length + 2 < v.frames; rw [hch, hfr]; decide))
  obtain ⟨a1, _, _, _, a5⟩ := hal
  have K := alloc_kept H1b
  rw [a1] at K
  obtain ⟨cur2, H2⟩ := K.inv
  generalize hv2 : (Va.turnMap { v with busy := true, was := v.taken } 1).put 1 [] = v2 at a1 a5 K H2
  have hch2 : v2.ch = [0, 1] := by rw [← hv2]; show chAdd 1 (chAdd 0 v.ch) = _; rw [hch]; rfl
  have hpl2 : v2.pl = ⟨25, 27, 9⟩ := by rw [← hv2]; exact hpl1
  have hfr2 : v2.frames = 8 := by rw [← hv2]; exact hfr
  have hfree2 : v2.tape.free = 25 := by rw [← hv2]; exact hfree
  have hb2 : v2.busy = true := by rw [← hv2]; rfl
  have hhead2 : v2.head = ⟨1, 0⟩ := by rw [← hv2]; exact hh1
  have htk2 : v2.taken = flip1 zp 1 := by rw [← hv2]; show flip1 v.taken 1 = _; rw [H1.taken]; rfl
  have hhas2 : v2.has 1 = true := by
    have := a5 1 (by show 1 < v.pl.pages; rw [hpl1]; decide)
    simpa using this
  have hmay2 : v2.may [(1 : Int).toNat] = true := by
    unfold Va.may
    rw [hch2, hfr2]; decide
  obtain ⟨c1, H3⟩ := put_ok H2 hb2 hhas2 (p := [97]) (by decide) hmay2
  have hch3 : (v2.put (1 : Int).toNat [97]).ch = [0, 1] := by show chAdd 1 v2.ch = _; rw [hch2]; rfl
  have hn3 : ∀ hne : (v2.put (1 : Int).toNat [97]).ch ≠ [], (v2.put (1 : Int).toNat [97]).group.enc.length = 1010 := fun hne => by
    have hG := (H3.group hne (by show v2.head.stamp + 1 < _; rw [hhead2]; decide)).1
    have h5 := enc_len fun x hx => (hG.each x hx).1
    have hn : (v2.put (1 : Int).toNat [97]).group.pgs.length = 2 := by unfold Va.group; simp only [List.length_map, isort_len]; rw [hch3]; rfl
    rw [h5, hn]
  obtain ⟨e, v4, d2, e2, hv, hb4, _, _, hpl4, hfr4⟩ := commit_ok H3 hb2 (by show v2.head.gen + 1 < _; rw [hhead2]; decide) (by show v2.head.stamp + 1 < _; rw [hhead2]; decide)
  rcases hv with ⟨he, H4, hgen⟩ | ⟨_, _, hne, hlong⟩
  rotate_left
  · exfalso
    have hlog : (v2.put (1 : Int).toNat [97]).pl.log = 25 := by show v2.pl.log = 25; rw [hpl2]
    rw [hn3 hne, hlog] at hlong
    omega
  subst he
  have hgen4 : v4.head.gen = 1 := by
    rw [hgen (by rw [hn3 (by rw [hch3]; decide)]; show 1010 ≤ v2.tape.free * 48; rw [hfree2]; decide)]
    show v2.head.gen = 1
    rw [hhead2]
  have hpl4' : v4.pl = ⟨25, 27, 9⟩ := hpl4.trans hpl2
  obtain ⟨w, d3, e3, H5, hb5, hg5, hpl5, _, _⟩ := crash_ok H4 (by rw [hgen4]; decide) [] (frames := 8) (by decide)
  have hcur0 : setC cur2 (1 : Int).toNat (fill 496 [97]) 0 = flip1 zp 1 := by
    have := H3.taken
    rw [← this]
    exact htk2
  have hseen : seen w.pl (setC cur2 (1 : Int).toNat (fill 496 [97])) = [1] := by
    unfold seen
    rw [hcur0, hpl5, hpl4']
    have : ∀ n, bitAt (flip1 zp 1) n = decide (n = 1) := fun n => by
      rw [bitAt_flip (by unfold zp; rw [List.length_replicate]; decide), bit_zp]; simp
    simp only [this]
    decide
  have hw1 : w.has 1 = true := by
    have h := taken_seen H5
    rw [hseen] at h
    have : (1 : Nat) ∈ w.takenL := by rw [h]; exact List.mem_singleton.2 rfl
    exact (List.mem_filter.1 this).2
  obtain ⟨L, k, e4, H6⟩ := get_ok H5 hw1
  refine ⟨v, d1, v2, v4, d2, w, d3, e1, by rw [b0], by rw [b0]; exact a1, by rw [c1], by rw [c1]; exact e2, e3, ⟨L, k, ?_, ?_, rfl⟩, by rw [hg5, hgen4]⟩
  · rw [e4]
    have : setC cur2 (1 : Int).toNat (fill 496 [97]) (1 : Int).toNat = 97 :: List.replicate 495 0 := by
      unfold setC
      rw [if_pos rfl]
      rfl
    rw [this]
  · have h := taken_seen H6
    exact h.trans hseen
end Go.Proofs.YtoacaikopcdkmaaGreat.Vm
