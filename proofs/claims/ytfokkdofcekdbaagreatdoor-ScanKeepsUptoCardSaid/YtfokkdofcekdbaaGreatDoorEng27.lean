/- Jumps to a label, in step with a plain function. No condition. -/
import Derived.Test.YtfokkdofcekdbaaGreatDoorEng24
set_option linter.unusedSimpArgs false
set_option linter.unusedVariables false
namespace Go.Proofs.YtfokkdofcekdbaaGreatDoor
section
variable {P : Program} {Q : Exit → St → Prop} {s : St} {β : Type} {G : β → Prop}
theorem Exit.sel_goto {n : St → Prop} {l : Nat} (h : Q (.goto l) s) : Exit.sel n Q (.goto l) s := h
theorem Exit.blk_goto {id l : Nat} (h : Q (.goto l) s) : Exit.blk id Q (.goto l) s := h
theorem Exit.jmp_ret {body : Code} (h : Q .ret s) : Exit.jmp P body Q .ret s := h
theorem jmp_goto {body rest : Code} {l : Nat} (hf : findLabel body l = some (.seq .skip rest)) (h : WP P rest (Exit.jmp P body Q) s) : Exit.jmp P body Q (.goto l) s := by
 simp only [Exit.jmp, hf]
 exact JW_step (WP_seq (WP_skip h))
theorem C_gloop {σ ρ : Type} {rest : Code} {b : (σ → Option ρ) → σ → Option ρ} {n : Nat} {x0 : σ} {k : ρ → Option β} (hF : OptP ((iter b n x0).bind k) G) (R : σ → St → Prop) (hR : R x0 s)
  (hs : ∀ G1 : ρ → Prop, (∀ o, G1 o → OptP (k o) G) → ∀ (rec : σ → Option ρ) (x : σ) (s' : St), (∀ (y : σ) (t : St), OptP (rec y) G1 → R y t → WP P rest Q t) → OptP (b rec x) G1 → R x s' → WP P rest Q s') : WP P rest Q s := by
 rw [OptP_bind] at hF
 have key : ∀ (n : Nat) (x : σ) (s : St), OptP (iter b n x) (fun o => OptP (k o) G) → R x s → WP P rest Q s := by
  intro n
  induction n with
  | zero => intro x s h _; exact F_none h
  | succ n ih =>
   intro x s h hr
   exact hs _ (fun _ h => h) (iter b n) x s (fun y t hy hr => ih y t hy hr) h hr
 exact key n x0 s hF hR
theorem C_fjoin {σ : Type} {body rest : Code} {b : σ → Option β} {f : (σ → Option β) → Option β} (l : Nat) (hf : findLabel body l = some (.seq .skip rest)) (hF : OptP (letJ b f) G) (R : σ → St → Prop) (hb : ∀ (x : σ) (s' : St), OptP (b x) G → R x s' → WP P rest Q s')
  (ha : ∀ J : σ → Option β, (∀ (x : σ) (t : St), OptP (J x) G → R x t → WP P rest Q t) → OptP (f J) G → WP P body Q s) : WP P body Q s := ha b hb hF
end
end Go.Proofs.YtfokkdofcekdbaaGreatDoor
