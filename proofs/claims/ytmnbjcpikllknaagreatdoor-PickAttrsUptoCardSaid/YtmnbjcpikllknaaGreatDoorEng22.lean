/- Calls that take own objects; lists that may be nil. No condition. -/
import Derived.Test.YtmnbjcpikllknaaGreatDoorEng21
set_option linter.unusedSimpArgs false
set_option linter.unusedVariables false
namespace Go.Proofs.YtmnbjcpikllknaaGreatDoor
theorem WK {α:Type} {q id:Nat} {e:List α}:(D0 q id e).lay=true:=by cases id <;> rfl
theorem Lh {α:Type} {q id:Nat} {e:List α}:(D0 q id e).cells=[D0 q id e]:=by cases id <;> rfl
theorem WO.refl:∀ O:List (Nat × AObj),WO O O
 | []=>.nil
 | _ :: O=>.keep (WO.refl O)
def Akc (q r:Nat) (es:List (List D)):D:=match r with
 | 0=>.snil
 | i + 1=>.sl q es (i + 1)
theorem Wd.acc {α:Type} {q r:Nat} {f:α -> List D} {L:List α} (h:r=0 -> L=[]):Wd (Akc q r (L.map f)) (.sl q (L.map f) 0):=by
 cases r with
 | zero=>rw [h rfl];exact .nil q
 | succ i=>exact .zero _ _ _
section
variable {P:Program} {md:Nat -> Nat} {w:Bool} {ops:Array Oper} {os:List Oper} {k:St -> Prop} {n:Nat} {l:List (Nat × D)} {h:Heap} {d:Nat} {t ty:TypeId} {pos:String} {af:Array Edge} {x y z:Operand}
variable {β:Type} {G:β -> Prop} {O:List (Nat × AObj)} {α:Type} {e:List α} {q id:Nat}
theorem PC (c:α -> List D) (ok:OK h O) (hk:OK h (mo 0 c ([]:List α) :: O) -> AO P md w ops os ⟨AI n l,Hp h (mo 0 c ([]:List α) :: O)⟩ k):AO P md w ops os ⟨AI n l,Hp h O⟩ k:=hk (OK_nil ok)
theorem Ag9 {i off j:Nat} {cs cs':List D} (ok:OK h O) (hx:opL n l x=.ptr i off) (hy:opL n l y=D0 q id e) (hj:O[j]?=some (i,.cells cs)) (hi:i ≠ 0) (h2:szD P t=some 1)
  (h3:Nat.ble (off + 1) cs.length=true) (h4:GH cs off [D0 q id e]=cs') (hk:OK h (O.set j (i,.cells cs')) -> AO P md w ops os ⟨AI n l,Hp h (O.set j (i,.cells cs'))⟩ k) :
  AO P md w ops (⟨none,.store t x y,ty,pos,af,none⟩ :: os) ⟨AI n l,Hp h O⟩ k:=
 F3 ok hx hy hj hi WK (by rw [Lh];exact h2) (by rw [Lh];exact h3) (by rw [Lh];exact h4) hk
end
theorem Lg {P:Program} {md:Nat -> Nat} {ops:Array Oper}:∀ (pl:List Nat) (l:List Oper) {s:St} {k:St -> Prop},pl.map (fun i=>ops[i]?)=l.map some -> Ya P N0 md ops l s k -> LD P N0 md ops pl s k
 | [],[],s,k,_,h=>h
 | [],_ :: _,s,k,hl,h=>by simp at hl
 | _ :: _,[],s,k,hl,h=>by simp at hl
 | i :: pl,o :: l,s,k,hl,h=>by
  simp only [List.map_cons,List.cons.injEq] at hl;simp only [LD,hl.1];simp only [Ya] at h;exact Ex h fun s' h'=>Lg pl l hl.2 h'
theorem RJ {P:Program} {Q:Exit -> St -> Prop} {s:St} (md:Nat -> Nat) (pl:List Nat) (l2:List Oper) (hm:P.follows .mixedOrders=true) {id:Nat} {l:List Oper} (hl:pl.length=l.length) (h2:pl.map (fun i=>l[i]?)=l2.map some)
  (ho:JI P N0 md l.toArray pl (Array.replicate l.length false)=true) (h:AO P md false l.toArray l2 s (Q .normal)):WP P (.region id l.toArray true) Q s:=
 Y8 N0 md (Oa P) hm pl hl ho (Lg pl l2 (by simpa using h2) (HI h))
def Ac8 (P:Program) (md:Nat -> Nat) (ops:Array Oper) (pa pb:List Nat):List Nat -> Array Bool -> Bool
 | [],listed=>match pa,pb with
  | a :: ra,b :: rb=>(Region.ready .any ops listed == [a,b]) && (ra.length == rb.length) && JI P N0 md ops ra (listed.setIfInBounds a true) && JI P N0 md ops rb (listed.setIfInBounds b true)
  | _,_=>false
 | i :: is,listed=>(Region.ready .any ops listed).contains i && (Region.ready .any ops listed == [i] || (T5 P N0 md ops listed i || Ud P N0 md ops listed i)) && Ac8 P md ops pa pb is (listed.setIfInBounds i true)
theorem KG {α:Type} {q id:Nat} {e e2:List α} (h:e2.length=e.length):D0 q id e=D0 q id e2:=by cases id <;> simp [D0,h]
theorem Ol {α β:Type} {x:α} {f:α -> Option β} {G:β -> Prop} (hF:OptP ((some x).bind f) G):∃ y,y=x /\ OptP (f y) G:=⟨x,rfl,hF⟩
theorem Hj {P:Program} {f:FuncId} {fn:Func} {c:Code} {args:List D} {h:Heap} {R:D -> Heap -> Prop} {N:Nat} (hf:P.funcs[f]?=some fn) (hb:fn.body=some c) (he:CA P f=true) (hn:fn.ntmps=N) (ha:args.length + (N - args.length)=N)
  (hw:WP P c (RetP P fn R) ⟨AI N (TI 0 args),h⟩):CallsA P f args h R:=by
 refine CallsA_body hf hb he ?_;rw [hn,R7,ha];exact hw
end Go.Proofs.YtmnbjcpikllknaaGreatDoor
