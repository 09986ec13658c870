/- The plain functions. No condition. -/
import Derived.Test.YtmnbjcpikllknaaGreatDoorEA
import Derived.Test.YtmnbjcpikllknaaGreatDoorLg11
set_option linter.unusedVariables false
set_option linter.unusedSimpArgs false
set_option maxRecDepth 20000
set_option maxHeartbeats 8000000
namespace Go.Proofs.YtmnbjcpikllknaaGreatDoor
structure Af where
  q:List By8
  at_:Int
  deriving DecidableEq,Inhabited
def Ji (x:Af):List D:=[.str x.q,.int .i64 x.at_]
structure Am where
  lo:Int
  hi:Int
  deriving DecidableEq,Inhabited
def A1 (x:Am):List D:=[.int .i32 x.lo,.int .i32 x.hi]
structure Aa where
  URI:List By8
  Local:List By8
  deriving DecidableEq,Inhabited
def Ar (x:Aa):List D:=[.str x.URI,.str x.Local]
structure Ae where
  kind:Int
  k:Int
  name:Aa
  value:List By8
  spot:Nat × Nat
  deriving DecidableEq,Inhabited
def Aj (x:Ae):List D:=[.int .u8 x.kind,.int .i64 x.k,.str x.name.URI,.str x.name.Local,.str x.value,.cplx .f64 x.spot.1 x.spot.2]
structure Ah where
  deep:Bool
  attr:Bool
  test:List By8
  name:Aa
  conds:List Ae
  deriving DecidableEq,Inhabited
def Aq (x:Ah):List D:=[.bool x.deep,.bool x.attr,.str x.test,.str x.name.URI,.str x.name.Local,.sl 6 (List.map Aj x.conds) 0]
structure Ak where
  Name:Aa
  Value:List By8
  deriving DecidableEq,Inhabited
def Ao (x:Ak):List D:=[.str x.Name.URI,.str x.Name.Local,.str x.Value]
structure Av where
  Spots:List (Nat × Nat)
  Closed:Bool
  deriving DecidableEq,Inhabited
def Bb (x:Av):List D:=[.sl 1 (List.map Ga x.Spots) 0,.bool x.Closed]
structure AJ where
  s:List By8
  at_:Int
  f:List Av
  pen:Nat × Nat
  n:Int
  open_:Bool
  deriving DecidableEq,Inhabited
def TU (x:AJ):List D:=[.str x.s,.int .i64 x.at_,.sl 2 (List.map Bb x.f) 0,.cplx .f64 x.pen.1 x.pen.2,.int .i64 x.n,.bool x.open_]
structure Ac where
  Kind:Int
  Name:Aa
  Attrs:List Ak
  Kids:List Ac
  Text:List By8
  deriving Inhabited
mutual
def Ad:Ac -> List D
  | ⟨Kind,Name,Attrs,Kids,Text⟩=>[.int .i64 Kind,.str Name.URI,.str Name.Local,.sl 3 (List.map Ao Attrs) 0,.sl 6 (Fm Kids) 0,.str Text]
def Fm:List Ac -> List (List D)
  | []=>[]
  | x :: l=>Ad x :: Fm l
end
theorem IH:∀ l:List Ac,Fm l=List.map Ad l
  | []=>by simp only [Fm,List.map_nil]
  | x :: l=>by simp only [Fm,List.map_cons,IH l]
theorem Ab (x:Ac):Ad x=[.int .i64 x.Kind,.str x.Name.URI,.str x.Name.Local,.sl 3 (List.map Ao x.Attrs) 0,.sl 6 (List.map Ad x.Kids) 0,.str x.Text]:=by cases x;simp only [Ad,IH]
theorem Gt (x:Ac):(Ad x).length=6:=by rw [Ab];rfl
structure Ag where
  path:List Int
  node:Ac
  deriving Inhabited
def Ai (x:Ag):List D:=[.sl 1 (List.map B1 x.path) 0,.int .i64 x.node.Kind,.str x.node.Name.URI,.str x.node.Name.Local,.sl 3 (List.map Ao x.node.Attrs) 0,.sl 6 (List.map Ad x.node.Kids) 0,.str x.node.Text]
structure Al where
  Steps:List Int
  Attr:Bool
  Name:Aa
  deriving DecidableEq,Inhabited
def Au (x:Al):List D:=[.sl 1 (List.map B1 x.Steps) 0,.bool x.Attr,.str x.Name.URI,.str x.Name.Local]
def At:Av × Option Nat -> List D
  | (x,some r)=>[.sl 1 (List.map Ga x.Spots) r,.bool x.Closed]
  | (x,none)=>[.snil,.bool x.Closed]
theorem Cx:∀ a,(At a).length=2
  | (_,some _)=>rfl
  | (_,none)=>rfl
theorem GO (r:Nat) (a:Av):WdC (At (a,some r)) (At (a,some 0)):=.cons (.zero _ _ _) (.cons (.refl _) (.nil))
def Bg (p0:Af):Option (Unit ⊕ Unit):=some (.inl ())
def BK (p0:Af) (p1:Int):Option (Bool):=
  letJ (fun a4:Bool=>
   some a4) fun J5=>
  cond (decide (p0.at_ < (p0.q.length:Int)))
   ((idx p0.q p0.at_).bind fun x8=>
   J5 ((x8.toNat:Int) == p1))
   (J5 false)
def AP (p0 : Af) (p1 : Int) : Option (Af ⊕ Af) :=
  letJ (fun _:Unit=>
   some (.inr (⟨p0.q,(IntKind.wrap .i64 (p0.at_ + 1))⟩:Af))) fun J5=>
   (BK p0 p1).bind fun x6=>
  cond (!x6)
   ((Bg p0).bind fun x=>pnc x (fun x9=>
    some (.inl p0)) fun x8=>
   J5 ())
   (J5 ())
def AH (p0:Af) (p1:Int):Option (Bool × Af):=
   (BK p0 p1).bind fun x1=>
  cond x1
   (some (true,(⟨p0.q,(IntKind.wrap .i64 (p0.at_ + 1))⟩:Af)))
   (some (false,p0))
def Ef (p0 : Int) (p1 : List Am) (rec10 : Int -> Option (Unit ⊕ Bool)) (a7 : Int) : Option (Unit ⊕ Bool) :=
  cond (decide (a7 < (p1.length:Int)))
   ((idx p1 a7).bind fun x13=>
   cond (decide (p0 <= x13.hi))
    (some (.inr (decide (x13.lo <= p0))))
    (rec10 (IntKind.wrap .i64 (a7 + 1))))
   (some (.inl ()))
def ES (p0:Int) (p1:List Am):Option (Bool):=
  letJ (fun _:Unit=>
   some false) fun J6=>
   (iter (Ef p0 p1) FUEL 0).bind fun o=>
  match o with
  | .inl o1=>J6 o1
  | .inr o1=>some o1
def C7 (p0:Int):Option (Bool):=
  cond (decide (p0 < 128))
   (some ((((decide (97 <= p0)) && (decide (p0 <= 122))) || ((decide (65 <= p0)) && (decide (p0 <= 90)))) || (p0 == 95)))
   ((ES p0 ([(⟨192,214⟩:Am),(⟨216,246⟩:Am),(⟨248,767⟩:Am),(⟨880,893⟩:Am),(⟨895,8191⟩:Am),(⟨8204,8205⟩:Am),(⟨8304,8591⟩:Am),(⟨11264,12271⟩:Am),(⟨12289,55295⟩:Am),(⟨63744,64975⟩:Am),(⟨65008,65533⟩:Am),(⟨65536,983039⟩:Am)])).bind fun x7=>
   some x7)
def Du (p0 : Int) : Option (Bool) :=
   (C7 p0).bind fun x1=>
   (letJ (fun v10:Bool=>some v10) fun J9=>cond ((((x1 || (p0 == 45)) || (p0 == 46)) || ((decide (48 <= p0)) && (decide (p0 <= 57)))) || (p0 == 183)) (J9 true) ((ES p0 ([(⟨768,879⟩:Am),(⟨8255,8256⟩:Am)])).bind fun x11=>
    J9 x11))
def BZ (p0 : Af) (p1 : Int) : Option (Af ⊕ ((List By8) × Af)) :=
   (slc p0.q p0.at_ (p0.q.length:Int)).bind fun x1=>
   (L_IndexByte x1 p1).bind fun x2=>
  letJ (fun a6:Int=>
    (slc p0.q a6 (IntKind.wrap .i64 (a6 + x2))).bind fun x11=>
   some (.inr (x11,(⟨p0.q,(IntKind.wrap .i64 (a6 + (IntKind.wrap .i64 (x2 + 1))))⟩:Af)))) fun J7=>
  cond (decide (x2 < 0))
   ((Bg (⟨p0.q,(p0.q.length:Int)⟩:Af)).bind fun x=>pnc x (fun x10=>
    some (.inl (⟨p0.q,(p0.q.length:Int)⟩:Af))) fun x9=>
   J7 (p0.q.length:Int))
   (J7 p0.at_)
def BR (p0 : Af) (rec27 : (List By8) × Int -> Option (((List By8) × Int))) : (List By8) × Int -> Option (((List By8) × Int))
  | (a23,a24)=>
  cond (decide (a24 < (a23.length:Int)))
   ((slc a23 a24 (a23.length : Int)).bind fun x30 =>
    (L_DecodeRuneInString x30).bind fun x31=>
    (letJ (fun v35:Bool=>(letJ (fun v39:Bool=>cond v39
        (some (a23,a24))
        (rec27 (a23,(IntKind.wrap .i64 (a24 + x31.2))))) fun J38=>cond v35 (J38 true) ((letJ (fun v42:Bool=>J38 v42) fun J41=>cond (a24 == p0.at_) ((C7 x31.1).bind fun x43=>
         J41 (!x43)) (J41 false))))) fun J34=>cond ((x31.1 == 65533) && (decide (x31.2 < 3))) (J34 true) ((Du x31.1).bind fun x36=>
     J34 (!x36))))
   (some (a23,a24))
def Bm (p0 : Af) : Option (Af ⊕ (Aa × Af)) :=
  letJ (fun v : (List By8) × Int => match v with
   | (a20,a21)=>
   letJ (fun _:Unit=>
     (slc a20 p0.at_ a21).bind fun x52=>
    letJ (fun v:(List By8) × (List By8) × Int=>match v with
     | (a61,a62,a63)=>
     some (.inr ((⟨a61,(⟨[],x52⟩:Aa).Local⟩:Aa),(⟨a62,a63⟩:Af)))) fun J64=>
     (AH (⟨a20,a21⟩:Af) 123).bind fun x65=>
    cond x65.1
     ((BZ x65.2 125).bind fun x=>pnc x (fun x68=>
      some (.inl x68)) fun x67=>
     cond (x67.1 == [])
      ((Bg (⟨x67.2.q,(IntKind.wrap .i64 (x67.2.at_ - 1))⟩:Af)).bind fun x=>pnc x (fun x71=>
       some (.inl (⟨x67.2.q,(IntKind.wrap .i64 (x67.2.at_ - 1))⟩:Af))) fun x70=>
      J64 (x67.1,x67.2.q,(IntKind.wrap .i64 (x67.2.at_ - 1))))
      (J64 (x67.1,x67.2.q,x67.2.at_)))
     (J64 ((⟨[],x52⟩:Aa).URI,x65.2.q,x65.2.at_))) fun J48=>
   cond (a21 == p0.at_)
    ((Bg (⟨a20,a21⟩:Af)).bind fun x=>pnc x (fun x51=>
     some (.inl (⟨a20,a21⟩:Af))) fun x50=>
    J48 ())
    (J48 ())) fun J22=>
   (iter (BR p0) FUEL (p0.q,p0.at_)).bind fun o=>
  J22 o
def CK (p0 : Af) (p1 : Int) (p2 : Bool) (rec44 : (List By8) × Int × Int -> Option (((List By8) × Int × Int))) : (List By8) × Int × Int -> Option (((List By8) × Int × Int))
  | (a39,a40,a41)=>
  letJ (fun a54:Bool=>
   cond a54
    (letJ (fun a70:Bool=>
     cond a70
      (some (a39,a40,a41))
      ((idx a39 a40).bind fun x78=>
      rec44 (a39,(IntKind.wrap .i64 (a40 + 1)),(IntKind.wrap .i64 ((IntKind.wrap .i64 (10 * a41)) + (IntKind.wrap .i64 (IntKind.wrap .u8 ((x78.toNat:Int) - 48)))))))) fun J71=>
    cond (a40 == p0.at_)
     ((idx a39 a40).bind fun x74=>
     cond ((x74.toNat:Int) == 48)
      (J71 (!p2))
      (J71 false))
     (J71 false))
    (some (a39,a40,a41))) fun J55=>
  cond (decide (a40 < (a39.length:Int)))
   (cond (decide (a40 < (IntKind.wrap .i64 (p0.at_ + p1))))
    ((idx a39 a40).bind fun x60=>
    cond (decide (48 <= (x60.toNat:Int)))
     ((idx a39 a40).bind fun x63=>
     J55 (decide ((x63.toNat:Int) <= 57)))
     (J55 false))
    (J55 false))
   (J55 false)
def Bp (p0 : Af) (p1 : Int) (p2 : Bool) : Option (Af ⊕ (Int × Af)) :=
  letJ (fun v:(List By8) × Int × Int=>match v with
   | (a35,a36,a37)=>
   letJ (fun _:Unit=>
    some (.inr (a37,(⟨a35,a36⟩:Af)))) fun J82=>
   cond (a36 == p0.at_)
    ((Bg (⟨a35,a36⟩:Af)).bind fun x=>pnc x (fun x85=>
     some (.inl (⟨a35,a36⟩:Af))) fun x84=>
    J82 ())
    (J82 ())) fun J38=>
   (iter (CK p0 p1 p2) FUEL (p0.q,p0.at_,0)).bind fun o=>
  J38 o
def BU (p0 : Af) : Option (Af ⊕ (Nat × Af)) :=
   (AH p0 45).bind fun x1=>
  cond x1.1
   ((Bp x1.2 7 true).bind fun x=>pnc x (fun x4=>
    some (.inl x4)) fun x3=>
   some (.inr ((Aa3 (i2f x3.1)),x3.2)))
   ((Bp x1.2 7 true).bind fun x=>pnc x (fun x6=>
    some (.inl x6)) fun x5=>
   some (.inr ((i2f x5.1),x5.2)))
def BJ (p0 : Af) : Option (Af ⊕ (Ae × Af)) :=
   (AH p0 64).bind fun x3=>
  cond (!x3.1)
   ((Bp x3.2 6 false).bind fun x=>pnc x (fun x6=>
    some (.inl x6)) fun x5=>
    (AP x5.2 93).bind fun x=>pnc x (fun x8=>
    some (.inl x8)) fun x7=>
   some (.inr ((⟨(⟨91,0,(⟨[],[]⟩:Aa),[],((0,0):Nat × Nat)⟩:Ae).kind,x5.1,(⟨91,0,(⟨[],[]⟩:Aa),[],((0,0):Nat × Nat)⟩:Ae).name,(⟨91,0,(⟨[],[]⟩:Aa),[],((0,0):Nat × Nat)⟩:Ae).value,(⟨91,0,(⟨[],[]⟩:Aa),[],((0,0):Nat × Nat)⟩:Ae).spot⟩:Ae),x7)))
   ((Bm x3.2).bind fun x=>pnc x (fun x10=>
    some (.inl x10)) fun x9=>
   letJ (fun v:(List By8) × Int × Int × (List By8) × (Nat × Nat)=>match v with
    | (a25,a26,a27,a28,a29)=>
     (AP (⟨a25,a26⟩:Af) 93).bind fun x=>pnc x (fun x46=>
     some (.inl x46)) fun x45=>
    some (.inr ((⟨a27,(⟨91,0,(⟨[],[]⟩:Aa),[],((0,0):Nat × Nat)⟩:Ae).k,x9.1,a28,a29⟩:Ae),x45))) fun J30=>
    (AH x9.2 61).bind fun x31=>
   cond x31.1
    ((AP x31.2 39).bind fun x=>pnc x (fun x34=>
     some (.inl x34)) fun x33=>
     (BZ x33 39).bind fun x=>pnc x (fun x36=>
     some (.inl x36)) fun x35=>
    J30 (x35.2.q,x35.2.at_,61,x35.1,(⟨91,0,(⟨[],[]⟩:Aa),[],((0,0):Nat × Nat)⟩:Ae).spot))
    ((AH x31.2 126).bind fun x37=>
    cond x37.1
     ((BU x37.2).bind fun x=>pnc x (fun x40=>
      some (.inl x40)) fun x39=>
      (AP x39.2 44).bind fun x=>pnc x (fun x42=>
      some (.inl x42)) fun x41=>
      (BU x41).bind fun x=>pnc x (fun x44=>
      some (.inl x44)) fun x43=>
     J30 (x43.2.q,x43.2.at_,126,(⟨91,0,(⟨[],[]⟩:Aa),[],((0,0):Nat × Nat)⟩:Ae).value,((x39.1,x43.1):Nat × Nat)))
     (J30 (x37.2.q,x37.2.at_,64,(⟨91,0,(⟨[],[]⟩:Aa),[],((0,0):Nat × Nat)⟩:Ae).value,(⟨91,0,(⟨[],[]⟩:Aa),[],((0,0):Nat × Nat)⟩:Ae).spot))))
def Bt (rec130 : (List By8) × Int × Bool × Bool × (List By8) × (List By8) × (List By8) × (List Ae) -> Option ((Bool × Bool × (List By8) × (List By8) × (List By8) × (List Ae) × (List By8) × Int) ⊕ (Af ⊕ (Ah × Af)))) : (List By8) × Int × Bool × Bool × (List By8) × (List By8) × (List By8) × (List Ae) -> Option ((Bool × Bool × (List By8) × (List By8) × (List By8) × (List Ae) × (List By8) × Int) ⊕ (Af ⊕ (Ah × Af)))
  | (a119,a120,a121,a122,a123,a124,a125,a126)=>
   (AH (⟨a119,a120⟩:Af) 91).bind fun x132=>
  cond x132.1
   ((BJ x132.2).bind fun x=>pnc x (fun x135=>
    some (.inr (.inl x135))) fun x134=>
    (app 80 a126 [x134.1]).bind fun _=>
   rec130 (x134.2.q,x134.2.at_,a121,a122,a123,a124,a125,(a126 ++ [x134.1])))
   (some (.inl (a121,a122,a123,a124,a125,a126,x132.2.q,x132.2.at_)))
def AF (p0 : Af) : Option (Af ⊕ (Ah × Af)) :=
   (AP p0 47).bind fun x=>pnc x (fun x5=>
   some (.inl x5)) fun x4=>
   (AH x4 47).bind fun x6=>
  letJ (fun v : (List By8) × Int × Bool => match v with
   | (a10,a11,a12)=>
   cond a12
    (letJ (fun v:(List By8) × (List By8) × (List By8) × (List By8) × Int=>match v with
     | (a22,a23,a24,a25,a26)=>
     some (.inr ((⟨x6.1,true,a22,(⟨a23,a24⟩:Aa),[]⟩:Ah),(⟨a25,a26⟩:Af)))) fun J27=>
     (AH (⟨a10,a11⟩:Af) 42).bind fun x28=>
    cond x28.1
     (J27 ([42],[],[],x28.2.q,x28.2.at_))
     ((Bm x28.2).bind fun x=>pnc x (fun x31=>
      some (.inl x31)) fun x30=>
     J27 ([],x30.1.URI,x30.1.Local,x30.2.q,x30.2.at_)))
    (letJ (fun v:(List By8) × Int × (List By8) × (List By8) × (List By8)=>match v with
     | (a51,a52,a53,a54,a55)=>
     letJ (fun v:Bool × Bool × (List By8) × (List By8) × (List By8) × (List Ae) × (List By8) × Int=>match v with
      | (a109,a110,a111,a112,a113,a114,a116,a117)=>
      some (.inr ((⟨a109,a110,a111,(⟨a112,a113⟩:Aa),a114⟩:Ah),(⟨a116,a117⟩:Af)))) fun J118=>
      (iter (Bt) FUEL (a51,a52,x6.1,false,a53,a54,a55,[])).bind fun o=>
     match o with
     | .inl o1=>J118 o1
     | .inr o1=>some o1) fun J56=>
     (AH (⟨a10,a11⟩:Af) 42).bind fun x57=>
    cond x57.1
     (J56 (x57.2.q,x57.2.at_,[42],[],[]))
     ((Bm x57.2).bind fun x=>pnc x (fun x60=>
      some (.inl x60)) fun x59=>
      (letJ (fun v64:Bool=>cond (v64 && (((x59.1.Local == [116,101,120,116]) || (x59.1.Local == [99,111,109,109,101,110,116])) || (x59.1.Local == [110,111,100,101])))
        ((AP x59.2 40).bind fun x=>pnc x (fun x73=>
         some (.inl x73)) fun x72=>
         (AP x72 41).bind fun x=>pnc x (fun x75=>
         some (.inl x75)) fun x74=>
        J56 (x74.q,x74.at_,x59.1.Local,x59.1.URI,x59.1.Local))
        (J56 (x59.2.q,x59.2.at_,[],x59.1.URI,x59.1.Local))) fun J63=>cond ((x59.1.URI == (⟨[],x59.1.Local⟩:Aa).URI) && ((x59.1.Local == (⟨[],x59.1.Local⟩:Aa).Local) && true)) ((BK x59.2 40).bind fun x65=>
       J63 x65) (J63 false))))) fun J13=>
  cond (!x6.1)
   ((AH x6.2 64).bind fun x16=>
   J13 (x16.2.q,x16.2.at_,x16.1))
   (J13 (x6.2.q,x6.2.at_,false))
def Fq (p0:Ak) (p1:Ae):Option (Bool):=
  some ((p0.Name.URI == p1.name.URI) && ((p0.Name.Local == p1.name.Local) && true))
def Bc (p0 : List Ak) (p1 : Ak -> Option Bool) (rec10 : Int -> Option (Unit ⊕ Int)) (a7 : Int) : Option (Unit ⊕ Int) :=
  cond (decide (a7 < (p0.length:Int)))
   ((idx p0 a7).bind fun x13=>
    (p1 x13).bind fun x14=>
   cond x14
    (some (.inr a7))
    (rec10 (IntKind.wrap .i64 (a7 + 1))))
   (some (.inl ()))
def AN (p0:List Ak) (p1:Ak -> Option Bool):Option (Int):=
  letJ (fun _:Unit=>
   some (-1:Int)) fun J6=>
   (iter (Bc p0 p1) FUEL 0).bind fun o=>
  match o with
  | .inl o1=>J6 o1
  | .inr o1=>some o1
def FV (p0 : AJ) (rec13 : Int -> Option (Int)) (a10 : Int) : Option (Int) :=
   (letJ (fun v17:Bool=>cond v17
     (rec13 (IntKind.wrap .i64 (a10 + 1)))
     (some a10)) fun J16=>cond (decide (a10 < (p0.s.length:Int))) ((idx p0.s a10).bind fun x18=>
     (L_IndexByte [32,44,9,10,13] (x18.toNat:Int)).bind fun x19=>
    J16 (decide (0 <= x19))) (J16 false))
def FS (p0 : AJ) (rec54 : Int -> Option (Int)) (a51 : Int) : Option (Int) :=
   (letJ (fun v58:Bool=>(letJ (fun v62:Bool=>cond v62
       (rec54 (IntKind.wrap .i64 (a51 + 1)))
       (some a51)) fun J61=>cond v58 ((idx p0.s a51).bind fun x63=>
      J61 (decide ((x63.toNat:Int) <= 57))) (J61 false))) fun J57=>cond (decide (a51 < (p0.s.length:Int))) ((idx p0.s a51).bind fun x59=>
    J57 (decide (48 <= (x59.toNat:Int)))) (J57 false))
def Ek (p0 : AJ) : Option (Int × Int × Int) :=
  letJ (fun a8 : Int =>
   cond (a8 == (p0.s.length : Int))
    (some (0,a8,a8))
    ((idx p0.s a8).bind fun x22=>
     (L_IndexByte [77,109,76,108,72,104,86,118,90,122] (x22.toNat:Int)).bind fun x23=>
    cond (decide (0 <= x23))
     (some (1,a8,(IntKind.wrap .i64 (a8 + 1))))
     (letJ (fun a31:Int=>
      letJ (fun a49:Int=>
       cond ((a49 == a31) || (decide ((IntKind.wrap .i64 (a31 + 7)) < a49)))
        (some (3,a8,a8))
        (some (2,a8,a49))) fun J50=>
       (iter (FS p0) FUEL a31).bind fun o=>
      J50 o) fun J32=>
      (idx p0.s a8).bind fun x33=>
      (letJ (fun v36:Bool=>cond v36
        (J32 (IntKind.wrap .i64 (a8 + 1)))
        (J32 a8)) fun J35=>cond ((x33.toNat:Int) == 45) (J35 true) ((idx p0.s a8).bind fun x37=>
       J35 ((x37.toNat:Int) == 43)))))) fun J9=>
   (iter (FV p0) FUEL p0.at_).bind fun o=>
  J9 o
def DP (p0 : AJ) : Option ((Nat × Int × Bool) × AJ) :=
   (Ek p0).bind fun x1=>
  cond (x1.1 != 2)
   (some (((0:Nat),x1.2.1,false),p0))
   ((slc p0.s x1.2.1 x1.2.2).bind fun x3=>
    (L_Atoi x3).bind fun x4=>
   some (((i2f x4.1),x1.2.1,true),(⟨p0.s,x1.2.2,p0.f,p0.pen,p0.n,p0.open_⟩:AJ)))
def Ft (p0 : AJ) (p1 : Int) : Option (((Nat × Nat) × Int × Bool) × AJ) :=
   (DP p0).bind fun x1=>
  cond (!x1.1.2.2)
   (some ((((0,0):Nat × Nat),x1.1.2.1,false),x1.2))
   (cond (p1 == 72)
    (some ((((x1.1.1,x1.2.pen.2):Nat × Nat),x1.1.2.1,true),x1.2))
    (cond (p1 == 86)
     (some ((((x1.2.pen.1,x1.1.1):Nat × Nat),x1.1.2.1,true),x1.2))
     (cond (p1 == 118)
      ((XS x1.2.pen (((0:Nat),x1.1.1):Nat × Nat)).bind fun x8=>
      some ((x8,x1.1.2.1,true),x1.2))
      (cond (p1 == 104)
       ((XS x1.2.pen ((x1.1.1,(0:Nat)):Nat × Nat)).bind fun x10=>
       some ((x10,x1.1.2.1,true),x1.2))
       ((DP x1.2).bind fun x11=>
       cond (!x11.1.2.2)
        (some ((((0,0):Nat × Nat),(IntKind.wrap .i64 ((-1:Int) - x11.1.2.1)),false),x11.2))
        ((XS ((x1.1.1,(0:Nat)):Nat × Nat) (((0:Nat),x11.1.1):Nat × Nat)).bind fun x15=>
        letJ (fun a19:Nat × Nat=>
         some ((a19,x11.1.2.1,true),x11.2)) fun J20=>
        cond ((p1 == 109) || (p1 == 108))
         ((XS x15 x11.2.pen).bind fun x23=>
         J20 x23)
         (J20 x15)))))))
def IY (p0:Nat):Option (Nat):=
   (L_archTrunc p0).bind fun x1=>
  some x1
def La (p0:Nat):Option (Nat):=
   (L_bits p0).bind fun x1=>
   (L_frombits (TX .u64 x1 9223372036854775808)).bind fun x2=>
  some x2
def G0 (p0 : Nat) : Option (Bool) :=
   (IY p0).bind fun x1=>
   (letJ (fun v4:Bool=>some v4) fun J3=>cond (feq p0 x1) ((La p0).bind fun x5=>
    J3 (fle x5 (4696837146684686336:Nat))) (J3 false))
def Gc (p0 : Nat × Nat) : Option (Bool) :=
   (G0 p0.1).bind fun x1=>
   (letJ (fun v4:Bool=>some v4) fun J3=>cond x1 ((G0 p0.2).bind fun x5=>
    J3 x5) (J3 false))
def FE (p1 : Int) (rec12 : (List By8) × Int × (List Av) × (Nat × Nat) × Int × Bool × Bool -> Option (((Int × Int) × AJ))) : (List By8) × Int × (List Av) × (Nat × Nat) × Int × Bool × Bool -> Option (((Int × Int) × AJ))
  | (a1,a2,a4,a6,a7,a8,a9)=>
   (Ft (⟨a1,a2,a4,a6,a7,a8⟩:AJ) p1).bind fun x14=>
  cond ((!x14.1.2.2) && (a9 || (decide (x14.1.2.1 < 0))))
   (some (((if (IntKind.wrap .i64 ((-1:Int) - x14.1.2.1)) > x14.1.2.1 then (IntKind.wrap .i64 ((-1:Int) - x14.1.2.1)) else x14.1.2.1),37),x14.2))
   (cond (!x14.1.2.2)
    (some ((0,0),x14.2))
    ((Gc x14.1.1).bind fun x22 =>
     (letJ (fun v25:Bool=>cond v25
       (some ((x14.1.2.1,5),x14.2))
       (letJ (fun v:(List Av) × Bool=>match v with
        | (a35,a37)=>
         (lst a35 (IntKind.wrap .i64 ((a35.length:Int) - 1))).bind fun x46=>
         (app 16 x46.Spots [x14.1.1]).bind fun _=>
         (some (List.set a35 (Int.toNat (IntKind.wrap .i64 ((a35.length:Int) - 1))) (⟨(x46.Spots ++ [x14.1.1]),x46.Closed⟩:Av))).bind fun a48=>
        rec12 (x14.2.s,x14.2.at_,a48,x14.1.1,(IntKind.wrap .i64 (x14.2.n + 1)),a37,false)) fun J38=>
       cond (a9 && ((p1 == 77) || (p1 == 109)))
        ((app 32 x14.2.f [(⟨[],false⟩:Av)]).bind fun _=>
         (some (x14.2.f ++ [(⟨[],false⟩:Av)])).bind fun a45=>
        J38 (a45,true))
        (J38 (x14.2.f,x14.2.open_)))) fun J24=>cond (!x22) (J24 true) (J24 (x14.2.n == 500)))))
def Fe (p0:AJ) (p1:Int):Option ((Int × Int) × AJ):=
   (iter (FE p1) FUEL (p0.s,p0.at_,p0.f,p0.pen,p0.n,p0.open_,true)).bind fun o=>
  some o
def Jd (p0 : List By8) (rec14 : (List By8) × Int × (List Av) × (Nat × Nat) × Int × Bool -> Option (((List Av) × Int × Int))) : (List By8) × Int × (List Av) × (Nat × Nat) × Int × Bool -> Option (((List Av) × Int × Int))
  | (a4,a5,a7,a9,a10,a11)=>
   (Ek (⟨a4,a5,a7,a9,a10,a11⟩:AJ)).bind fun x16=>
  cond (x16.1 == 0)
   (some (a7,0,0))
   (cond (x16.1 != 1)
    (some ([],x16.2.1,37))
    ((idx p0 x16.2.1).bind fun x20=>
     (letJ (fun v24:Bool=>cond v24
       (some ([],x16.2.1,37))
       (cond (((x20.toNat:Int) == 90) || ((x20.toNat:Int) == 122))
        ((lst a7 (IntKind.wrap .i64 ((a7.length:Int) - 1))).bind fun x28=>
         (idx x28.Spots 0).bind fun x29=>
         (some (List.set a7 (Int.toNat (IntKind.wrap .i64 ((a7.length:Int) - 1))) (⟨x28.Spots,true⟩:Av))).bind fun a30=>
        rec14 (a4,x16.2.2,a30,x29,a10,false))
        ((Fe (⟨a4,x16.2.2,a7,a9,a10,a11⟩:AJ) (x20.toNat:Int)).bind fun x31=>
        cond (x31.1.2 != 0)
         (some ([],x31.1.1,x31.1.2))
         (rec14 (x31.2.s,x31.2.at_,x31.2.f,x31.2.pen,x31.2.n,x31.2.open_))))) fun J23=>cond (((x20.toNat:Int) != 77) && ((x20.toNat:Int) != 109)) (J23 (!a11)) (J23 false))))
def I2 (p0:List By8):Option ((List Av) × Int × Int):=
   (iter (Jd p0) FUEL (p0,0,[],((0,0):Nat × Nat),0,false)).bind fun o=>
  some o
def CF (p0 : List (Nat × Nat)) (p1 : (Nat × Nat) -> Option Bool) (rec10 : Int -> Option (Unit ⊕ Int)) (a7 : Int) : Option (Unit ⊕ Int) :=
  cond (decide (a7 < (p0.length:Int)))
   ((idx p0 a7).bind fun x13=>
    (p1 x13).bind fun x14=>
   cond x14
    (some (.inr a7))
    (rec10 (IntKind.wrap .i64 (a7 + 1))))
   (some (.inl ()))
def Ba (p0:List (Nat × Nat)) (p1:(Nat × Nat) -> Option Bool):Option (Int):=
  letJ (fun _:Unit=>
   some (-1:Int)) fun J6=>
   (iter (CF p0 p1) FUEL 0).bind fun o=>
  match o with
  | .inl o1=>J6 o1
  | .inr o1=>some o1
def AY (p0:List (Nat × Nat)) (p1:(Nat × Nat) -> Option Bool):Option (Bool):=
   (Ba p0 p1).bind fun x1=>
  some (decide (0 <= x1))
def GQ (p0:Nat × Nat):Option (Bool):=
   (Gc p0).bind fun x1=>
  some (!x1)
def Il (p0 : List Av) (rec17 : Int × Int -> Option (Int ⊕ Bool)) : Int × Int -> Option (Int ⊕ Bool)
  | (a13,a14)=>
  cond (decide (a14 < (p0.length:Int)))
   ((idx p0 a14).bind fun x20=>
    (letJ (fun v24:Bool=>cond v24
      (some (.inr false))
      (rec17 ((IntKind.wrap .i64 (a13 + (x20.Spots.length:Int))),(IntKind.wrap .i64 (a14 + 1))))) fun J23=>cond ((x20.Spots.length:Int) == 0) (J23 true) ((AY x20.Spots GQ).bind fun x25=>
     J23 x25)))
   (some (.inl a13))
def Ik (p0:List Av):Option (Bool):=
  letJ (fun a11:Int=>
   some (decide (a11 <= 500))) fun J12=>
   (iter (Il p0) FUEL (0,0)).bind fun o=>
  match o with
  | .inl o1=>J12 o1
  | .inr o1=>some o1
def H1 (p0:Nat × Nat) (p1:Nat × Nat):Option (Nat):=
   (Afu ((p0.1,(Aa3 p0.2)):Nat × Nat) p1).bind fun x1=>
  some x1.2
def Hu (p1 : Nat × Nat) (x166 : Av) (rec172 : Int × Int -> Option (Int ⊕ (Int × Bool × Int))) : Int × Int -> Option (Int ⊕ (Int × Bool × Int))
  | (a168,a169)=>
  cond (decide (a169 < (x166.Spots.length:Int)))
   (letJ (fun a196:Int=>
    rec172 (a196,(IntKind.wrap .i64 (a169 + 1)))) fun J197=>
    (idx x166.Spots a169).bind fun x198=>
   cond (!x166.Closed)
    (some (.inl a168))
    ((Abh x198 p1).bind fun x200 =>
     (nzI (x166.Spots.length:Int)).bind fun _=>
     (idx x166.Spots (Int.tmod (IntKind.wrap .i64 (a169 + 1)) (x166.Spots.length:Int))).bind fun x201=>
     (Abh x201 p1).bind fun x202=>
     (H1 x200 x202).bind fun x203=>
     (letJ (fun v206 : Bool => (letJ (fun v210 : Bool => cond v210
         (some (.inr (0,true,0)))
         (cond (((fle x200.2 (0:Nat)) && (fgt x202.2 (0:Nat))) && (fgt x203 (0:Nat)))
          (J197 (IntKind.wrap .i64 (a168 + 1)))
          (cond (((fgt x200.2 (0:Nat)) && (fle x202.2 (0:Nat))) && (flt x203 (0:Nat)))
           (J197 (IntKind.wrap .i64 (a168 - 1)))
           (J197 a168)))) fun J209=>cond v206 ((PD x200.2 x202.2).bind fun x211=>
        J209 (fle x211 (0:Nat))) (J209 false))) fun J205=>cond (feq x203 (0:Nat)) ((PD x200.1 x202.1).bind fun x207=>
      J205 (fle x207 (0:Nat))) (J205 false))))
   (some (.inl a168))
def HO (p0 : List Av) (p1 : Nat × Nat) (rec113 : Int × Int -> Option (Int ⊕ (Int × Bool × Int))) : Int × Int -> Option (Int ⊕ (Int × Bool × Int))
  | (a109,a110)=>
  cond (decide (a110 < (p0.length:Int)))
   (letJ (fun a164:Int=>
    rec113 (a164,(IntKind.wrap .i64 (a110 + 1)))) fun J165=>
    (idx p0 a110).bind fun x166=>
    (iter (Hu p1 x166) FUEL (a109,0)).bind fun o=>
   match o with
   | .inl o1=>J165 o1
   | .inr o1=>some (.inr o1))
   (some (.inl a109))
def Hm (p0 : List Av) (p1 : Nat × Nat) : Option (Int × Bool × Int) :=
   (Ik p0).bind fun x1=>
   (letJ (fun v4:Bool=>cond v4
     (some (0,false,1))
     (letJ (fun a107:Int=>
      some (a107,false,0)) fun J108=>
      (iter (HO p0 p1) FUEL (0,0)).bind fun o=>
     match o with
     | .inl o1=>J108 o1
     | .inr o1=>some o1)) fun J3=>cond (!x1) (J3 true) ((Gc p1).bind fun x5=>
    J3 (!x5)))
def D6 (p0 : Ae) (p1 : Ac) : Option (Bool) :=
   (AN p1.Attrs (fun z0=>Fq z0 p0)).bind fun x1=>
  cond ((decide (x1 < 0)) || (p1.Kind != 2))
   (some false)
   ((idx p1.Attrs x1).bind fun x4=>
   cond (p0.kind == 61)
    (some (x4.Value == p0.value))
    (cond (p0.kind == 126)
     ((I2 x4.Value).bind fun x7=>
      (Hm x7.1 p0.spot).bind fun x8=>
     some (((x7.2.2 == 0) && (x8.2.2 == 0)) && (x8.2.1 || (x8.1 != 0))))
     (some true)))
def DO (p0:Ag) (p1:Ae):Option (Bool):=
   (D6 p1 p0.node).bind fun x1=>
  some (!x1)
def CO (p0 : Ah) (p1 : Ac) : Option (Bool) :=
  cond (p0.test == [42])
   (some (p1.Kind == 2))
   (cond (p0.test == [116,101,120,116])
    (some (p1.Kind == 3))
    (cond (p0.test == [99,111,109,109,101,110,116])
     (some (p1.Kind == 4))
     (cond (p0.test == [110,111,100,101])
      (some true)
      (some ((p1.Kind == 2) && ((p1.Name.URI == p0.name.URI) && ((p1.Name.Local == p0.name.Local) && true)))))))
def A7 (p0 : List Ag) (p1 : Ag -> Option Bool) (rec10 : Int -> Option (Unit ⊕ Int)) (a7 : Int) : Option (Unit ⊕ Int) :=
  cond (decide (a7 < (p0.length:Int)))
   ((idx p0 a7).bind fun x13=>
    (p1 x13).bind fun x14=>
   cond x14
    (some (.inr a7))
    (rec10 (IntKind.wrap .i64 (a7 + 1))))
   (some (.inl ()))
def AV (p0:List Ag) (p1:Ag -> Option Bool):Option (Int):=
  letJ (fun _:Unit=>
   some (-1:Int)) fun J6=>
   (iter (A7 p0 p1) FUEL 0).bind fun o=>
  match o with
  | .inl o1=>J6 o1
  | .inr o1=>some o1
def A4 (p1 : Ag -> Option Bool) (rec33 : (List Ag) × Int × Int -> Option (((List Ag) × Int))) : (List Ag) × Int × Int -> Option (((List Ag) × Int))
  | (a27,a29,a30)=>
  cond (decide (a30 < (a27.length:Int)))
   (letJ (fun v:(List Ag) × Int=>match v with
    | (a42,a44)=>
    rec33 (a42,a44,(IntKind.wrap .i64 (a30 + 1)))) fun J45=>
    (idx a27 a30).bind fun x46=>
    (p1 x46).bind fun x48=>
   cond (!x48)
    ((idx a27 a29).bind fun x50=>
     (some (List.set a27 (Int.toNat a29) x46)).bind fun a51=>
    J45 (a51,(IntKind.wrap .i64 (a29 + 1))))
    (J45 (a27,a29)))
   (some (a27,a29))
def Be (p0 : List Ag) (p1 : Ag -> Option Bool) : Option (List Ag) :=
   (AV p0 p1).bind fun x1=>
  cond (x1 == (-1:Int))
   (some p0)
   (letJ (fun v:(List Ag) × Int=>match v with
    | (a23,a25)=>
     (slc a23 a25 (a23.length:Int)).bind fun x52=>
     (ltL a25 (List.length a23)).bind fun _=>
    some (List.take (Int.toNat a25) a23)) fun J26=>
    (iter (A4 p1) FUEL (p0,x1,(IntKind.wrap .i64 (x1 + 1)))).bind fun o=>
   J26 o)
def Jb:List Int -> List Int -> Int
  | [],[]=>0
  | [],_ :: _=>-1
  | _ :: _,[]=>1
  | x :: a,y :: b=>if x < y then -1 else if y < x then 1 else Jb a b
def JM (a:Ag):Bool:=decide (a.path.length <= 4611686018427387904)
def Gl (a b:Ag):Int:=Jb a.path b.path
def B9 (p0 : List By8) (rec48 : (List Ah) × (List By8) × Int -> Option (((List Ah)) ⊕ (Int ⊕ ((List Ah) × Int × Int)))) : (List Ah) × (List By8) × Int -> Option (((List Ah)) ⊕ (Int ⊕ ((List Ah) × Int × Int)))
  | (a42,a44,a45)=>
   (letJ (fun v52 : Bool => cond v52
     (letJ (fun _:Unit=>
       (AF (⟨a44,a45⟩:Af)).bind fun x=>pnc x (fun x70=>
       some (.inr (.inl x70.at_))) fun x69=>
       (app 80 a42 [x69.1]).bind fun _=>
      rec48 ((a42 ++ [x69.1]),x69.2.q,x69.2.at_)) fun J61=>
      (letJ (fun v64:Bool=>cond v64
        ((Bg (⟨a44,a45⟩:Af)).bind fun x=>pnc x (fun x68=>
         some (.inr (.inl a45))) fun x67=>
        J61 ())
        (J61 ())) fun J63=>cond (decide (0 < (a42.length:Int))) ((idx a42 (IntKind.wrap .i64 ((a42.length:Int) - 1))).bind fun x65=>
       J63 x65.attr) (J63 false)))
     (some (.inl a42))) fun J51=>cond ((a42.length:Int) == 0) (J51 true) (J51 (decide (a45 < (p0.length:Int)))))
def FO (p0 : List By8) : Option (Int ⊕ ((List Ah) × Int × Int)) :=
  letJ (fun a39:List Ah=>
   cond (decide (20 < (a39.length:Int)))
    (some (.inr ([],0,5)))
    (some (.inr (a39,0,0)))) fun J41=>
   (iter (B9 p0) FUEL ([],(⟨p0,0⟩:Af).q,(⟨p0,0⟩:Af).at_)).bind fun o=>
  match o with
  | .inl o1=>J41 o1
  | .inr o1=>some o1
def rdO:Int ⊕ ((List Ah) × Int × Int) -> (List Ah) × Int × Int
  | .inl a=>([],a,36)
  | .inr r=>r
def Dj (p0:List By8):Option ((List Ah) × Int × Int):=(FO p0).bind fun x=>some (rdO x)
def Ed (p0 : Ah) (p1 : Ag) (rec40 : (List Ag) × Int -> Option (((List Ag)))) : (List Ag) × Int -> Option (((List Ag)))
  | (a36,a37)=>
  cond (decide (a37 < (p1.node.Kids.length:Int)))
   (letJ (fun a56:List Ag=>
    rec40 (a56,(IntKind.wrap .i64 (a37 + 1)))) fun J57=>
    (idx p1.node.Kids a37).bind fun x58=>
    (CO p0 x58).bind fun x60=>
   cond x60
    ((app 8 [] p1.path).bind fun x64=>
     (app 8 x64 [a37]).bind fun _=>
     (app 128 a36 [(⟨(x64 ++ [a37]),x58⟩:Ag)]).bind fun _=>
     (some (a36 ++ [(⟨(x64 ++ [a37]),x58⟩:Ag)])).bind fun a69=>
    J57 a69)
    (J57 a36))
   (some a36)
def D7 (p0 : Ah) (rec102 : (List Ag) × Int -> Option (((List Ag)) ⊕ ((List Ag)))) : (List Ag) × Int -> Option (((List Ag)) ⊕ ((List Ag)))
  | (a98,a99)=>
  cond (decide (a99 < (p0.conds.length:Int)))
   (letJ (fun a115:List Ag=>
    rec102 (a115,(IntKind.wrap .i64 (a99 + 1)))) fun J116=>
    (idx p0.conds a99).bind fun x117=>
   cond (x117.kind != 91)
    ((Be a98 (fun z0=>DO z0 x117)).bind fun x122=>
    J116 x122)
    (cond (decide ((a98.length:Int) < x117.k))
     (some (.inr []))
     ((Afy a98 (IntKind.wrap .i64 (x117.k - 1)) x117.k).bind fun x125=>
     J116 x125)))
   (some (.inl a98))
def Dw (p0 : Ah) (p1 : Ag) : Option ((List Ag)) :=
  letJ (fun a33:List Ag=>
   letJ (fun a95:List Ag=>
    some a95) fun J96=>
    (iter (D7 p0) FUEL (a33,0)).bind fun o=>
   match o with
   | .inl o1=>J96 o1
   | .inr o1=>some o1) fun J34=>
   (iter (Ed p0 p1) FUEL ([],0)).bind fun o=>
  J34 o
def DR:Option (Ac):=
   (idx [(⟨2,(⟨[],[98]⟩:Aa),[],[],[]⟩:Ac),(⟨2,(⟨[],[98]⟩:Aa),[],[],[]⟩:Ac)] 0).bind fun x8=>
   (some (List.set ([(⟨2,(⟨[],[98]⟩:Aa),[],[],[]⟩:Ac),(⟨2,(⟨[],[98]⟩:Aa),[],[],[]⟩:Ac)]) (Int.toNat 0) (⟨x8.Kind,x8.Name,[(⟨(⟨[],[120]⟩:Aa),[49]⟩:Ak)],x8.Kids,x8.Text⟩:Ac))).bind fun a9=>
   (idx a9 1).bind fun x10=>
   (some (List.set a9 (Int.toNat 1) (⟨x10.Kind,x10.Name,[(⟨(⟨[],[100]⟩:Aa),[77,48,32,48,32,52,32,48,32,52,32,52,90]⟩:Ak)],x10.Kids,x10.Text⟩:Ac))).bind fun a11=>
  some (⟨1,(⟨[],[]⟩:Aa),[],[(⟨2,(⟨[],[97]⟩:Aa),[],a11,[]⟩:Ac)],[]⟩:Ac)
def Fl (p0 : Ac) (rec0 : Ac × (List Ac) -> Option ((List Ac))) (rec19 : (List Ac) × Int -> Option (((List Ac)))) : (List Ac) × Int -> Option (((List Ac)))
  | (a14,a16)=>
  cond (decide (a16 < (p0.Kids.length:Int)))
   ((idx p0.Kids a16).bind fun x22=>
    (rec0 (x22,a14)).bind fun x24=>
   rec19 (x24,(IntKind.wrap .i64 (a16 + 1))))
   (some a14)
def C6 (rec0:Ac × (List Ac) -> Option ((List Ac))):Ac × (List Ac) -> Option ((List Ac))
  | (p0,p1)=>
   (app 104 p1 [p0]).bind fun _=>
  letJ (fun a11:List Ac=>
   some a11) fun J13=>
   (iter (Fl p0 rec0) FUEL ((p1 ++ [p0]),0)).bind fun o=>
  J13 o
def FX (p0:Ac) (p1:List Ac):Option ((List Ac)):=iter C6 FUEL (p0,p1)
def Bd (p0 : List Ac) (p1 : Ac -> Option Bool) (rec10 : Int -> Option (Unit ⊕ Int)) (a7 : Int) : Option (Unit ⊕ Int) :=
  cond (decide (a7 < (p0.length:Int)))
   ((idx p0 a7).bind fun x13=>
    (p1 x13).bind fun x14=>
   cond x14
    (some (.inr a7))
    (rec10 (IntKind.wrap .i64 (a7 + 1))))
   (some (.inl ()))
def A5 (p0:List Ac) (p1:Ac -> Option Bool):Option (Int):=
  letJ (fun _:Unit=>
   some (-1:Int)) fun J6=>
   (iter (Bd p0 p1) FUEL 0).bind fun o=>
  match o with
  | .inl o1=>J6 o1
  | .inr o1=>some o1
def An (p0:List Ac) (p1:Ac -> Option Bool):Option (Bool):=
   (A5 p0 p1).bind fun x1=>
  some (decide (0 <= x1))
def FY (p0 : Int) (p1 : Int) : Option (Bool) :=
  cond (p0 == 1)
   (some (((p1 == 2) || (p1 == 4)) || (p1 == 5)))
   (cond (p0 == 2)
    (some ((decide (2 <= p1)) && (decide (p1 <= 5))))
    (some false))
def Dx (p0:Ac) (p1:Ac):Option (Bool):=
   (FY p1.Kind p0.Kind).bind fun x1=>
  some (!x1)
def D8 (p0 : Ac) : Option (Bool) :=
  letJ (fun a9:Bool=>
    (letJ (fun v20:Bool=>some v20) fun J19=>cond a9 (J19 true) ((An p0.Kids (fun z0=>Dx z0 p0)).bind fun x21=>
     J19 x21))) fun J10=>
  cond (p0.Kind == 1)
   (J10 ((((p0.Kind != 2) && (decide (0 < (p0.Attrs.length:Int)))) || (!((p0.Name.URI == (⟨[],[]⟩:Aa).URI) && ((p0.Name.Local == (⟨[],[]⟩:Aa).Local) && true)))) || (!(p0.Text == []))))
   (cond (p0.Kind == 2)
    (J10 (!(p0.Text == [])))
    (cond (p0.Kind == 5)
     (J10 (((p0.Kind != 2) && (decide (0 < (p0.Attrs.length:Int)))) || (!(p0.Name.URI == []))))
     (J10 (((p0.Kind != 2) && (decide (0 < (p0.Attrs.length:Int)))) || (!((p0.Name.URI == (⟨[],[]⟩:Aa).URI) && ((p0.Name.Local == (⟨[],[]⟩:Aa).Local) && true)))))))
def C5 (rec0:Ac × Int -> Option Bool) (p0:Ac) (p1:Int):Option (Bool):=
   (rec0 (p0,p1)).bind fun x1=>
  some x1
def Ci (rec0 : Ac × Int -> Option (Bool)) : Ac × Int -> Option (Bool)
  | (p0,p1)=>
  letJ (fun a4:Int=>
    (An p0.Kids (fun z0=>C5 rec0 z0 a4)).bind fun x10=>
   some x10) fun J5=>
  cond (p0.Kind == 2)
   (cond (decide (32 < p1))
    (some true)
    (J5 (IntKind.wrap .i64 (p1 + 1))))
   (J5 p1)
def Ib (p0:Ac) (p1:Int):Option (Bool):=iter Ci FUEL (p0,p1)
def Ey (p0:Ak):Option (Bool):=
  some (decide (8192 < (p0.Value.length:Int)))
def Az (p0:List Ak) (p1:Ak -> Option Bool):Option (Bool):=
   (AN p0 p1).bind fun x1=>
  some (decide (0 <= x1))
def DQ (p0 : Ac) : Option (Bool) :=
   (letJ (fun v4:Bool=>some v4) fun J3=>cond ((decide (64 < (p0.Attrs.length:Int))) || (decide (8192 < (p0.Text.length:Int)))) (J3 true) ((Az p0.Attrs Ey).bind fun x5=>
    J3 x5))
def C8 (p0 : List By8) (rec23 : Nat -> Option (Unit ⊕ Bool)) (a20 : Nat) : Option (Unit ⊕ Bool) :=
  cond (decide (a20 < p0.length))
   ((letJ (fun v27:Bool=>(letJ (fun v31:Bool=>cond v31
        (some (.inr false))
        (rec23 (a20 + wdS p0 a20))) fun J30=>cond v27 (J30 true) ((Du (rnS p0 a20)).bind fun x32=>
       J30 (!x32)))) fun J26=>cond (((a20:Nat):Int) == 0) ((C7 (rnS p0 a20)).bind fun x28=>
     J26 (!x28)) (J26 false)))
   (some (.inl ()))
def EN (p0 : List By8) : Option (Bool) :=
   (letJ (fun v4:Bool=>cond v4
     (some false)
     (letJ (fun _:Unit=>
      some true) fun J18=>
      (iter (C8 p0) FUEL (0:Nat)).bind fun o=>
     match o with
     | .inl o1=>J18 o1
     | .inr o1=>some o1)) fun J3=>cond ((p0 == []) || (decide (100 < (p0.length:Int)))) (J3 true) ((L_ValidString p0).bind fun x5=>
    J3 (!x5)))
def Eo (p0 : Int) : Option (Bool) :=
   (letJ (fun v5:Bool=>some v5) fun J4=>cond (((p0 == 9) || (p0 == 10)) || (p0 == 13)) (J4 true) ((ES p0 ([(⟨32,55295⟩:Am),(⟨57344,65533⟩:Am),(⟨65536,1114111⟩:Am)])).bind fun x6=>
    J4 x6))
def Fv (p0 : List By8) (p1 : Int) : Option (Int × Int × Int) :=
  cond ((decide (p1 < 0)) || (decide ((p0.length:Int) <= p1)))
   (some (0,0,1))
   ((slc p0 p1 (p0.length:Int)).bind fun x3=>
    (L_DecodeRune x3).bind fun x4=>
   cond ((x4.1 == 65533) && (decide (x4.2 < 3)))
    (some (0,0,20))
    ((Eo x4.1).bind fun x7=>
    cond (!x7)
     (some (0,0,21))
     (some (x4.1,(IntKind.wrap .i64 (p1 + x4.2)),0))))
def DG (p0 : List By8) (rec9 : Int -> Option (Unit ⊕ (Int × Int))) (a6 : Int) : Option (Unit ⊕ (Int × Int)) :=
  cond (decide (a6 < (p0.length:Int)))
   ((Fv p0 a6).bind fun x12=>
   cond (x12.2.2 != 0)
    (some (.inr (a6,x12.2.2)))
    (rec9 x12.2.1))
   (some (.inl ()))
def Ee (p0:List By8):Option (Int × Int):=
  letJ (fun _:Unit=>
   some (0,0)) fun J5=>
   (iter (DG p0) FUEL 0).bind fun o=>
  match o with
  | .inl o1=>J5 o1
  | .inr o1=>some o1
def EZ (p0:List By8):Option (Bool):=
   (Ee p0).bind fun x1=>
  some (x1.2 != 0)
def CN (p0 : Aa) : Option (Bool) :=
   (EN p0.Local).bind fun x1=>
   (letJ (fun v5:Bool=>some (v5 || (p0.URI == [104,116,116,112,58,47,47,119,119,119,46,119,51,46,111,114,103,47,50,48,48,48,47,120,109,108,110,115,47]))) fun J4=>cond ((!x1) || (decide (100 < (p0.URI.length:Int)))) (J4 true) ((EZ p0.URI).bind fun x6=>
    J4 x6))
def Dy (p0:Ak):Option (Bool):=
   (CN p0.Name).bind fun x1=>
  some (x1 || ((p0.Name.URI == (⟨[],[120,109,108,110,115]⟩:Aa).URI) && ((p0.Name.Local == (⟨[],[120,109,108,110,115]⟩:Aa).Local) && true)))
def BC (a94:Int) (a95:Int) (rec112:Int -> Option (Int)) (a109:Int):Option (Int):=
  cond ((a109 != a94) && (decide (a109 < a95)))
   ((L_SimpleFold a109).bind fun x116=>
   rec112 x116)
   (some a109)
def AL (x52 : List By8) (rec87 : (List By8) × Nat -> Option (((List By8)) ⊕ Bool)) : (List By8) × Nat -> Option (((List By8)) ⊕ Bool)
  | (a83,a84)=>
  cond (decide (a84 < x52.length))
   (cond ((a83.length : Int) == 0)
    (some (.inr false))
    ((L_DecodeRuneInString a83).bind fun x90=>
     (slc a83 x90.2 (a83.length:Int)).bind fun x91=>
    cond (x90.1 == (rnS x52 a84))
     (rec87 (x91,(a84 + wdS x52 a84)))
     (letJ (fun v:Int × Int=>match v with
      | (a94,a95)=>
      cond (decide (a95 < 128))
       (cond (((decide (65 <= a94)) && (decide (a94 <= 90))) && (a95 == (IntKind.wrap .i32 ((IntKind.wrap .i32 (a94 + 97)) - 65))))
        (rec87 (x91,(a84 + wdS x52 a84)))
        (some (.inr false)))
       ((L_SimpleFold a94).bind fun x102=>
       letJ (fun a107:Int=>
        cond (a107 == a95)
         (rec87 (x91,(a84 + wdS x52 a84)))
         (some (.inr false))) fun J108=>
        (iter (BC a94 a95) FUEL x102).bind fun o=>
       J108 o)) fun J96=>
     cond (decide (x90.1 < (rnS x52 a84)))
      (J96 (x90.1,(rnS x52 a84)))
      (J96 ((rnS x52 a84),x90.1)))))
   (some (.inl a83))
def AM (p0 : List By8) (p1 : List By8) (rec146 : Int -> Option (Unit ⊕ Int ⊕ Bool)) (a143 : Int) : Option (Unit ⊕ Int ⊕ Bool) :=
  cond (decide (a143 < (if (p1.length : Int) < (p0.length : Int) then (p1.length : Int) else (p0.length : Int))))
   (letJ (fun _:Unit=>
    rec146 (IntKind.wrap .i64 (a143 + 1))) fun J160=>
    (idx p0 a143).bind fun x161=>
    (idx p1 a143).bind fun x162=>
   cond (decide (128 <= (ior .u8 (x161.toNat:Int) (x162.toNat:Int))))
    (some (.inr (.inl a143)))
    (cond ((x162.toNat:Int) == (x161.toNat:Int))
     (J160 ())
     (letJ (fun v:Int × Int=>match v with
      | (a166,a167)=>
      cond (((decide (65 <= a166)) && (decide (a166 <= 90))) && (a167 == (IntKind.wrap .u8 ((IntKind.wrap .u8 (a166 + 97)) - 65))))
       (J160 ())
       (some (.inr (.inr false)))) fun J168=>
     cond (decide ((x162.toNat:Int) < (x161.toNat:Int)))
      (J168 ((x162.toNat:Int),(x161.toNat:Int)))
      (J168 ((x161.toNat:Int),(x162.toNat:Int))))))
   (some (.inl ()))
def Ck (p0 : List By8) (p1 : List By8) : Option (Bool) :=
  letJ (fun a49:Int=>
    (slc p0 a49 (p0.length:Int)).bind fun x52=>
    (slc p1 a49 (p1.length:Int)).bind fun x53=>
   letJ (fun a80:List By8=>
    some ((a80.length:Int) == 0)) fun J81=>
    (iter (AL x52) FUEL (x53,(0:Nat))).bind fun o=>
   match o with
   | .inl o1=>J81 o1
   | .inr o1=>some o1) fun J50=>
  letJ (fun _:Unit=>
   some ((p0.length:Int) == (p1.length:Int))) fun J142=>
   (iter (AM p0 p1) FUEL 0).bind fun o=>
  match o with
  | .inl o1=>J142 o1
  | .inr (.inl o1)=>J50 o1
  | .inr (.inr o1)=>some o1
def B7 (p0 : Ac) : Option (Bool) :=
  cond (p0.Kind == 2)
   ((CN p0.Name).bind fun x2=>
    (letJ (fun v5:Bool=>some v5) fun J4=>cond x2 (J4 true) ((Az p0.Attrs Dy).bind fun x6=>
     J4 x6)))
   (cond (p0.Kind == 5)
    ((EN p0.Name.Local).bind fun x8=>
     (letJ (fun v11:Bool=>some v11) fun J10=>cond (!x8) (J10 true) ((Ck p0.Name.Local [120,109,108]).bind fun x12=>
      J10 x12)))
    (some false))
def Ea (p0:Ak):Option (Bool):=
   (EZ p0.Value).bind fun x1=>
  some x1
def CH (p0 : Ac) : Option (Bool) :=
   (EZ p0.Text).bind fun x1=>
   (letJ (fun v4:Bool=>some v4) fun J3=>cond x1 (J3 true) ((Az p0.Attrs Ea).bind fun x5=>
    J3 x5))
def DU (p0:List By8):Option (Bool):=
  some (!(p0 == p0))
def CM (p0 : List By8) (p1 : List By8) : Option (Int) :=
   (DU p0).bind fun x1=>
   (DU p1).bind fun x2=>
  cond x1
   (cond x2
    (some 0)
    (some (-1:Int)))
   (cond x2
    (some 1)
    (cond (Op.bytesLess p0 p1)
     (some (-1:Int))
     (cond (!(Op.bytesLess p0 p1 || p0 == p1))
      (some 1)
      (some 0))))
def B5 (p0 : List Int) (rec9 : Int -> Option (Unit ⊕ Int)) (a6 : Int) : Option (Unit ⊕ Int) :=
  cond (decide (a6 < (p0.length:Int)))
   ((idx p0 a6).bind fun x12=>
   cond (x12 != 0)
    (some (.inr x12))
    (rec9 (IntKind.wrap .i64 (a6 + 1))))
   (some (.inl ()))
def Gg (p0:List Int):Option (Int):=
  letJ (fun _:Unit=>
   some 0) fun J5=>
   (iter (B5 p0) FUEL 0).bind fun o=>
  match o with
  | .inl o1=>J5 o1
  | .inr o1=>some o1
def Fx (p0:Aa) (p1:Aa):Option (Int):=
   (CM p0.URI p1.URI).bind fun x1=>
   (CM p0.Local p1.Local).bind fun x2=>
   (Gg ([x1,x2])).bind fun x3=>
  some x3
def B6 (p0 : Ac) (rec19 : Int -> Option (Unit ⊕ Bool)) (a16 : Int) : Option (Unit ⊕ Bool) :=
  cond (decide (a16 < (p0.Attrs.length:Int)))
   (letJ (fun a27:Bool=>
    cond a27
     (some (.inr true))
     (rec19 (IntKind.wrap .i64 (a16 + 1)))) fun J28=>
   cond (decide (0 < a16))
    ((idx p0.Attrs (IntKind.wrap .i64 (a16 - 1))).bind fun x31=>
     (idx p0.Attrs a16).bind fun x32=>
     (Fx x31.Name x32.Name).bind fun x33=>
    J28 (decide (0 <= x33)))
    (J28 false))
   (some (.inl ()))
def BF (p0:Ac):Option (Bool):=
  letJ (fun _:Unit=>
   some false) fun J15=>
   (iter (B6 p0) FUEL 0).bind fun o=>
  match o with
  | .inl o1=>J15 o1
  | .inr o1=>some o1
def CJ (p0 : List By8) (p1 : List By8) : Option (Bool) :=
   (letJ (fun v3:Bool=>some v3) fun J2=>cond (decide ((p1.length:Int) <= (p0.length:Int))) ((slc p0 (IntKind.wrap .i64 ((p0.length:Int) - (p1.length:Int))) (p0.length:Int)).bind fun x4=>
    J2 (x4 == p1)) (J2 false))
def Co (p0:List By8) (p1:List By8):Option (Bool):=
   (CJ p0 p1).bind fun x1=>
  some x1
def B8 (p0 : Ac) (rec15 : Int -> Option (Unit ⊕ Bool)) (a12 : Int) : Option (Unit ⊕ Bool) :=
  cond (decide (a12 < (p0.Kids.length:Int)))
   ((idx p0.Kids a12).bind fun x18=>
    (letJ (fun v23:Bool=>cond v23
      (some (.inr true))
      (rec15 (IntKind.wrap .i64 (a12 + 1)))) fun J22=>cond ((decide (0 < a12)) && (x18.Kind == 3)) ((idx p0.Kids (IntKind.wrap .i64 (a12 - 1))).bind fun x24=>
     J22 (x24.Kind == 3)) (J22 false)))
   (some (.inl ()))
def BW (p0 : Ac) : Option (Bool) :=
  letJ (fun _ : Unit =>
   cond (p0.Kind == 3)
    (some (p0.Text == []))
    (cond (p0.Kind == 4)
     ((L_Contains p0.Text [45,45]).bind fun x28=>
      (letJ (fun v31:Bool=>(letJ (fun v35:Bool=>some v35) fun J34=>cond v31 (J34 true) ((L_Contains p0.Text [13]).bind fun x36=>
         J34 x36))) fun J30=>cond x28 (J30 true) ((Co p0.Text [45]).bind fun x32=>
       J30 x32)))
     (cond (p0.Kind == 5)
      (letJ (fun a45:Bool=>
       some a45) fun J46=>
       (L_Contains p0.Text [63,62]).bind fun x47=>
      cond x47
       (J46 true)
       ((L_Contains p0.Text [13]).bind fun x50=>
       cond x50
        (J46 true)
        ((L_TrimLeft p0.Text [32,9,10]).bind fun x53=>
        J46 (!(p0.Text == x53)))))
      (some false)))) fun J11=>
   (iter (B8 p0) FUEL 0).bind fun o=>
  match o with
  | .inl o1=>J11 o1
  | .inr o1=>some o1
def BH (p0 : Ac) (rec40 : Int × Int -> Option (Int)) : Int × Int -> Option (Int)
  | (a36,a37)=>
  cond (decide (a37 < (p0.Kids.length:Int)))
   (letJ (fun a46:Int=>
    rec40 (a46,(IntKind.wrap .i64 (a37 + 1)))) fun J47=>
    (idx p0.Kids a37).bind fun x48=>
   cond (x48.Kind == 2)
    (J47 (IntKind.wrap .i64 (a36 + 1)))
    (J47 a36))
   (some a36)
def Cv (p0 : Ac) : Option (Int) :=
   (FX p0 ([]:List Ac)).bind fun x1=>
   (letJ (fun v6 : Bool => cond v6
     (some 33)
     ((Ib p0 0).bind fun x9=>
     cond x9
      (some 31)
      ((letJ (fun v13 : Bool => cond v13
         (some 5)
         ((An x1 B7).bind fun x16=>
         cond x16
          (some 24)
          ((An x1 CH).bind fun x18=>
          cond x18
           (some 21)
           ((An x1 BF).bind fun x20=>
           cond x20
            (some 34)
            ((An x1 BW).bind fun x22=>
            cond x22
             (some 32)
             (letJ (fun a34:Int=>
              cond (a34 != 1)
               (some 30)
               (some 0)) fun J35=>
              (iter (BH p0) FUEL (0,0)).bind fun o=>
             J35 o)))))) fun J12=>cond (decide (2000 < (IntKind.wrap .i64 ((x1.length:Int) - 1)))) (J12 true) ((An x1 DQ).bind fun x14=>
        J12 x14))))) fun J5=>cond (p0.Kind != 1) (J5 true) ((An x1 D8).bind fun x7=>
    J5 x7))
def Ec (p1 : Ah) (x100 : Ag) (rec109 : (List Al) × Int -> Option (((List Al)))) : (List Al) × Int -> Option (((List Al)))
  | (a104,a106)=>
  cond (decide (a106 < (x100.node.Attrs.length:Int)))
   (letJ (fun a120:List Al=>
    rec109 (a120,(IntKind.wrap .i64 (a106 + 1)))) fun J122=>
    (idx x100.node.Attrs a106).bind fun x123=>
   cond ((p1.test == [42]) || ((x123.Name.URI == p1.name.URI) && ((x123.Name.Local == p1.name.Local) && true)))
    ((L_CloneInts x100.path).bind fun x129=>
     (app 64 a104 [(⟨x129,true,x123.Name⟩:Al)]).bind fun _=>
    J122 (a104 ++ [(⟨x129,true,x123.Name⟩:Al)]))
    (J122 a104))
   (some a104)
def ER (p0 : List Ag) (p1 : Ah) (rec68 : (List Al) × Int -> Option (((List Al)))) : (List Al) × Int -> Option (((List Al)))
  | (a63,a65)=>
  cond (decide (a65 < (p0.length:Int)))
   (letJ (fun a97:List Al=>
    rec68 (a97,(IntKind.wrap .i64 (a65 + 1)))) fun J99=>
    (idx p0 a65).bind fun x100=>
    (iter (Ec p1 x100) FUEL (a63,0)).bind fun o=>
   J99 o)
   (some a63)
def Gm (p0:List Ag) (p1:Ah):Option ((List Al)):=
  letJ (fun a60:List Al=>
   some a60) fun J62=>
   (iter (ER p0 p1) FUEL ([],0)).bind fun o=>
  J62 o
def BY (p0 : List Int) (p1 : List Int) (rec11 : Int -> Option (Unit ⊕ Bool)) (a8 : Int) : Option (Unit ⊕ Bool) :=
  cond (decide (a8 < (p0.length:Int)))
   ((idx p0 a8).bind fun x14=>
    (idx p1 a8).bind fun x15=>
   cond (x14 != x15)
    (some (.inr false))
    (rec11 (IntKind.wrap .i64 (a8 + 1))))
   (some (.inl ()))
def CY (p0 : List Int) (p1 : List Int) : Option (Bool) :=
  cond ((p0.length:Int) != (p1.length:Int))
   (some false)
   (letJ (fun _:Unit=>
    some true) fun J7=>
    (iter (BY p0 p1) FUEL 0).bind fun o=>
   match o with
   | .inl o1=>J7 o1
   | .inr o1=>some o1)
def EU (p0 : List Ag) (rec70 : (List Ag) × Int -> Option (((List Ag)))) : (List Ag) × Int -> Option (((List Ag)))
  | (a65,a67)=>
  cond (decide (a67 < (p0.length:Int)))
   (letJ (fun a100:List Ag=>
    rec70 (a100,(IntKind.wrap .i64 (a67 + 1)))) fun J102=>
    (idx p0 a67).bind fun x103=>
   letJ (fun a116:Bool=>
    cond a116
     ((app 128 a65 [x103]).bind fun _=>
     J102 (a65 ++ [x103]))
     (J102 a65)) fun J117=>
   cond ((a65.length:Int) == 0)
    (J117 true)
    ((idx a65 (IntKind.wrap .i64 ((a65.length:Int) - 1))).bind fun x122=>
    cond (decide ((x103.path.length:Int) < (x122.path.length:Int)))
     (J117 true)
     ((idx a65 (IntKind.wrap .i64 ((a65.length:Int) - 1))).bind fun x125=>
      (idx a65 (IntKind.wrap .i64 ((a65.length:Int) - 1))).bind fun x126=>
      (slc x103.path 0 (x126.path.length:Int)).bind fun x127=>
      (CY x125.path x127).bind fun x128=>
     J117 (!x128))))
   (some a65)
def Ge (p0:List Ag):Option ((List Ag)):=
  letJ (fun a62:List Ag=>
   some a62) fun J64=>
   (iter (EU p0) FUEL ([],0)).bind fun o=>
  J64 o
def Do (p0 : Ah) (p1 : Ag) (rec0 : Ah × Ag -> Option ((List Ag))) (rec25 : (List Ag) × Int -> Option (((List Ag)))) : (List Ag) × Int -> Option (((List Ag)))
  | (a20,a22)=>
  cond (decide (a22 < (p1.node.Kids.length:Int)))
   ((idx p1.node.Kids a22).bind fun x28=>
    (app 8 [] p1.path).bind fun x32=>
    (app 8 x32 [a22]).bind fun _=>
    (rec0 (p0,(⟨(x32 ++ [a22]),x28⟩:Ag))).bind fun x36=>
    (app 128 a20 x36).bind fun _=>
   rec25 ((a20 ++ x36),(IntKind.wrap .i64 (a22 + 1))))
   (some a20)
def B4 (rec0:Ah × Ag -> Option ((List Ag))):Ah × Ag -> Option ((List Ag))
  | (p0,p1)=>
   (Dw p0 p1).bind fun x1=>
  letJ (fun a17:List Ag=>
   some a17) fun J19=>
   (iter (Do p0 p1 rec0) FUEL (x1,0)).bind fun o=>
  J19 o
def FW (p0:Ah) (p1:Ag):Option ((List Ag)):=iter B4 FUEL (p0,p1)
def EL (p0:Int):Option (Bool):=
  some (p0 != p0)
def C1 (p0 : Int) (p1 : Int) : Option (Int) :=
   (EL p0).bind fun x1=>
   (EL p1).bind fun x2=>
  cond x1
   (cond x2
    (some 0)
    (some (-1:Int)))
   (cond x2
    (some 1)
    (cond (decide (p0 < p1))
     (some (-1:Int))
     (cond (decide (p1 < p0))
      (some 1)
      (some 0))))
def GM (p0 : List Int) (p1 : List Int) (rec12 : Int -> Option (Unit ⊕ Int)) (a9 : Int) : Option (Unit ⊕ Int) :=
  cond (decide (a9 < (p0.length:Int)))
   ((idx p0 a9).bind fun x15=>
   cond (decide ((p1.length:Int) <= a9))
    (some (.inr 1))
    ((idx p1 a9).bind fun x17=>
     (C1 x15 x17).bind fun x18=>
    cond (x18 != 0)
     (some (.inr x18))
     (rec12 (IntKind.wrap .i64 (a9 + 1)))))
   (some (.inl ()))
def HT (p0 : List Int) (p1 : List Int) : Option (Int) :=
  letJ (fun _:Unit=>
   cond (decide ((p0.length:Int) < (p1.length:Int)))
    (some (-1:Int))
    (some 0)) fun J8=>
   (iter (GM p0 p1) FUEL 0).bind fun o=>
  match o with
  | .inl o1=>J8 o1
  | .inr o1=>some o1
def Xi (p0:Ag) (p1:Ag):Option (Int):=
   (HT p0.path p1.path).bind fun x1=>
  some x1
def Ew (x221 : Ah) (a228 : List Ag) (rec266 : (List Ag) × Int -> Option (((List Ag)))) : (List Ag) × Int -> Option (((List Ag)))
  | (a262,a263)=>
  cond (decide (a263 < (a228.length:Int)))
   (letJ (fun a280:List Ag=>
    rec266 (a280,(IntKind.wrap .i64 (a263 + 1)))) fun J281=>
    (idx a228 a263).bind fun x282=>
   cond x221.deep
    ((FW x221 x282).bind fun x285=>
     (app 128 a262 x285).bind fun _=>
     (some (a262 ++ x285)).bind fun a287=>
    J281 a287)
    ((Dw x221 x282).bind fun x288=>
     (app 128 a262 x288).bind fun _=>
     (some (a262 ++ x288)).bind fun a291=>
    J281 a291))
   (some a262)
def Ez (x1 : (List Ah) × Int × Int) (rec149 : (List Ag) × Int -> Option (((List Ag)) ⊕ ((List Al) × Int × Int))) : (List Ag) × Int -> Option (((List Ag)) ⊕ ((List Al) × Int × Int))
  | (a145,a146)=>
  cond (decide (a146 < (x1.1.length : Int)))
   (letJ (fun a219:List Ag=>
    rec149 (a219,(IntKind.wrap .i64 (a146 + 1)))) fun J220=>
    (idx x1.1 a146).bind fun x221=>
   cond x221.attr
    ((Gm a145 x221).bind fun x224=>
    some (.inr (x224,0,0)))
    (letJ (fun a228:List Ag=>
     letJ (fun a259:List Ag=>
       (PG JM Gl a259).bind fun x292=>
      J220 x292) fun J260=>
      (iter (Ew x221 a228) FUEL ([],0)).bind fun o=>
     J260 o) fun J229=>
    cond x221.deep
     ((Ge a145).bind fun x231=>
     J229 x231)
     (J229 a145)))
   (some (.inl a145))
def Ev (a143 : List Ag) (rec311 : (List Al) × Int -> Option (((List Al)))) : (List Al) × Int -> Option (((List Al)))
  | (a306,a308)=>
  cond (decide (a308 < (a143.length:Int)))
   ((idx a143 a308).bind fun x314=>
    (app 64 a306 [(⟨x314.path,false,(⟨[],[]⟩:Aa)⟩:Al)]).bind fun _=>
   rec311 ((a306 ++ [(⟨x314.path,false,(⟨[],[]⟩:Aa)⟩:Al)]),(IntKind.wrap .i64 (a308 + 1))))
   (some a306)
def Ej (p0 : Ac) (p1 : List By8) : Option ((List Al) × Int × Int) :=
   (Dj p1).bind fun x1=>
  cond (x1.2.2 != 0)
   (some ([],x1.2.1,x1.2.2))
   ((Cv p0).bind fun x3=>
   cond (x3 != 0)
    (some ([],0,x3))
    (letJ (fun a143:List Ag=>
     letJ (fun a303:List Al=>
      some (a303,0,0)) fun J305=>
      (iter (Ev a143) FUEL ([],0)).bind fun o=>
     J305 o) fun J144=>
     (iter (Ez x1) FUEL ([(⟨[],p0⟩:Ag)],0)).bind fun o=>
    match o with
    | .inl o1=>J144 o1
    | .inr o1=>some o1))
def I1 (p0:List By8):Option (Int × Int):=
   (Dj p0).bind fun x1=>
  some (x1.2.1,x1.2.2)
def Cd (p0 : List Int) (p1 : List Int) (rec11 : Int -> Option (Unit ⊕ Bool)) (a8 : Int) : Option (Unit ⊕ Bool) :=
  cond (decide (a8 < (p0.length:Int)))
   ((idx p0 a8).bind fun x14=>
    (idx p1 a8).bind fun x15=>
   cond (x14 != x15)
    (some (.inr false))
    (rec11 (IntKind.wrap .i64 (a8 + 1))))
   (some (.inl ()))
def Bu (p0 : List Int) (p1 : List Int) : Option (Bool) :=
  cond ((p0.length:Int) != (p1.length:Int))
   (some false)
   (letJ (fun _:Unit=>
    some true) fun J7=>
    (iter (Cd p0 p1) FUEL 0).bind fun o=>
   match o with
   | .inl o1=>J7 o1
   | .inr o1=>some o1)
def D2 : Option (Bool) :=
   (DR ).bind fun x1=>
   (Ej x1 [47,47,98,91,64,100,126,51,44,49,93]).bind fun x2=>
   (DR ).bind fun x3=>
   (Ej x3 [47,97,47,98,47,64,42]).bind fun x4=>
   (I1 [47,97,91,48,93]).bind fun x5=>
   (letJ (fun v12:Bool=>(letJ (fun v18:Bool=>(letJ (fun v22:Bool=>some v22) fun J21=>cond v18 ((idx x4.1 0).bind fun x23=>
        J21 (x23.Name.Local == [120])) (J21 false))) fun J17=>cond (v12 && ((x4.1.length:Int) == 2)) ((idx x4.1 0).bind fun x19=>
      J17 x19.Attr) (J17 false))) fun J11=>cond (((((x2.2.2 == 0) && (x4.2.2 == 0)) && (x5.2 == 36)) && (x5.1 == 3)) && ((x2.1.length:Int) == 1)) ((idx x2.1 0).bind fun x13=>
     (Bu x13.Steps ([0,1])).bind fun x14=>
    J11 x14) (J11 false))
def CW (p0 : Ac) (rec0 : Ac -> Option ((List Ac))) (rec18 : (List Ac) × Int -> Option (((List Ac)))) : (List Ac) × Int -> Option (((List Ac)))
  | (a13,a15)=>
  cond (decide (a15 < (p0.Kids.length:Int)))
   ((idx p0.Kids a15).bind fun x21=>
    (rec0 x21).bind fun x23=>
    (app 104 a13 x23).bind fun _=>
   rec18 ((a13 ++ x23),(IntKind.wrap .i64 (a15 + 1))))
   (some a13)
def BP (rec0:Ac -> Option ((List Ac))):Ac -> Option ((List Ac))
  | p0=>
  letJ (fun a10:List Ac=>
   some a10) fun J12=>
   (iter (CW p0 rec0) FUEL ([p0],0)).bind fun o=>
  J12 o
def C0 (p0:Ac):Option ((List Ac)):=iter BP FUEL p0
def CU (p0 : Ac) (rec0 : Ac × Int -> Option (Bool)) (a3 : Int) (rec17 : Int -> Option (Unit ⊕ Bool)) (a14 : Int) : Option (Unit ⊕ Bool) :=
  cond (decide (a14 < (p0.Kids.length:Int)))
   ((idx p0.Kids a14).bind fun x20=>
    (rec0 (x20,a3)).bind fun x22=>
   cond x22
    (some (.inr true))
    (rec17 (IntKind.wrap .i64 (a14 + 1))))
   (some (.inl ()))
def BQ (rec0 : Ac × Int -> Option (Bool)) : Ac × Int -> Option (Bool)
  | (p0,p1)=>
  letJ (fun a3:Int=>
   letJ (fun _:Unit=>
    some false) fun J13=>
    (iter (CU p0 rec0 a3) FUEL 0).bind fun o=>
   match o with
   | .inl o1=>J13 o1
   | .inr o1=>some o1) fun J4=>
  cond (p0.Kind == 2)
   (cond (decide (p1 < 0))
    (some true)
    (J4 (IntKind.wrap .i64 (p1 - 1))))
   (J4 p1)
def DB (p0:Ac) (p1:Int):Option (Bool):=iter BQ FUEL (p0,p1)
def CT (p0 : Ac) (rec20 : Int -> Option (Unit ⊕ Bool)) (a17 : Int) : Option (Unit ⊕ Bool) :=
  cond (decide (a17 < (p0.Kids.length:Int)))
   ((idx p0.Kids a17).bind fun x23=>
   cond ((!((p0.Kind == 1) && (((x23.Kind == 2) || (x23.Kind == 4)) || (x23.Kind == 5)))) && (!((p0.Kind == 2) && ((((x23.Kind == 2) || (x23.Kind == 4)) || (x23.Kind == 5)) || (x23.Kind == 3)))))
    (some (.inr false))
    (rec20 (IntKind.wrap .i64 (a17 + 1))))
   (some (.inl ()))
def Cq (p0 : Ac) : Option (Bool) :=
  letJ (fun _ : Unit =>
   cond (p0.Kind == 1)
    (some ((((p0.Name.URI == (⟨[],[]⟩:Aa).URI) && ((p0.Name.Local == (⟨[],[]⟩:Aa).Local) && true)) && (p0.Text == [])) && ((p0.Attrs.length:Int) == 0)))
    (cond (p0.Kind == 2)
     (some (p0.Text == []))
     (letJ (fun a41:Bool=>
      cond a41
       (some ((((p0.Name.URI == (⟨[],[]⟩:Aa).URI) && ((p0.Name.Local == (⟨[],[]⟩:Aa).Local) && true)) && ((p0.Attrs.length:Int) == 0)) && ((p0.Kids.length:Int) == 0)))
       (cond (p0.Kind == 5)
        (some (((p0.Name.URI == []) && ((p0.Attrs.length:Int) == 0)) && ((p0.Kids.length:Int) == 0)))
        (some false))) fun J42=>
     cond (p0.Kind == 3)
      (J42 (p0.Kind == 3))
      (J42 (p0.Kind == 4))))) fun J16=>
   (iter (CT p0) FUEL 0).bind fun o=>
  match o with
  | .inl o1=>J16 o1
  | .inr o1=>some o1
def CX (p0 : Ac) (rec10 : Int -> Option (Unit ⊕ Bool)) (a7 : Int) : Option (Unit ⊕ Bool) :=
  cond (decide (a7 < (p0.Attrs.length:Int)))
   ((idx p0.Attrs a7).bind fun x13=>
   cond (decide (8192 < (x13.Value.length:Int)))
    (some (.inr false))
    (rec10 (IntKind.wrap .i64 (a7 + 1))))
   (some (.inl ()))
def Cj (p0:Ac):Option (Bool):=
  letJ (fun _:Unit=>
   some ((decide ((p0.Attrs.length:Int) <= 64)) && (decide ((p0.Text.length:Int) <= 8192)))) fun J6=>
   (iter (CX p0) FUEL 0).bind fun o=>
  match o with
  | .inl o1=>J6 o1
  | .inr o1=>some o1
def As (p0 : List By8) (p1 : Int) (a9 : Int) (rec33 : Int × Int -> Option (Int ⊕ (Int × Int))) : Int × Int -> Option (Int ⊕ (Int × Int))
  | (a29,a30)=>
  cond (decide (a30 < a9))
   ((idx p0 (IntKind.wrap .i64 (p1 + a30))).bind fun x36=>
   cond ((decide ((IntKind.wrap .i64 (x36.toNat:Int)) < 128)) || (decide (191 < (IntKind.wrap .i64 (x36.toNat:Int)))))
    (some (.inr (0,0)))
    (rec33 ((IntKind.wrap .i64 ((IntKind.wrap .i64 ((IntKind.wrap .i64 (64 * a29)) + (IntKind.wrap .i64 (x36.toNat:Int)))) - 128)),(IntKind.wrap .i64 (a30 + 1)))))
   (some (.inl a29))
def Bo (p0 : List By8) (p1 : Int) : Option (Int × Int) :=
   (idx p0 p1).bind fun x1=>
  letJ (fun v:Int × Int × Int=>match v with
   | (a9,a10,a11)=>
   cond (decide ((p0.length:Int) < (IntKind.wrap .i64 (p1 + a9))))
    (some (0,0))
    (letJ (fun a27:Int=>
     cond (((decide (a27 < a11)) || (decide (1114111 < a27))) || ((decide (55296 <= a27)) && (decide (a27 <= 57343))))
      (some (0,0))
      (some (a27,a9))) fun J28=>
     (iter (As p0 p1 a9) FUEL (a10,1)).bind fun o=>
    match o with
    | .inl o1=>J28 o1
    | .inr o1=>some o1)) fun J12=>
  cond (decide ((IntKind.wrap .i64 (x1.toNat:Int)) < 128))
   (some ((IntKind.wrap .i64 (x1.toNat:Int)),1))
   (cond ((decide (192 <= (IntKind.wrap .i64 (x1.toNat:Int)))) && (decide ((IntKind.wrap .i64 (x1.toNat:Int)) < 224)))
    (J12 (2,(IntKind.wrap .i64 ((IntKind.wrap .i64 (x1.toNat:Int)) - 192)),128))
    (cond ((decide (224 <= (IntKind.wrap .i64 (x1.toNat:Int)))) && (decide ((IntKind.wrap .i64 (x1.toNat:Int)) < 240)))
     (J12 (3,(IntKind.wrap .i64 ((IntKind.wrap .i64 (x1.toNat:Int)) - 224)),2048))
     (cond ((decide (240 <= (IntKind.wrap .i64 (x1.toNat:Int)))) && (decide ((IntKind.wrap .i64 (x1.toNat:Int)) < 248)))
      (J12 (4,(IntKind.wrap .i64 ((IntKind.wrap .i64 (x1.toNat:Int)) - 240)),65536))
      (some (0,0)))))
def Bq (p0 : Int) : Option (Bool) :=
  letJ (fun a5 : Bool =>
   cond a5
    (some true)
    (cond ((decide (192 <= p0)) && (decide (p0 <= 767)))
     (some ((p0 != 215) && (p0 != 247)))
     (cond ((decide (880 <= p0)) && (decide (p0 <= 8191)))
      (some (p0 != 894))
      (letJ (fun a18:Bool=>
       cond a18
        (some true)
        (letJ (fun a27:Bool=>
         cond a27
          (some true)
          (cond ((decide (63744 <= p0)) && (decide (p0 <= 65533)))
           (some ((decide (p0 < 64976)) || (decide (65008 <= p0))))
           (some ((decide (65536 <= p0)) && (decide (p0 <= 983039)))))) fun J28=>
        cond ((decide (8304 <= p0)) && (decide (p0 <= 8591)))
         (J28 ((decide (8304 <= p0)) && (decide (p0 <= 8591))))
         (cond ((decide (11264 <= p0)) && (decide (p0 <= 12271)))
          (J28 ((decide (11264 <= p0)) && (decide (p0 <= 12271))))
          (J28 ((decide (12289 <= p0)) && (decide (p0 <= 55295))))))) fun J19=>
      cond (p0 == 8204)
       (J19 (p0 == 8204))
       (J19 (p0 == 8205)))))) fun J6=>
  cond ((decide (65 <= p0)) && (decide (p0 <= 90)))
   (J6 ((decide (65 <= p0)) && (decide (p0 <= 90))))
   (cond (p0 == 95)
    (J6 (p0 == 95))
    (J6 ((decide (97 <= p0)) && (decide (p0 <= 122)))))
def Bn (p0:Int):Option (Bool):=
   (Bq p0).bind fun x1=>
  some (((((((x1 || (p0 == 45)) || (p0 == 46)) || ((decide (48 <= p0)) && (decide (p0 <= 57)))) || (p0 == 183)) || ((decide (768 <= p0)) && (decide (p0 <= 879)))) || (p0 == 8255)) || (p0 == 8256))
def BB (p0 : List By8) (rec22 : Int -> Option (Unit ⊕ Bool)) (a19 : Int) : Option (Unit ⊕ Bool) :=
  cond (decide (a19 < (p0.length:Int)))
   ((Bo p0 a19).bind fun x25 =>
    (letJ (fun v28:Bool=>(letJ (fun v32:Bool=>cond v32
        (some (.inr false))
        (rec22 (IntKind.wrap .i64 (a19 + x25.2)))) fun J31=>cond v28 (J31 true) ((letJ (fun v35:Bool=>J31 v35) fun J34=>cond (a19 == 0) ((Bq x25.1).bind fun x36=>
         J34 (!x36)) (J34 false))))) fun J27=>cond (x25.2 == 0) (J27 true) ((Bn x25.1).bind fun x29=>
     J27 (!x29))))
   (some (.inl ()))
def BT (p0 : List By8) : Option (Bool) :=
  cond (((p0.length:Int) == 0) || (decide (100 < (p0.length:Int))))
   (some false)
   (letJ (fun _:Unit=>
    some true) fun J18=>
    (iter (BB p0) FUEL 0).bind fun o=>
   match o with
   | .inl o1=>J18 o1
   | .inr o1=>some o1)
def Cm (p0:Int):Option (Bool):=
  some ((((((p0 == 9) || (p0 == 10)) || (p0 == 13)) || ((decide (32 <= p0)) && (decide (p0 <= 55295)))) || ((decide (57344 <= p0)) && (decide (p0 <= 65533)))) || ((decide (65536 <= p0)) && (decide (p0 <= 1114111))))
def Dp (p0 : List By8) (rec11 : Int -> Option (Unit ⊕ (Int × Int))) (a8 : Int) : Option (Unit ⊕ (Int × Int)) :=
  cond (decide (a8 < (p0.length:Int)))
   ((Bo p0 a8).bind fun x14=>
   cond (x14.2 == 0)
    (some (.inr (a8,20)))
    ((Cm x14.1).bind fun x16=>
    cond (!x16)
     (some (.inr (a8,21)))
     (rec11 (IntKind.wrap .i64 (a8 + x14.2)))))
   (some (.inl ()))
def Cf (p0:List By8):Option (Int × Int):=
  letJ (fun _:Unit=>
   some (0,0)) fun J7=>
   (iter (Dp p0) FUEL 0).bind fun o=>
  match o with
  | .inl o1=>J7 o1
  | .inr o1=>some o1
def BS (p0:List By8):Option (Bool):=
   (Cf p0).bind fun x1=>
  some (x1.2 == 0)
def BO (p0 : Aa) : Option (Bool) :=
   (BT p0.Local).bind fun x1=>
   (letJ (fun v5:Bool=>some (v5 && (!(p0.URI == [104,116,116,112,58,47,47,119,119,119,46,119,51,46,111,114,103,47,50,48,48,48,47,120,109,108,110,115,47])))) fun J4=>cond (x1 && (decide ((p0.URI.length:Int) <= 100))) ((BS p0.URI).bind fun x6=>
    J4 x6) (J4 false))
def CS (p0 : Ac) (rec19 : Int -> Option (Unit ⊕ Bool)) (a16 : Int) : Option (Unit ⊕ Bool) :=
  cond (decide (a16 < (p0.Attrs.length:Int)))
   ((idx p0.Attrs a16).bind fun x22=>
    (BO x22.Name).bind fun x24=>
   cond ((!x24) || ((x22.Name.URI == []) && (x22.Name.Local == [120,109,108,110,115])))
    (some (.inr false))
    (rec19 (IntKind.wrap .i64 (a16 + 1))))
   (some (.inl ()))
def Cl (p0 : Ac) : Option (Bool) :=
   (letJ (fun v3 : Bool => cond v3
     (some false)
     (letJ (fun _ : Unit =>
       (letJ (fun v31 : Bool => some v31) fun J30 => cond (p0.Kind != 5) (J30 true) ((BT p0.Name.Local).bind fun x32 =>
         (letJ (fun v35 : Bool => J30 v35) fun J34 => cond x32 ((letJ (fun v38 : Bool => (letJ (fun v46 : Bool => (letJ (fun v54 : Bool => J34 (!v54)) fun J53 => cond v46 ((idx p0.Name.Local 2).bind fun x55 =>
                 (letJ (fun v58:Bool=>J53 v58) fun J57=>cond ((x55.toNat:Int) == 108) (J57 true) ((idx p0.Name.Local 2).bind fun x59=>
                  J57 ((x59.toNat:Int) == 76)))) (J53 false))) fun J45=>cond v38 ((idx p0.Name.Local 1).bind fun x47=>
               (letJ (fun v50:Bool=>J45 v50) fun J49=>cond ((x47.toNat:Int) == 109) (J49 true) ((idx p0.Name.Local 1).bind fun x51=>
                J49 ((x51.toNat:Int) == 77)))) (J45 false))) fun J37=>cond ((p0.Name.Local.length:Int) == 3) ((idx p0.Name.Local 0).bind fun x39=>
             (letJ (fun v42:Bool=>J37 v42) fun J41=>cond ((x39.toNat:Int) == 120) (J41 true) ((idx p0.Name.Local 0).bind fun x43=>
              J41 ((x43.toNat:Int) == 88)))) (J37 false))) (J34 false))))) fun J15=>
      (iter (CS p0) FUEL 0).bind fun o=>
     match o with
     | .inl o1=>J15 o1
     | .inr o1=>some o1)) fun J2=>cond (p0.Kind == 2) ((BO p0.Name).bind fun x4=>
    J2 (!x4)) (J2 false))
def CE (p0 : Ac) (rec11 : Int -> Option (Unit ⊕ Bool)) (a8 : Int) : Option (Unit ⊕ Bool) :=
  cond (decide (a8 < (p0.Attrs.length:Int)))
   ((idx p0.Attrs a8).bind fun x14=>
    (BS x14.Value).bind fun x16=>
   cond (!x16)
    (some (.inr false))
    (rec11 (IntKind.wrap .i64 (a8 + 1))))
   (some (.inl ()))
def Ce (p0 : Ac) : Option (Bool) :=
  letJ (fun _:Unit=>
    (BS p0.Text).bind fun x18=>
   some x18) fun J7=>
   (iter (CE p0) FUEL 0).bind fun o=>
  match o with
  | .inl o1=>J7 o1
  | .inr o1=>some o1
def Dd (p0:Aa) (p1:Aa):Option (Bool):=
  some ((Op.bytesLess p0.URI p1.URI) || ((p0.URI == p1.URI) && (Op.bytesLess p0.Local p1.Local)))
def CL (p0 : Ac) (rec11 : Int -> Option (Unit ⊕ Bool)) (a8 : Int) : Option (Unit ⊕ Bool) :=
  cond (decide (a8 < (p0.Attrs.length:Int)))
   ((idx p0.Attrs (IntKind.wrap .i64 (a8 - 1))).bind fun x14=>
    (idx p0.Attrs a8).bind fun x15=>
    (Dd x14.Name x15.Name).bind fun x16=>
   cond (!x16)
    (some (.inr false))
    (rec11 (IntKind.wrap .i64 (a8 + 1))))
   (some (.inl ()))
def Cg (p0:Ac):Option (Bool):=
  letJ (fun _:Unit=>
   some true) fun J7=>
   (iter (CL p0) FUEL 1).bind fun o=>
  match o with
  | .inl o1=>J7 o1
  | .inr o1=>some o1
def Dc (p0 : List By8) (p1 : List By8) (rec9 : Int -> Option (Unit ⊕ Bool)) (a6 : Int) : Option (Unit ⊕ Bool) :=
  cond (decide ((IntKind.wrap .i64 (a6 + (p1.length:Int))) <= (p0.length:Int)))
   ((slc p0 a6 (IntKind.wrap .i64 (a6 + (p1.length:Int)))).bind fun x12=>
   cond (x12 == p1)
    (some (.inr true))
    (rec9 (IntKind.wrap .i64 (a6 + 1))))
   (some (.inl ()))
def BL (p0:List By8) (p1:List By8):Option (Bool):=
  letJ (fun _:Unit=>
   some false) fun J5=>
   (iter (Dc p0 p1) FUEL 0).bind fun o=>
  match o with
  | .inl o1=>J5 o1
  | .inr o1=>some o1
def CZ (p0 : Ac) (rec13 : Int -> Option (Unit ⊕ Bool)) (a10 : Int) : Option (Unit ⊕ Bool) :=
  cond (decide (a10 < (p0.Kids.length:Int)))
   ((idx p0.Kids a10).bind fun x16=>
    (letJ (fun v19:Bool=>cond v19
      (some (.inr false))
      (rec13 (IntKind.wrap .i64 (a10 + 1)))) fun J18=>cond (x16.Kind == 3) ((idx p0.Kids (IntKind.wrap .i64 (a10 - 1))).bind fun x20=>
     J18 (x20.Kind == 3)) (J18 false)))
   (some (.inl ()))
def Cs (p0 : Ac) : Option (Bool) :=
  letJ (fun _ : Unit =>
   cond (p0.Kind == 3)
    (some (!(p0.Text == [])))
    (cond (p0.Kind == 4)
     ((BL p0.Text [45,45]).bind fun x24=>
      (letJ (fun v27:Bool=>(letJ (fun v31:Bool=>some v31) fun J30=>cond v27 ((letJ (fun v34:Bool=>J30 v34) fun J33=>cond (p0.Text == []) (J33 true) ((idx p0.Text (IntKind.wrap .i64 ((p0.Text.length:Int) - 1))).bind fun x35=>
           J33 ((x35.toNat:Int) != 45)))) (J30 false))) fun J26=>cond (!x24) ((BL p0.Text [13]).bind fun x28=>
       J26 (!x28)) (J26 false)))
     (cond (p0.Kind == 5)
      ((BL p0.Text [63,62]).bind fun x37=>
       (letJ (fun v40 : Bool => (letJ (fun v44 : Bool => some v44) fun J43 => cond v40 ((letJ (fun v47 : Bool => J43 v47) fun J46 => cond (p0.Text == []) (J46 true) ((idx p0.Text 0).bind fun x48 =>
             (letJ (fun v51:Bool=>(letJ (fun v55:Bool=>J46 v55) fun J54=>cond v51 ((idx p0.Text 0).bind fun x56=>
                J54 ((x56.toNat:Int) != 10)) (J54 false))) fun J50=>cond ((x48.toNat:Int) != 32) ((idx p0.Text 0).bind fun x52=>
              J50 ((x52.toNat:Int) != 9)) (J50 false))))) (J43 false))) fun J39=>cond (!x37) ((BL p0.Text [13]).bind fun x41=>
        J39 (!x41)) (J39 false)))
      (some true)))) fun J9=>
   (iter (CZ p0) FUEL 1).bind fun o=>
  match o with
  | .inl o1=>J9 o1
  | .inr o1=>some o1
def Cb (x2 : (List Ac)) (rec58 : Bool × Bool × Bool × Bool × Bool × Bool × Bool × Int -> Option ((Bool × Bool × Bool × Bool × Bool × Bool × Bool))) : Bool × Bool × Bool × Bool × Bool × Bool × Bool × Int -> Option ((Bool × Bool × Bool × Bool × Bool × Bool × Bool))
  | (a48,a49,a50,a51,a52,a53,a54,a55)=>
  cond (decide (a55 < (x2.length : Int)))
   ((idx x2 a55).bind fun x61 =>
    (letJ (fun v65 : Bool => (letJ (fun v69 : Bool => (letJ (fun v73 : Bool => (letJ (fun v77 : Bool => (letJ (fun v81 : Bool => (letJ (fun v85 : Bool => rec58 (v65, a49, v69, v73, v77, v81, v85, (IntKind.wrap .i64 (a55 + 1)))) fun J84 => cond a54 ((Cs x61).bind fun x86 =>
               J84 x86) (J84 false))) fun J80=>cond a53 ((Cg x61).bind fun x82=>
             J80 x82) (J80 false))) fun J76=>cond a52 ((Ce x61).bind fun x78=>
           J76 x78) (J76 false))) fun J72=>cond a51 ((Cl x61).bind fun x74=>
         J72 x74) (J72 false))) fun J68=>cond a50 ((Cj x61).bind fun x70=>
       J68 x70) (J68 false))) fun J64=>cond a48 ((Cq x61).bind fun x66=>
     J64 x66) (J64 false)))
   (some (a48,a49,a50,a51,a52,a53,a54))
def CG (p0 : Ac) (rec103 : Int × Int -> Option (Int)) : Int × Int -> Option (Int)
  | (a99,a100)=>
  cond (decide (a100 < (p0.Kids.length:Int)))
   (letJ (fun a109:Int=>
    rec103 (a109,(IntKind.wrap .i64 (a100 + 1)))) fun J110=>
    (idx p0.Kids a100).bind fun x111=>
   cond (x111.Kind == 2)
    (J110 (IntKind.wrap .i64 (a99 + 1)))
    (J110 a99))
   (some a99)
def Er (a40 : Bool) (a41 : Bool) (a42 : Bool) (a43 : Bool) (a44 : Bool) (a45 : Bool) (a46 : Bool) (rec123 : Int -> Option (Unit ⊕ Int)) (a120 : Int) : Option (Unit ⊕ Int) :=
  cond (decide (a120 < 7))
   ((V2 7 ([a40,a41,a42,a43,a44,a45,a46]:List Bool) a120).bind fun x126=>
   cond (!x126)
    ((V2 7 [33,31,5,24,21,34,32] a120).bind fun x128=>
    some (.inr x128))
    (rec123 (IntKind.wrap .i64 (a120 + 1))))
   (some (.inl ()))
def BE (p0 : Ac) : Option (Int) :=
  cond (p0.Kind != 1)
   (some 33)
   ((C0 p0).bind fun x2=>
    (DB p0 32).bind fun x3=>
   letJ (fun v:Bool × Bool × Bool × Bool × Bool × Bool × Bool=>match v with
    | (a40,a41,a42,a43,a44,a45,a46)=>
    letJ (fun a97:Int=>
     letJ (fun _:Unit=>
      cond (a97 != 1)
       (some 30)
       (some 0)) fun J119=>
      (iter (Er a40 a41 a42 a43 a44 a45 a46) FUEL 0).bind fun o=>
     match o with
     | .inl o1=>J119 o1
     | .inr o1=>some o1) fun J98=>
     (iter (CG p0) FUEL (0,0)).bind fun o=>
    J98 o) fun J47=>
    (iter (Cb x2) FUEL (true,(!x3),(decide ((x2.length:Int) <= 2001)),true,true,true,true,0)).bind fun o=>
   J47 o)
def CC (a35 : Int) (x57 : (List (List Int))) (rec63 : (List (List Int)) × Int -> Option (((List (List Int))))) : (List (List Int)) × Int -> Option (((List (List Int))))
  | (a58,a60)=>
  cond (decide (a60 < (x57.length:Int)))
   ((idx x57 a60).bind fun x66=>
    (app 8 [a35] x66).bind fun _=>
    (app 24 a58 [([a35] ++ x66)]).bind fun _=>
   rec63 ((a58 ++ [([a35] ++ x66)]),(IntKind.wrap .i64 (a60 + 1))))
   (some a58)
def CI (p0 : Ac) (rec0 : Ac -> Option ((List (List Int)))) (rec38 : (List (List Int)) × Int -> Option (((List (List Int))))) : (List (List Int)) × Int -> Option (((List (List Int))))
  | (a33,a35)=>
  cond (decide (a35 < (p0.Kids.length:Int)))
   (letJ (fun a52:List (List Int)=>
    rec38 (a52,(IntKind.wrap .i64 (a35 + 1)))) fun J54=>
    (idx p0.Kids a35).bind fun x55=>
    (rec0 x55).bind fun x57=>
    (iter (CC a35 x57) FUEL (a33,0)).bind fun o=>
   J54 o)
   (some a33)
def BD (rec0:Ac -> Option ((List (List Int)))):Ac -> Option ((List (List Int)))
  | p0=>
  letJ (fun a30:List (List Int)=>
   some a30) fun J32=>
   (iter (CI p0 rec0) FUEL ([[]],0)).bind fun o=>
  J32 o
def Dm (p0:Ac):Option ((List (List Int))):=iter BD FUEL p0
def Dg (p0 : Al) (p1 : Al) (rec11 : Int -> Option (Unit ⊕ Int)) (a8 : Int) : Option (Unit ⊕ Int) :=
  cond (decide (a8 < (if (p1.Steps.length:Int) < (p0.Steps.length:Int) then (p1.Steps.length:Int) else (p0.Steps.length:Int))))
   ((idx p0.Steps a8).bind fun x14=>
    (idx p1.Steps a8).bind fun x15=>
    (C1 x14 x15).bind fun x16=>
   cond (x16 != 0)
    (some (.inr x16))
    (rec11 (IntKind.wrap .i64 (a8 + 1))))
   (some (.inl ()))
def EV (p0 : Al) (p1 : Al) : Option (Int) :=
  letJ (fun _ : Unit =>
    (C1 (p0.Steps.length:Int) (p1.Steps.length:Int)).bind fun x18=>
   cond (x18 != 0)
    (some x18)
    (cond (p0.Attr && p1.Attr)
     ((Fx p0.Name p1.Name).bind fun x22=>
     some x22)
     (cond p0.Attr
      (some 1)
      (cond p1.Attr
       (some (-1:Int))
       (some 0))))) fun J7=>
   (iter (Dg p0 p1) FUEL 0).bind fun o=>
  match o with
  | .inl o1=>J7 o1
  | .inr o1=>some o1
def CD (p0 : List By8) (rec13 : Int -> Option (Unit ⊕ Bool)) (a10 : Int) : Option (Unit ⊕ Bool) :=
  cond (decide (a10 < (p0.length:Int)))
   ((idx p0 a10).bind fun x16=>
    (letJ (fun v19:Bool=>cond v19
      (some (.inr false))
      (rec13 (IntKind.wrap .i64 (a10 + 1)))) fun J18=>cond ((x16.toNat:Int) == 123) (J18 true) ((idx p0 a10).bind fun x20=>
     J18 ((x20.toNat:Int) == 42))))
   (some (.inl ()))
def Dn (p0:List By8):Option (Bool):=
  letJ (fun _:Unit=>
   some true) fun J9=>
   (iter (CD p0) FUEL 0).bind fun o=>
  match o with
  | .inl o1=>J9 o1
  | .inr o1=>some o1
def BG (p1 : List By8) (x3 : (List Al) × Int × Int) (x4 : (List Al) × Int × Int) (x11 : (List (List Int))) (a201 : Int) (x298 : Ac) (rec305 : Int × Int × Int -> Option ((Int × Int) ⊕ Bool)) : Int × Int × Int -> Option ((Int × Int) ⊕ Bool)
  | (a300,a301,a302)=>
  cond (decide (a302 < (x298.Attrs.length : Int)))
   (letJ (fun v:Int × Int=>match v with
    | (a348,a349)=>
    rec305 (a348,a349,(IntKind.wrap .i64 (a302 + 1)))) fun J350=>
    (idx x298.Attrs a302).bind fun x351=>
   letJ (fun a364 : Bool =>
    cond a364
     (some (.inr false))
     (cond ((x351.Name.URI == []) && (x351.Name.Local == p1))
      (letJ (fun a385:Bool=>
       cond a385
        (some (.inr false))
        (J350 ((IntKind.wrap .i64 (a300 + 1)),(IntKind.wrap .i64 (a301 + 1))))) fun J386=>
      cond (decide ((x4.1.length:Int) <= a301))
       (J386 true)
       ((idx x4.1 a301).bind fun x389=>
        (idx x3.1 (IntKind.wrap .i64 ((IntKind.wrap .i64 (a300 + 1)) - 1))).bind fun x390=>
        (EV x389 x390).bind fun x391=>
       J386 (x391 != 0)))
      (J350 ((IntKind.wrap .i64 (a300 + 1)),a301)))) fun J365=>
   cond (decide ((x3.1.length:Int) <= a300))
    (J365 true)
    ((idx x3.1 a300).bind fun x368=>
    cond (!x368.Attr)
     (J365 true)
     ((idx x3.1 a300).bind fun x371=>
     cond (!((x371.Name.URI == x351.Name.URI) && ((x371.Name.Local == x351.Name.Local) && true)))
      (J365 true)
      ((idx x3.1 a300).bind fun x374=>
       (idx x11 a201).bind fun x375=>
       (Bu x374.Steps x375).bind fun x376=>
      J365 (!x376)))))
   (some (.inl (a300,a301)))
def BI (p1 : List By8) (x3 : (List Al) × Int × Int) (x4 : (List Al) × Int × Int) (x11 : (List (List Int))) (x198 : (List Ac)) (rec204 : Int × Int × Int -> Option ((Int × Int) ⊕ Bool)) : Int × Int × Int -> Option ((Int × Int) ⊕ Bool)
  | (a199,a200,a201)=>
  cond (decide (a201 < (x198.length:Int)))
   (letJ (fun v:Int × Int=>match v with
    | (a295,a296)=>
    rec204 (a295,a296,(IntKind.wrap .i64 (a201 + 1)))) fun J297=>
    (idx x198 a201).bind fun x298=>
    (iter (BG p1 x3 x4 x11 a201 x298) FUEL (a199,a200,0)).bind fun o=>
   match o with
   | .inl o1=>J297 o1
   | .inr o1=>some (.inr o1))
   (some (.inl (a199,a200)))
def Di (p0 : Ac) (p1 : List By8) : Option (Bool) :=
   (D2 ).bind fun x1=>
  cond (!x1)
   (some false)
   ((Ej p0 [47,47,42,47,64,42]).bind fun x3=>
    (cat [47,47,42,47,64] p1).bind fun _=>
    (Ej p0 ([47,47,42,47,64] ++ p1)).bind fun x4=>
   cond ((x3.2.2 != 0) || (x4.2.2 != 0))
    ((letJ (fun v9:Bool=>some v9) fun J8=>cond (x3.2.2 == 0) (J8 true) ((BE p0).bind fun x10=>
      J8 (x3.2.2 == x10))))
    ((Dm p0).bind fun x11=>
    letJ (fun v : Int × Int => match v with
     | (a195,a196)=>
      (letJ (fun v395:Bool=>some v395) fun J394=>cond (a195 == (x3.1.length:Int)) ((letJ (fun v398:Bool=>J394 v398) fun J397=>cond (a196 == (x4.1.length:Int)) (J397 true) ((Dn p1).bind fun x399=>
         J397 (!x399)))) (J394 false))) fun J197=>
     (C0 p0).bind fun x198=>
     (iter (BI p1 x3 x4 x11 x198) FUEL (0,0,0)).bind fun o=>
    match o with
    | .inl o1=>J197 o1
    | .inr o1=>some o1))
end Go.Proofs.YtmnbjcpikllknaaGreatDoor
