/- Several texts of one claim in one file: YtmndbhgbngkakaaDoorG0, YtmndbhgbngkakaaDoorG1, YtmndbhgbngkakaaDoorG2, YtmndbhgbngkakaaDoorG3, YtmndbhgbngkakaaDoorG4, YtmndbhgbngkakaaDoorG5, YtmndbhgbngkakaaDoorG6, YtmndbhgbngkakaaDoorG7. No condition. -/
import Derived.Test.YtmndbhgbngkakaaDoorEB
section
/- Go code over plain data: lists stand for slices, what is made stands under the number of the place that makes it. Definitions only; no condition. -/
namespace Go.Proofs.YtmndbhgbngkakaaDoor.G
open Go Go.RowKit Go.Proofs.YtmndbhgbngkakaaDoor.E
set_option linter.all false
/-- What is left as it stands, while code is gone through. -/
abbrev Lz:=(α:Type)→(Unit→α)→α
def std:Lz:=fun _ f=>f ()
/-- The shape of a cell, or of an element. -/
inductive Shp where
 | int (k:IntKind)
 | bool
 | str
 | agg (cs:List Shp)
 | row (s:Shp)
def Shp.size:Shp→Nat
 | .agg cs=>cs.length
 | _=>1
def Shp.cell1:Shp→Bool
 | .agg _=>false
 | _=>true
def Shp.plain:Shp→Bool
 | .row _ | .agg _=>false
 | _=>true
mutual
def Shp.eqb:Shp→Shp→Bool
 | .int k,.int k'=>decide (k=k')
 | .bool,.bool=>true
 | .str,.str=>true
 | .agg cs,.agg ds=>Shp.eqbL cs ds
 | .row s,.row t=>Shp.eqb s t
 | _,_=>false
def Shp.eqbL:List Shp→List Shp→Bool
 | [],[]=>true
 | c::cs,d::ds=>Shp.eqb c d && Shp.eqbL cs ds
 | _,_=>false
end
/-- Plain data: 'row' = a slice that is only read; 'own', 'view', 'ptr', 'eptr' = what lies under a number, of an age; 'fptr' = a place that is only read; 'new' = a slice that is nobody else's; 'vec' = an array. -/
inductive FV where
 | v (x:Value)
 | int (k:IntKind) (n:Int)
 | bool (b:Bool)
 | str (s:ByteArray)
 | nils
 | agg (cs:List FV)
 | tup (cs:List FV)
 | row (sh:Shp) (l:List FV)
 | new (sh:Shp) (l:List FV)
 | vec (sh:Shp) (l:List FV)
 | own (id g:Nat)
 | view (id g lo n:Nat)
 | ptr (id g off:Nat)
 | eptr (id g i off:Nat)
 | fptr (cells:List FV) (off:Nat)
 | fn (f:Nat) (a b:List FV)
 | und
 | dead
namespace FV
def cells:FV→List FV
 | .agg cs=>cs
 | .vec _ l=>l
 | x=>[x]
def toI:FV→Int
 | .int _ n=>n
 | _=>0
def toB:FV→Bool
 | .bool b=>b
 | _=>false
def toS:FV→ByteArray
 | .str s=>s
 | _=>ByteArray.empty
def toL:FV→List FV
 | .row _ l=>l
 | _=>[]
def cell (x:FV) (j:Nat):FV:=x.cells.getD j .dead
end FV
def nth (l:List FV) (i:Nat):FV:=l.getD i .dead
/-- What has a shape, by its parts. -/
def mk1 (A:Lz):Shp→(Unit→FV)→FV
 | .int k,t=>.int k (A _ fun _=>(t ()).toI)
 | .bool,t=>.bool (A _ fun _=>(t ()).toB)
 | .str,t=>.str (A _ fun _=>(t ()).toS)
 | .row s,t=>.row s (A _ fun _=>(t ()).toL)
 | .agg _,t=>.dead
def mkL (A:Lz):List Shp→Nat→(Unit→FV)→List FV
 | [],_,_=>[]
 | s::ss,j,t=>mk1 A s (fun _=>(t ()).cell j)::mkL A ss (j+1) t
def mkE (A:Lz):Shp→(Unit→FV)→FV
 | .agg cs,t=>.agg (mkL A cs 0 t)
 | s,t=>mk1 A s t
def has1:Shp→FV→Bool
 | .int k,.int k' _=>decide (k=k')
 | .bool,.bool _=>true
 | .str,.str _=>true
 | .row s,.row s' _=>Shp.eqb s s'
 | _,_=>false
def hasL:List Shp→List FV→Bool
 | [],[]=>true
 | s::ss,x::xs=>has1 s x && hasL ss xs
 | _,_=>false
def has:Shp→FV→Bool
 | .agg cs,.agg xs=>hasL cs xs
 | s,x=>has1 s x
/-- A nil slice as an empty one, where a slice is looked for. -/
def fit1:Shp→FV→FV
 | .row s,.nils=>.row s []
 | _,x=>x
def fitL:List Shp→List FV→List FV
 | s::ss,x::xs=>fit1 s x::fitL ss xs
 | _,xs=>xs
def fit:Shp→FV→FV
 | .agg cs,.agg xs=>.agg (fitL cs xs)
 | s,x=>fit1 s x
inductive VO where
 | box (cells:List FV)
 | arr (sh:Shp) (ap:Bool) (l:List FV)
structure VB where
 gen:Nat
 w:Bool
 o:VO
abbrev Hp:=Tr VB
inductive TK where
 | int (k:IntKind)
 | str
 | bool
 | slice (el:Nat)
 | strct (fs:List (Nat × Nat × Bool))
 | arr (n el:Nat)
 | vec (n el:Nat)
 | other
/-- What is to be known of a type. -/
structure TI where
 k:TK
 size:Nat
 bytes:Nat
 agg:Bool
 zero:List FV
 sh:Shp
 eq:Bool
def look {α:Type _}:List (Nat × α)→Nat→Option α
 | [],_=>none
 | (n,a)::l,m=>match Nat.beq n m with | true=>some a | false=>look l m
abbrev Ty:=List (Nat × TI)
/-- A function that is known: whether it may change what its first argument is, and what it tells, with what is there now. -/
structure Spec where
 own:Bool
 run:Lz→List FV→(FV→FV→Prop)→Prop
abbrev Tab:=List (Nat × Spec)
def ofV:Nat→Value→FV
 | _,.int k n=>.int k n
 | _,.bool b=>.bool b
 | _,.string s=>.str s
 | _,.slice none 0 0=>.nils
 | n+1,.agg cs=>.agg (cs.toList.map (ofV n))
 | _,.float k n=>.v (.float k n)
 | _,.pointer none=>.v (.pointer none)
 | _,.nilFunc=>.v .nilFunc
 | _,_=>.dead
def gt (T:Tr FV) (t:Nat):FV:=(T.get t).getD .dead
def ev (T:Tr FV):Operand→FV
 | .tmp t=>gt T t
 | .const v=>ofV 4 v
 | .global _=>.dead
 | .func f=>.fn f [] []
def ng (H:Hp) (d:Nat):Nat :=
 match H.get d with
 | some b=>b.gen+1
 | none=>0
def newBox (H:Hp) (d:Nat) (cells:List FV) (k:FV→Hp→Prop):Prop:=k (.ptr d (ng H d) 0) (H.set d ⟨ng H d,true,.box cells⟩)
def newArr (H:Hp) (d:Nat) (sh:Shp) (ap:Bool) (l:List FV) (k:FV→Hp→Prop):Prop:=k (.own d (ng H d)) (H.set d ⟨ng H d,true,.arr sh ap l⟩)
def newVec (H:Hp) (d:Nat) (sh:Shp) (l:List FV) (k:FV→Hp→Prop):Prop:=k (.ptr d (ng H d) 0) (H.set d ⟨ng H d,true,.arr sh true l⟩)
/-- What lies under a number, if it is of that age. -/
def at_ (H:Hp) (id g:Nat):Option VB :=
 match H.get id with
 | some b=>match Nat.beq b.gen g with | true=>some b | false=>none
 | none=>none
def isAt (H:Hp) (id g:Nat):Bool :=
 match at_ H id g with
 | some _=>true
 | none=>false
/-- It may lie in a cell. -/
def okCell:FV→Bool
 | .agg _ | .tup _ | .dead | .und | .new _ _ | .vec _ _=>false
 | _=>true
def okCells:List FV→Bool
 | []=>true
 | c::cs=>match okCell c with | true=>okCells cs | false=>false
def partOf (i:TI) (cells:List FV) (off:Nat):FV :=
 match i.agg with
 | true=>.agg ((cells.drop off).take i.size)
 | false=>cells.getD off .dead
def putC:List FV→Nat→List FV→List FV
 | l,_,[]=>l
 | [],_,_=>[]
 | c::cs,off+1,xs=>c::putC cs off xs
 | _::cs,0,x::xs=>x::putC cs 0 xs
def setN (l:List FV) (i:Nat) (x:FV):List FV:=l.set i x
/-- An element of what lies under a number. -/
def elt (A:Lz) (sh:Shp) (l:List FV) (i:Nat):FV:=mkE A sh (fun _=>nth l i)
/-- An element of which a part is written. -/
def newElt (A:Lz) (sh:Shp) (l:List FV) (n size off:Nat) (x:FV):FV :=
 match sh with
 | .agg _=>fit sh (FV.agg (putC (elt A sh l n).cells off x.cells))
 | _=>match off,size with | 0,1=>fit sh x | _,_=>.dead
def loadF (A:Lz) (H:Hp) (i:TI) (a:FV) (k:FV→Prop):Prop :=
 match a with
 | .ptr id g off =>
  match at_ H id g with
  | some ⟨_,_,.box cells⟩=>match Nat.ble (off+i.size) cells.length with | true=>k (partOf i cells off) | false=>False
  | some ⟨_,_,.arr sh _ l⟩=>(match off,i.k,sh.cell1 with | 0,.vec _ _,true=>(A _ fun _=>l.length=i.size)∧k (.vec sh l) | _,_,_=>False)
  | _=>False
 | .eptr id g n off =>
  match at_ H id g with
  | some ⟨_,_,.arr sh _ l⟩=>match Nat.ble (off+i.size) sh.size with | true=>k (partOf i (elt A sh l n).cells off) | false=>False
  | _=>False
 | .fptr cells off=>match Nat.ble (off+i.size) cells.length with | true=>k (partOf i cells off) | false=>False
 | _=>False
def sizeOk (i:TI) (x:FV):Bool:=Nat.beq x.cells.length i.size
def storeF (A:Lz) (H:Hp) (i:TI) (a x:FV) (k:FV→Hp→Prop):Prop :=
 match a with
 | .ptr id g off =>
  match at_ H id g with
  | some ⟨_,true,.box cells⟩ =>
   match sizeOk i x,okCells x.cells,Nat.ble (off+i.size) cells.length with
   | true,true,true=>k .dead (H.set id ⟨g,true,.box (putC cells off x.cells)⟩)
   | _,_,_=>False
  | some ⟨_,true,.arr sh ap l⟩ =>
   match off,i.k,x with
   | 0,.vec _ _,.vec sh' l'=>(match Shp.eqb sh' sh with | true=>(A _ fun _=>l'.length=i.size∧l.length=i.size)∧k .dead (H.set id ⟨g,true,.arr sh ap l'⟩) | false=>False)
   | _,_,_=>False
  | _=>False
 | .eptr id g n off =>
  match at_ H id g with
  | some ⟨_,true,.arr sh ap l⟩ =>
   match sizeOk i x,okCells x.cells,Nat.ble (off+i.size) sh.size with
   | true,true,true =>
    match has sh (newElt A sh l n i.size off x) with
    | true=>k .dead (H.set id ⟨g,true,.arr sh ap (A _ fun _=>setN l n (newElt A sh l n i.size off x))⟩)
    | false=>False
   | _,_,_=>False
  | _=>False
 | _=>False
/-- Tests of whole numbers. -/
def ieq (a b:Int):Bool:=decide (a=b)
def ilt (a b:Int):Bool:=decide (a < b)
def ile (a b:Int):Bool:=decide (a≤b)
def seq (a b:ByteArray):Bool:=decide (a=b)
/-- Whole numbers. -/
def ibin (A:Lz) (op:BinOp) (k:IntKind) (a:Int) (k':IntKind) (b:Int) (c:FV→Prop):Prop :=
 match op with
 | .shl=>(A _ fun _=>0≤b)∧c (.int k (A _ fun _=>k.wrap (a*2 ^ min b.toNat k.bits)))
 | .shr=>(A _ fun _=>0≤b)∧c (.int k (A _ fun _=>a / 2 ^ min b.toNat k.bits))
 | _ =>
  match decide (k=k') with
  | false=>False
  | true =>
   match op with
   | .add=>c (.int k (A _ fun _=>k.wrap (a+b)))
   | .sub=>c (.int k (A _ fun _=>k.wrap (a - b)))
   | .mul=>c (.int k (A _ fun _=>k.wrap (a*b)))
   | .quo=>(A _ fun _=>b≠0)∧c (.int k (A _ fun _=>k.wrap (Int.tdiv a b)))
   | .rem=>(A _ fun _=>b≠0)∧c (.int k (A _ fun _=>Int.tmod a b))
   | .and=>c (.int k (A _ fun _=>Go.bits .and k a b))
   | .or=>c (.int k (A _ fun _=>Go.bits .or k a b))
   | .xor=>c (.int k (A _ fun _=>Go.bits .xor k a b))
   | .eql=>c (.bool (A _ fun _=>ieq a b))
   | .neq=>c (.bool (A _ fun _=>!ieq a b))
   | .lss=>c (.bool (A _ fun _=>ilt a b))
   | .leq=>c (.bool (A _ fun _=>ile a b))
   | .gtr=>c (.bool (A _ fun _=>ilt b a))
   | .geq=>c (.bool (A _ fun _=>ile b a))
   | _=>False
/-- Equal cells. -/
def eqC:FV→FV→Bool
 | .int k a,.int k' b=>decide (k=k') && decide (a=b)
 | .bool a,.bool b=>a == b
 | .str a,.str b=>decide (a=b)
 | _,_=>false
def eqL:List FV→List FV→Bool
 | [],[]=>true
 | x::xs,y::ys=>eqC x y && eqL xs ys
 | _,_=>false
def nilF (A:Lz) (x:FV) (c:Bool→Prop):Prop :=
 match x with
 | .nils=>c true
 | .row _ l=>(A _ fun _=>l≠[])∧c false
 | _=>False
def binF (A:Lz) (ti:Option TI) (op:BinOp) (x y:FV) (c:FV→Prop):Prop :=
 match x,y with
 | .int k a,.int k' b=>ibin A op k a k' b c
 | .bool a,.bool b =>
  match ti,op with
  | some ⟨.bool,_,_,_,_,_,_⟩,.eql=>c (.bool (A _ fun _=>a == b))
  | some ⟨.bool,_,_,_,_,_,_⟩,.neq=>c (.bool (A _ fun _=>!(a == b)))
  | _,_=>False
 | .str a,.str b =>
  match op with
  | .add=>(A _ fun _=>a.size+b.size≤4611686018427387904)∧c (.str (A _ fun _=>a++b))
  | .eql=>c (.bool (A _ fun _=>seq a b))
  | .neq=>c (.bool (A _ fun _=>!seq a b))
  | .lss=>c (.bool (A _ fun _=>Op.bytesLess a.toList b.toList))
  | .leq=>c (.bool (A _ fun _=>Op.bytesLess a.toList b.toList || seq a b))
  | .gtr=>c (.bool (A _ fun _=>!(Op.bytesLess a.toList b.toList || seq a b)))
  | .geq=>c (.bool (A _ fun _=>!(Op.bytesLess a.toList b.toList)))
  | _=>False
 | .agg xs,.agg ys =>
  match ti with
  | some i =>
   match i.eq,has i.sh (.agg xs),has i.sh (.agg ys),op with
   | true,true,true,.eql=>c (.bool (A _ fun _=>eqL xs ys))
   | true,true,true,.neq=>c (.bool (A _ fun _=>!(eqL xs ys)))
   | _,_,_,_=>False
  | none=>False
 | x,.nils =>
  match ti with
  | some ⟨.slice _,_,_,_,_,_,_⟩ =>
   match op with
   | .eql=>nilF A x fun b=>c (.bool b)
   | .neq=>nilF A x fun b=>match b with | true=>c (.bool false) | false=>c (.bool true)
   | _=>False
  | _=>False
 | _,_=>False
def notF (A:Lz) (b:Bool):Bool:=A _ fun _=>!b
def unF (A:Lz) (op:UnOp) (x:FV) (c:FV→Prop):Prop :=
 match op,x with
 | .not,.bool b=>c (.bool (notF A b))
 | .neg,.int k n=>c (.int k (A _ fun _=>k.wrap (0 - n)))
 | .xor,.int k n=>c (.int k (A _ fun _=>Go.bits .xor k (if k.signed then -1 else k.max) n))
 | _,_=>False
def convF (A:Lz) (d:TI) (x:FV) (c:FV→Prop):Prop :=
 match x,d.k with
 | .int k n,.int k'=>c (.int k' (A _ fun _=>k'.wrap n))
 | _,_=>False
/-- A struct's cells, of which parts are given. -/
def fillF (fs:List (Nat × Nat × Bool)):List FV→List (Nat × FV)→Option (List FV)
 | z,[]=>some z
 | z,(i,x)::ps =>
  match fs[i]? with
  | some (off,n,_) =>
   match Nat.beq x.cells.length n,Nat.ble (off+n) z.length,okCells x.cells with
   | true,true,true=>fillF fs (putC z off x.cells) ps
   | _,_,_=>none
  | none=>none
/-- The elements of a slice, of which parts are given. -/
def fillE (sh:Shp):List FV→List (Nat × FV)→Option (List FV)
 | z,[]=>some z
 | z,(i,x)::ps =>
  match has sh (fit sh x),Nat.blt i z.length with
  | true,true=>fillE sh (z.set i (fit sh x)) ps
  | _,_=>none
def zeroE (i:TI):FV :=
 match i.agg with
 | true=>fit i.sh (.agg i.zero)
 | false=>fit i.sh (i.zero.headD .dead)
def lenF (A:Lz) (H:Hp) (x:FV) (c:Int→Prop):Prop :=
 match x with
 | .nils=>c 0
 | .row _ l=>c (A _ fun _=>(l.length:Int))
 | .own id g=>match at_ H id g with | some ⟨_,_,.arr _ _ l⟩=>c (A _ fun _=>(l.length:Int)) | _=>False
 | .view id g _ n=>match at_ H id g with | some _=>c (A _ fun _=>(n:Int)) | _=>False
 | _=>False
/-- The elements of a slice, to be read. -/
def readF (A:Lz) (H:Hp) (x:FV) (c:Shp→List FV→Prop):Prop :=
 match x with
 | .row sh l=>c sh l
 | .own id g=>match at_ H id g with | some ⟨_,_,.arr sh _ l⟩=>c sh l | _=>False
 | .view id g lo n=>match at_ H id g with | some ⟨_,_,.arr sh _ l⟩=>c sh (A _ fun _=>(l.drop lo).take n) | _=>False
 | _=>False
def appF (A:Lz) (H:Hp) (d:Nat) (e:TI) (s x:FV) (k:FV→Hp→Prop):Prop :=
 match s with
 | .nils =>
  match x with
  | .nils=>(e.bytes≤65536)∧k .nils H
  | _=>readF A H x fun sh l=>match Shp.eqb sh e.sh with
   | true =>
    match l with
    | []=>(e.bytes≤65536)∧k .nils H
    | _::_=>(e.bytes≤65536)∧(A _ fun _=>l.length*e.bytes≤maxRoom∧l.length≤maxRoom∧l≠[])∧newArr H d e.sh true l k
   | false=>False
 | .own id g =>
  match at_ H id g with
  | some ⟨_,true,.arr sh true l⟩ =>
   match x with
   | .nils=>match Shp.eqb sh e.sh with | true=>(e.bytes≤65536)∧(A _ fun _=>l.length*e.bytes≤maxRoom∧l.length≤maxRoom)∧k s H | false=>False
   | _=>readF A H x fun sh' l'=>match Shp.eqb sh e.sh,Shp.eqb sh' e.sh with
    | true,true=>(e.bytes≤65536)∧(A _ fun _=>(l.length+l'.length)*e.bytes≤maxRoom∧l.length+l'.length≤maxRoom)∧k (.own id (g+1)) (H.set id ⟨g+1,true,.arr sh true (A _ fun _=>l++l')⟩)
    | _,_=>False
  | _=>False
 | _=>False
def minF (A:Lz):List FV→(FV→Prop)→Prop
 | [.int k a,.int k' b],c=>match decide (k=k') with | true=>c (.int k (A _ fun _=>if b < a then b else a)) | false=>False
 | _,_=>False
def maxF (A:Lz):List FV→(FV→Prop)→Prop
 | [.int k a,.int k' b],c=>match decide (k=k') with | true=>c (.int k (A _ fun _=>if a < b then b else a)) | false=>False
 | _,_=>False
/-- Numbers as places. -/
def idxF (A:Lz) (x:FV) (n:Nat) (c:Nat→Prop):Prop :=
 match x with
 | .int _ i=>(A _ fun _=>0≤i∧i.toNat < n)∧c (A _ fun _=>i.toNat)
 | _=>False
/-- A place in a box: a number that is written out. -/
def litF (x:FV) (n:Nat) (c:Nat→Prop):Prop :=
 match x with
 | .int _ i=>match Int.toNat i,decide (0≤i) with | j,true=>(match Nat.blt j n with | true=>c j | false=>False) | _,false=>False
 | _=>False
def boundF (A:Lz) (len:Nat) (lo hi:Option FV) (c:Nat→Nat→Prop):Prop :=
 match lo,hi with
 | none,none=>c 0 len
 | some (.int _ a),none=>(A _ fun _=>0≤a∧a.toNat≤len)∧c (A _ fun _=>a.toNat) len
 | none,some (.int _ b)=>(A _ fun _=>0≤b∧b.toNat≤len)∧c 0 (A _ fun _=>b.toNat)
 | some (.int _ a),some (.int _ b)=>(A _ fun _=>0≤a∧a≤b∧b.toNat≤len)∧c (A _ fun _=>a.toNat) (A _ fun _=>b.toNat)
 | _,_=>False
def sliceF (A:Lz) (H:Hp) (s:Shp) (x:FV) (lo hi:Option FV) (k:FV→Prop):Prop :=
 match x with
 | .row sh l=>match Shp.eqb sh s with | true=>boundF A (A _ fun _=>l.length) lo hi fun a b=>k (.row sh (A _ fun _=>(l.drop a).take (b - a))) | false=>False
 | .own id g =>
  match at_ H id g with
  | some ⟨_,_,.arr sh _ l⟩=>(match Shp.eqb sh s with | true=>boundF A (A _ fun _=>l.length) lo hi fun a b=>k (.view id g a (A _ fun _=>b - a)) | false=>False)
  | _=>False
 | .view id g l0 n =>
  match at_ H id g with
  | some ⟨_,_,.arr sh _ l⟩=>(match Shp.eqb sh s with | true=>boundF A n lo hi fun a b=>k (.view id g (A _ fun _=>l0+a) (A _ fun _=>b - a)) | false=>False)
  | _=>False
 | .nils=>boundF A 0 lo hi fun a b=>k .nils
 | _=>False
def strF (A:Lz) (x:FV) (lo hi:Option FV) (k:FV→Prop):Prop :=
 match x with
 | .str s=>boundF A (A _ fun _=>s.size) lo hi fun a b=>k (.str (A _ fun _=>s.extract a b))
 | _=>False
/-- What is handed to a call, as it stands. -/
def snap (A:Lz) (H:Hp):Nat→FV→Option FV
 | 0,_=>none
 | n+1,x =>
  match x with
  | .own id g=>match at_ H id g with | some ⟨_,_,.arr sh _ l⟩=>some (.row sh l) | _=>none
  | .view id g lo m=>match at_ H id g with | some ⟨_,_,.arr sh _ l⟩=>some (.row sh (A _ fun _=>(l.drop lo).take m)) | _=>none
  | .ptr id g off=>match at_ H id g with | some ⟨_,_,.box cells⟩=>(cells.mapM (snap A H n)).map (.fptr · off) | _=>none
  | .eptr id g i off=>match at_ H id g with | some ⟨_,_,.arr sh _ l⟩=>some (.fptr (elt A sh l i).cells off) | _=>none
  | .agg cs=>(cs.mapM (snap A H n)).map .agg
  | .fn f a b=>match a.mapM (snap A H n),b.mapM (snap A H n) with | some a',some b'=>some (.fn f a' b') | _,_=>none
  | .fptr cells off=>(cells.mapM (snap A H n)).map (.fptr · off)
  | .tup _ | .new _ _ | .dead | .und=>none
  | x=>some x
/-- The numbers that are named in it. -/
def refs (H:Hp):Nat→FV→List Nat
 | 0,_=>[]
 | n+1,x =>
  match x with
  | .own id _ | .view id _ _ _ | .eptr id _ _ _=>[id]
  | .ptr id g off=>id::(match at_ H id g with | some ⟨_,_,.box cells⟩=>cells.flatMap (refs H n) | _=>[])
  | .agg cs | .tup cs | .fptr cs _=>cs.flatMap (refs H n)
  | .fn _ a b=>a.flatMap (refs H n)++b.flatMap (refs H n)
  | _=>[]
def deep:Nat:=6
/-- No place in it. -/
def flatF:Nat→FV→Bool
 | _,.v _ | _,.int _ _ | _,.bool _ | _,.str _ | _,.nils | _,.dead=>true
 | n+1,.agg cs | n+1,.tup cs=>cs.all (flatF n)
 | _,.new (.int _) _ | _,.new .str _ | _,.new .bool _=>true
 | _,.vec (.int _) _ | _,.vec .str _ | _,.vec .bool _=>true
 | _,.new (.agg cs) _=>cs.all Shp.plain
 | _,_=>false
def freeze (H:Hp):List Nat→Hp
 | []=>H
 | i::is=>match H.get i with | some b=>freeze (H.set i ⟨b.gen,false,b.o⟩) is | none=>freeze H is
def inst1 (H:Hp) (d:Nat):FV→FV × Hp
 | .new sh l=>(.own d (ng H d),H.set d ⟨ng H d,true,.arr sh true l⟩)
 | x=>(x,H)
def instL (H:Hp) (d:Nat):List FV→List FV × Hp
 | []=>([],H)
 | x::xs =>
  match inst1 H d x with
  | (y,H1)=>match instL H1 (d+1000) xs with | (ys,H2)=>(y::ys,H2)
def inst (H:Hp) (d:Nat):FV→FV × Hp
 | .tup xs=>match instL H (d+1000) xs with | (ys,H')=>(.tup ys,H')
 | x=>inst1 H d x
def memN:Nat→List Nat→Bool
 | _,[]=>false
 | n,m::l=>match Nat.beq n m with | true=>true | false=>memN n l
def refsL (H:Hp) (xs:List FV):List Nat:=xs.flatMap (refs H deep)
def endF (H:Hp) (fl:Bool) (rs:List Nat) (d:Nat) (r:FV) (k:FV→Hp→Prop):Prop :=
 match fl with
 | true=>(match inst H d r with | (y,H2)=>k y H2)
 | false=>(match inst (freeze H rs) d r with | (y,H2)=>k y H2)
def callF (A:Lz) (S:Tab) (g:Nat) (args:List FV) (H:Hp) (d:Nat) (k:FV→Hp→Prop):Prop :=
 match look S g with
 | none=>False
 | some sp =>
  match sp.own,args with
  | false,args =>
   match args.mapM (snap A H deep) with
   | none=>False
   | some xs=>sp.run A xs fun r _=>endF H (flatF deep r) (refsL H args) d r k
  | true,.own id g::rest =>
   match at_ H id g with
   | some ⟨_,true,.arr sh ap l⟩ =>
    match memN id (refsL H rest),rest.mapM (snap A H deep) with
    | false,some xs=>sp.run A (.row sh l::xs) fun r out =>
     match out with
     | .row sh' l'=>(match Shp.eqb sh sh' with | true=>endF (H.set id ⟨g,true,.arr sh ap l'⟩) (flatF deep r && flatF deep (.new sh [])) (refsL H rest) d r k | false=>False)
     | .dead=>(match ap with | true=>endF (H.set id ⟨g+1,true,.arr sh true []⟩) (flatF deep r) (refsL H rest) d r k | false=>False)
     | _=>False
    | _,_=>False
   | _=>False
  | _,_=>False
def ownOf (S:Tab) (g:Nat):Bool :=
 match look S g with
 | some sp=>sp.own
 | none=>true
def dstN (o:Oper):Nat:=o.dst.getD 999
def tiF (ty:Ty) (t:Nat) (c:TI→Prop):Prop :=
 match look ty t with
 | some i=>c i
 | none=>False
def elF (ty:Ty) (t:Nat) (c:TI→Prop):Prop :=
 match look ty t with
 | some ⟨.slice e,_,_,_,_,_,_⟩=>tiF ty e c
 | _=>False
def builtinF (A:Lz) (ty:Ty) (b:Builtin) (ts:List Nat) (H:Hp) (d:Nat) (args:List FV) (k:FV→Hp→Prop):Prop :=
 match b,args with
 | .len,[x] =>
  match ts with
  | t::_=>tiF ty t fun i =>
   match i.k,x with
   | .str,.str s=>k (.int .i64 (A _ fun _=>(s.size:Int))) H
   | .slice _,x=>lenF A H x fun n=>k (.int .i64 n) H
   | _,_=>False
  | _=>False
 | .append,[s,x] =>
  match ts with
  | [t,t2] =>
   match look ty t2 with
   | some ⟨.slice _,_,_,_,_,_,_⟩=>elF ty t fun e=>appF A H d e s x k
   | _=>False
  | _=>False
 | .min,xs=>minF A xs fun x=>k x H
 | .max,xs=>maxF A xs fun x=>k x H
 | _,_=>False
def opF (A:Lz) (ty:Ty) (S:Tab) (o:Oper) (T:Tr FV) (H:Hp) (k:FV→Hp→Prop):Prop :=
 match o.op with
 | .move x | .assign x=>k (ev T x) H
 | .pick c a b=>match ev T c with | .bool t=>(match t with | true=>k (ev T a) H | false=>k (ev T b) H) | _=>False
 | .alloc t=>tiF ty t fun i =>
  match i.k with
  | .vec _ el=>tiF ty el fun e=>(match e.sh.cell1,i.zero.all (has e.sh) with | true,true=>newVec H (dstN o) e.sh (A _ fun _=>i.zero) k | _,_=>False)
  | _=>newBox H (dstN o) i.zero k
 | .box _ x =>
  match ev T x with
  | .vec sh l=>newVec H (dstN o) sh l k
  | x=>match okCells x.cells with | true=>newBox H (dstN o) x.cells k | false=>False
 | .build t ps=>tiF ty t fun i =>
  match i.k with
  | .strct fs=>(match fillF fs i.zero (ps.toList.map fun p=>(p.1,ev T p.2)) with | some cs=>k (.agg cs) H | none=>False)
  | .arr n el=>tiF ty el fun e=>(match fillF ((List.range n).map fun j=>(j*e.size,e.size,e.agg)) i.zero (ps.toList.map fun p=>(p.1,ev T p.2)) with | some cs=>k (.agg cs) H | none=>False)
  | _=>False
 | .buildSlice t n ps=>elF ty t fun e=>match Nat.ble n 4096,Nat.ble e.size 4096 with
  | true,true=>match has e.sh (zeroE e) with | false=>False | true=>(match fillE e.sh (List.replicate n (zeroE e)) (ps.toList.map fun p=>(p.1,ev T p.2)) with | some l=>newArr H (dstN o) e.sh true l k | none=>False)
  | _,_=>False
 | .load t a=>tiF ty t fun i=>loadF A H i (ev T a) fun x=>k x H
 | .store t a x=>tiF ty t fun i=>storeF A H i (ev T a) (ev T x) k
 | .nilCheck x=>match ev T x with | .ptr id g off=>(match isAt H id g with | true=>k (.ptr id g off) H | false=>False) | .fptr c off=>k (.fptr c off) H | .eptr id g i off=>(match isAt H id g with | true=>k (.eptr id g i off) H | false=>False) | .fn f a b=>k (.fn f a b) H | _=>False
 | .binOp op t x y _=>binF A (look ty t) op (ev T x) (ev T y) fun z=>k z H
 | .unOp op _ x=>unF A op (ev T x) fun z=>k z H
 | .convert s d x=>tiF ty s fun _=>tiF ty d fun i=>convF A i (ev T x) fun z=>k z H
 | .makeFunc (.func f) a b=>k (.fn f (a.toList.map (ev T)) (b.toList.map (ev T))) H
 | .makeSlice t l c=>elF ty t fun e =>
  match ev T l,ev T c with
  | .int _ n,.int _ m=>(has e.sh (zeroE e)=true)∧(A _ fun _=>0≤n∧n≤m∧m.toNat≤mkRoom∧m.toNat*e.bytes≤mkRoom)∧newArr H (dstN o) e.sh true (A _ fun _=>List.replicate n.toNat (zeroE e)) k
  | _,_=>False
 | .slice t x lo hi none=>tiF ty t fun i =>
  match i.k with
  | .slice el=>tiF ty el fun e=>sliceF A H e.sh (ev T x) (lo.map (ev T)) (hi.map (ev T)) fun z=>k z H
  | .str=>strF A (ev T x) (lo.map (ev T)) (hi.map (ev T)) fun z=>k z H
  | _=>False
 | .fieldAddr s x f=>tiF ty s fun i =>
  match i.k with
  | .strct fs =>
   match fs[f]? with
   | some (off,n+1,_) =>
    match ev T x with
    | .ptr id g o=>(match isAt H id g with | true=>k (.ptr id g (o+off)) H | false=>False)
    | .eptr id g j o=>(match isAt H id g with | true=>k (.eptr id g j (o+off)) H | false=>False)
    | .fptr c o=>k (.fptr c (o+off)) H
    | _=>False
   | _=>False
  | _=>False
 | .field t x f=>tiF ty t fun i =>
  match i.k with
  | .strct fs =>
   match fs[f]?,ev T x with
   | some (off,n,ag),.agg cs=>(match ag with | true=>k (.agg ((cs.drop off).take n)) H | false=>(match Nat.blt off cs.length with | true=>k (cs.getD off .dead) H | false=>False))
   | _,_=>False
  | _=>False
 | .indexAddr t x i=>tiF ty t fun j =>
  match j.k with
  | .slice el=>tiF ty el fun e =>
   match ev T x with
   | .row sh l=>match Shp.eqb sh e.sh with | true=>idxF A (ev T i) (A _ fun _=>l.length) fun n=>k (.fptr (elt A sh l n).cells 0) H | false=>False
   | .own id g=>match at_ H id g with | some ⟨_,_,.arr sh _ l⟩=>(match Shp.eqb sh e.sh with | true=>idxF A (ev T i) (A _ fun _=>l.length) fun n=>k (.eptr id g n 0) H | false=>False) | _=>False
   | .view id g lo m=>match at_ H id g with | some ⟨_,_,.arr sh _ l⟩=>(match Shp.eqb sh e.sh with | true=>idxF A (ev T i) m fun n=>k (.eptr id g (A _ fun _=>lo+n) 0) H | false=>False) | _=>False
   | _=>False
  | .arr n el=>tiF ty el fun e=>litF (ev T i) n fun q =>
   match ev T x with
   | .ptr id g o=>(match isAt H id g with | true=>k (.ptr id g (o+q*e.size)) H | false=>False)
   | .fptr c o=>k (.fptr c (o+q*e.size)) H
   | _=>False
  | .vec n el=>tiF ty el fun e =>
   match ev T x with
   | .ptr id g 0=>(match at_ H id g with | some ⟨_,_,.arr sh _ l⟩=>(match Shp.eqb sh e.sh with | true=>(A _ fun _=>l.length=n)∧idxF A (ev T i) n fun m=>k (.eptr id g m 0) H | false=>False) | _=>False)
   | _=>False
  | _=>False
 | .index t x i=>tiF ty t fun j =>
  match j.k,ev T x with
  | .str,.str s=>idxF A (ev T i) (A _ fun _=>s.size) fun n=>k (.int .u8 (A _ fun _=>((s.data.toList.getD n 0).toNat:Int))) H
  | .vec n el,.vec sh l=>tiF ty el fun e=>(match e.agg with | false=>(A _ fun _=>l.length=n)∧idxF A (ev T i) n fun m=>k (elt A sh l m) H | true=>False)
  | _,_=>False
 | .extract x i=>match ev T x with | .tup vs=>(match Nat.blt i vs.length with | true=>k (vs.getD i .dead) H | false=>False) | _=>False
 | .call c =>
  match c.callee with
  | .builtin b=>builtinF A ty b c.argTypes.toList H (dstN o) (c.args.toList.map (ev T)) k
  | .value f =>
   match ev T f with
   | .fn g a b=>callF A S g (a++c.args.toList.map (ev T)++b) H (dstN o) k
   | _=>False
  | _=>False
 | _=>False
def loudB:Builtin→Bool
 | .append=>true
 | _=>false
/-- It may write to what was there. -/
def loud (S:Tab) (T:Tr FV) (o:Oper):Bool :=
 match o.op with
 | .store _ _ _=>true
 | .call c =>
  match c.callee with
  | .builtin b=>loudB b
  | .value f=>match ev T f with | .fn g _ _=>ownOf S g | _=>true
  | _=>true
 | _=>false
/-- It may be drawn. -/
def quietF (S:Tab) (ops:List Oper) (draw:Bool) (o:Oper) (j:Nat) (T:Tr FV):Bool :=
 match draw with
 | false=>true
 | true =>
  match loud S T o with
  | false=>true
  | true=>barrierB ops j
def putF (T:Tr FV) (d:Option Tmp) (x:FV):Tr FV :=
 match d with
 | some d=>T.set d x
 | none=>T
def guardF (ops:List Oper) (o:Oper) (T:Tr FV) (yes no:Tr FV→Prop):Prop :=
 match o.guard with
 | none=>yes T
 | some (j,want) =>
  match (ops[j]?).bind (·.dst) with
  | some d =>
   match gt T d with
   | .bool b=>(match b with | true=>(match want with | true=>yes (T.set d (.bool true)) | false=>no (T.set d (.bool true))) | false=>(match want with | true=>no (T.set d (.bool false)) | false=>yes (T.set d (.bool false))))
   | .und=>no T
   | _=>False
  | none=>False
def opsF (A:Lz) (ty:Ty) (S:Tab) (ops:List Oper) (draw:Bool):List Oper→Nat→Tr FV→Hp→(Tr FV→Hp→Prop)→Prop
 | [],_,T,H,k=>k T H
 | o::r,j,T,H,k =>
  guardF ops o T (fun T=>match quietF S ops draw o j T with
    | false=>False
    | true=>opF A ty S o T H fun x H'=>opsF A ty S ops draw r (j+1) (putF T o.dst x) H' k)
   (fun T=>opsF A ty S ops draw r (j+1) (putF T o.dst .und) H k)
abbrev VS:=Tr FV × Hp
def catchF (id:Nat) (ex:Ex):Ex :=
 match ex with
 | .exit i=>match Nat.beq i id with | true=>.norm | false=>.exit i
 | e=>e
/-- What is kept of a register ahead of a round: its data; a slice that is written (nil is an empty one); one that is only read from now on; a box; whatever it is, to be read only. -/
inductive WK where
 | keep
 | own (sh:Shp)
 | row (sh:Shp)
 | box
 | vec (sh:Shp)
 | frz
/-- A register, what it is now, what lies under its number, whose it was, and what is only read from now on. -/
structure Kept where
 r:Nat
 x:FV
 b:Option VB
 own:List Nat
 ro:List Nat
def nar1 (A:Lz) (H:Hp) (r:Nat) (w:WK) (x:FV):Option Kept :=
 match w with
 | .keep =>
  match snap A H deep x,refs H deep x with
  | some y,[]=>some ⟨r,y,none,[],[]⟩
  | _,_=>none
 | .frz =>
  match snap A H deep x with
  | some y=>some ⟨r,y,none,[],refs H deep x⟩
  | none=>none
 | .row sh =>
  match x with
  | .nils=>some ⟨r,.row sh [],none,[],[]⟩
  | x =>
   match snap A H deep x with
   | some (.row sh' l)=>match Shp.eqb sh' sh with | true=>some ⟨r,.row sh' l,none,[],refs H deep x⟩ | false=>none
   | _=>none
 | .own sh =>
  match x with
  | .nils=>some ⟨r,.own r 0,some ⟨0,true,.arr sh true []⟩,[],[]⟩
  | .own id g =>
   match at_ H id g with
   | some ⟨_,true,.arr sh' ap l⟩=>match Shp.eqb sh' sh with | true=>some ⟨r,.own r 0,some ⟨0,true,.arr sh' ap l⟩,[id],[]⟩ | false=>none
   | _=>none
  | _=>none
 | .box =>
  match x with
  | .ptr id g 0 =>
   match at_ H id g with
   | some ⟨_,true,.box cells⟩ =>
    match cells.mapM (snap A H deep),cells.flatMap (refs H deep) with
    | some ys,[]=>some ⟨r,.ptr r 0 0,some ⟨0,true,.box ys⟩,[id],[]⟩
    | _,_=>none
   | _=>none
  | _=>none
 | .vec sh =>
  match x with
  | .ptr id g 0 =>
   match at_ H id g with
   | some ⟨_,true,.arr sh' true l⟩=>match Shp.eqb sh' sh with | true=>some ⟨r,.ptr r 0 0,some ⟨0,true,.arr sh' true l⟩,[id],[]⟩ | false=>none
   | _=>none
  | _=>none
def narM (A:Lz) (s:VS):List (Nat × WK)→Option (List Kept)
 | []=>some []
 | (r,w)::ds =>
  match nar1 A s.2 r w (gt s.1 r),narM A s ds with
  | some p,some ps=>some (p::ps)
  | _,_=>none
def nodupN:List Nat→Bool
 | []=>true
 | n::l=>match memN n l with | true=>false | false=>nodupN l
def apartN:List Nat→List Nat→Bool
 | [],_=>true
 | n::l,m=>match memN n m with | true=>false | false=>apartN l m
def keptT:List Kept→Tr FV
 | []=>.nil
 | p::ps=>(keptT ps).set p.r p.x
def keptH:List Kept→Hp
 | []=>.nil
 | p::ps=>match p.b with | some b=>(keptH ps).set p.r b | none=>keptH ps
def narF (A:Lz) (ds:List (Nat × WK)) (s:VS) (k:VS→Prop):Prop :=
 match narM A s ds with
 | some ps =>
  match nodupN (ps.map (·.r)),nodupN (ps.flatMap (·.own)),apartN (ps.flatMap (·.own)) (ps.flatMap (·.ro)) with
  | true,true,true=>k (keptT ps,keptH ps)
  | _,_,_=>False
 | none=>False
/-- What is to be shown of a loop: what holds of that which is kept, ahead of each round. -/
def loopF (body:VS→(Ex→VS→Prop)→Prop) (s:VS) (Q:Ex→VS→Prop):Prop :=
 ∃ (ds:List (Nat × WK)) (I:Nat→VS→Prop),(∃ n,narF std ds s (I n))∧∀ n s,I n s→body s fun ex s'=>match ex with | .norm=>∃ m,m < n∧narF std ds s' (I m) | e=>Q e s'
/-- A loop, gone through by what holds ahead of each round, or round by round. -/
inductive LoopW (body:VS→(Ex→VS→Prop)→Prop) (Q:Ex→VS→Prop):VS→Prop where
 | inv {s:VS} (h:loopF body s Q):LoopW body Q s
 | step {s:VS} (P:VS→Prop) (hP:∀ s',P s'→LoopW body Q s') (h:body s fun ex s'=>match ex with | .norm=>P s' | e=>Q e s'):LoopW body Q s
/-- What is known behind a test. -/
def setC (o:Operand) (t:Bool) (s:VS):VS :=
 match o with
 | .tmp d=>(s.1.set d (.bool t),s.2)
 | _=>s
def wpF (A:Lz) (ty:Ty) (S:Tab):Code→VS→(Ex→VS→Prop)→Prop
 | .skip,s,Q=>Q .norm s
 | .region _ ops draw,s,Q=>opsF A ty S ops.toList draw ops.toList 0 s.1 s.2 fun T H=>Q .norm (T,H)
 | .seq a b,s,Q=>wpF A ty S a s fun ex s'=>match ex with | .norm=>wpF A ty S b s' Q | e=>Q e s'
 | .cond o a b,s,Q =>
  match ev s.1 o with
  | .bool t=>(match t with | true=>wpF A ty S a (setC o true s) Q | false=>wpF A ty S b (setC o false s) Q)
  | _=>False
 | .block id c,s,Q=>wpF A ty S c s fun ex s'=>Q (catchF id ex) s'
 | .loop c,s,Q=>A _ fun _=>LoopW (wpF A ty S c) Q s
 | .exit id,s,Q=>Q (.exit id) s
 | .ret,s,Q=>Q .ret s
 | _,_,_=>False
/-- Results, as they stand. -/
def resF (A:Lz) (ty:Ty) (s:VS):List ResultVar→(List FV→Prop)→Prop
 | [],k=>k []
 | .tmp t::rs,k=>resF A ty s rs fun xs=>k (gt s.1 t::xs)
 | .cell a t::rs,k=>tiF ty t fun i=>loadF A s.2 i (gt s.1 a) fun x=>resF A ty s rs fun xs=>k (x::xs)
/-- A result as the caller sees it: a slice that is nobody else's ('nw'), or what may only be read; with the numbers of those, and of these. -/
def out1 (A:Lz) (H:Hp) (nw:Bool) (x:FV):Option (FV × List Nat × List Nat) :=
 match nw,x with
 | true,.own id g =>
  match at_ H id g with
  | some ⟨_,true,.arr sh true l⟩=>some (.new sh l,[id],[])
  | _=>none
 | _,x=>(snap A H deep x).map fun y=>(y,[],refs H deep x)
def outsF (A:Lz) (H:Hp):List Bool→List FV→Option (List FV × List Nat × List Nat)
 | _,[]=>some ([],[],[])
 | nws,x::xs =>
  match out1 A H (nws.headD false) x,outsF A H nws.tail xs with
  | some (y,a,b),some (ys,as,bs)=>some (y::ys,a++as,b++bs)
  | _,_=>none
def packF:List FV→FV
 | [y]=>y
 | ys=>.tup ys
/-- What a function tells, behind its code. -/
def retF (A:Lz) (ty:Ty) (own:Bool) (nws:List Bool) (rs:List ResultVar) (s:VS) (q:FV→FV→Prop):Prop :=
 resF A ty s rs fun xs =>
  match outsF A s.2 nws xs with
  | some (ys,as,bs) =>
   match own with
   | false=>(match nodupN as,apartN as bs with | true,true=>q (packF ys) .dead | _,_=>False)
   | true =>
    match gt s.1 0 with
    | .own id g =>
     match at_ s.2 id g with
     | some ⟨_,true,.arr sh false l⟩=>(match nodupN (id::as),apartN (id::as) bs with | true,true=>q (packF ys) (.row sh l) | _,_=>False)
     | _=>False
    | _=>False
  | none=>False
def initF:Nat→List FV→Tr FV→Tr FV
 | _,[],T=>T
 | i,x::xs,T=>initF (i+1) xs (T.set i x)
def startF (own:Bool) (args:List FV):VS :=
 match own,args with
 | true,.row sh l::rest=>(initF 0 (.own 0 0::rest) .nil,Tr.set .nil 0 ⟨0,true,.arr sh false l⟩)
 | _,args=>(initF 0 args .nil,.nil)
end Go.Proofs.YtmndbhgbngkakaaDoor.G
end
section
/- Go code over plain data: how plain data stand in the evaluator's memory. No condition but those that are written out. -/
namespace Go.Proofs.YtmndbhgbngkakaaDoor.G
open Go Go.RowKit Go.Proofs.YtmndbhgbngkakaaDoor.E
set_option linter.all false

/-- What lies under a number: its age, its row and where in that it begins, the cells of an element, how many elements, the row's cells and its own size of elements. -/
structure Inf where
 gen:Nat
 pos:Option (Nat × Nat)
 e:Nat
 len:Nat
 rl:Nat
 ez:Nat
/-- What a frame may not touch: families of others; and what was handed to it to be changed. -/
structure Fgn where
 set:Nat→Prop
 par:Option Inf
instance:CoeFun Fgn (fun _=>Nat→Prop):=⟨Fgn.set⟩
structure Cx where
 H:Mem
 own:Nat→Prop
 wr:Nat→Prop
 inf:Nat→Option Inf
 bad:Fgn
/-- A slice of n elements of e cells, from cell 'off' of a row of 'rl' cells on, may be cut with this capacity. -/
def CapOk (rl ez e off n cap:Nat):Prop:=cap=RO∨(cap=OPEN∧ez=e)∨(n≤cap∧cap < OPEN)
/-- ... and be appended to: it ends where its row ends. -/
def CapOwn (rl ez e off n cap:Nat):Prop:=(cap=OPEN∧ez=e∧off+n*e=rl)∨(n≤cap∧cap < OPEN∧off+cap*e≤rl)
def OwnV (i:Inf) (v:Value):Prop :=
 match i.pos with
 | some (r,b)=>∃ cap,v=.slice (some ⟨r,b,none⟩) i.len cap∧CapOwn i.rl i.ez i.e b i.len cap
 | none=>v=.slice none 0 0∧i.len=0
def ViewV (i:Inf) (lo n:Nat) (v:Value):Prop :=
 match i.pos with
 | some (r,b)=>lo+n≤i.len∧((∃ cap,v=.slice (some ⟨r,b+lo*i.e,none⟩) n cap∧cap≠RO∧CapOk i.rl i.ez i.e (b+lo*i.e) n cap)∨(n=0∧∃ A cap,v=.slice (some A) 0 cap∧A.spot=none∧cap < OPEN))
 | none=>v=.slice none 0 0∧i.len=0∧lo+n=0
def Stb (C:Cx) (i:Nat) (eb:Blk):Prop:=C.H.live i=some eb∧(eb.ro=true∨(¬ C.own eb.fam∧¬ C.bad eb.fam))
inductive FR (C:Cx):FV→Value→Prop where
 | v {x:Value} (hf:flat depth x=true) (h1:x.oneCell'=true):FR C (.v x) x
 | int (k:IntKind) (n:Int):FR C (.int k n) (.int k n)
 | bool (b:Bool):FR C (.bool b) (.bool b)
 | str (s:ByteArray):FR C (.str s) (.string s)
 | nils:FR C .nils (.slice none 0 0)
 | agg {xs:List FV} {ys:Array Value} (hn:xs.length=ys.size) (h:∀ (i:Nat) x y,xs[i]?=some x→ys[i]?=some y→FR C x y):FR C (.agg xs) (.agg ys)
 | tup {xs:List FV} {ys:Array Value} (hn:xs.length=ys.size) (h:∀ (i:Nat) x y,xs[i]?=some x→ys[i]?=some y→FR C x y):FR C (.tup xs) (.tuple ys)
 | vec {sh:Shp} {l:List FV} {ys:Array Value} (h1:sh.cell1=true) (hn:l.length=ys.size) (hs:∀ x,x∈l→has sh x=true) (h:∀ (i:Nat) x y,l[i]?=some x→ys[i]?=some y→FR C x y):FR C (.vec sh l) (.agg ys)
 | rowN (sh:Shp):FR C (.row sh []) (.slice none 0 0)
 | rowE (sh:Shp) {a:Addr} {cap:Nat} (hs:a.spot=none) (hc:cap=RO∨cap < OPEN):FR C (.row sh []) (.slice (some a) 0 cap)
 | row {sh:Shp} {l:List FV} {i off cap:Nat} {eb:Blk} (hl:Stb C i eb) (hr:off+l.length*sh.size≤eb.cells.length) (hc:CapOk eb.cells.length eb.esz sh.size off l.length cap)
   (hs:∀ x,x∈l→has sh x=true) (h:∀ (n:Nat) x (j:Nat) c y,l[n]?=some x→x.cells[j]?=some c→eb.cells[off+n*sh.size+j]?=some y→FR C c y):FR C (.row sh l) (.slice (some ⟨i,off,none⟩) l.length cap)
 | own {id g:Nat} {v:Value} {i:Inf} (hi:C.inf id=some i) (hg:g≤i.gen) (h1:v.oneCell'=true) (h:g=i.gen→OwnV i v):FR C (.own id g) v
 | view {id g lo n:Nat} {v:Value} {i:Inf} (hi:C.inf id=some i) (hg:g≤i.gen) (h1:v.oneCell'=true) (h:g=i.gen→ViewV i lo n v):FR C (.view id g lo n) v
 | ptr {id g off:Nat} {v:Value} {i:Inf} (hi:C.inf id=some i) (hg:g≤i.gen) (h1:v.oneCell'=true) (h:g=i.gen→∃ r b,i.pos=some (r,b)∧v=.pointer (some ⟨r,b+off,none⟩)):FR C (.ptr id g off) v
 | eptr {id g n off:Nat} {v:Value} {i:Inf} (hi:C.inf id=some i) (hg:g≤i.gen) (h1:v.oneCell'=true) (h:g=i.gen→n < i.len∧∃ r b,i.pos=some (r,b)∧v=.pointer (some ⟨r,b+n*i.e+off,none⟩)):FR C (.eptr id g n off) v
 | fptr {cells:List FV} {i o off:Nat} {eb:Blk} (hl:Stb C i eb) (hr:o+cells.length≤eb.cells.length) (h:∀ (j:Nat) c y,cells[j]?=some c→eb.cells[o+j]?=some y→FR C c y):FR C (.fptr cells off) (.pointer (some ⟨i,o+off,none⟩))
 | fn (f:Nat) {a b:List FV} {va vb:Array Value} (ha:a.length=va.size) (h:∀ (i:Nat) x y,a[i]?=some x→va[i]?=some y→FR C x y) (hb:b.length=vb.size) (h':∀ (i:Nat) x y,b[i]?=some x→vb[i]?=some y→FR C x y) :
   FR C (.fn f a b) (.func (.func f) va vb)
 | und:FR C .und undef
 | dead (v:Value):FR C .dead v
structure Le (C C':Cx):Prop where
 st:∀ i b,Stb C i b→Stb C' i b
 inf:∀ id i,C.inf id=some i→∃ i',C'.inf id=some i'∧(i.gen < i'.gen∨i'=i)
theorem Le.refl (C:Cx):Le C C:=⟨fun _ _ h=>h,fun id i h=>⟨i,h,.inr rfl⟩⟩
theorem Le.trans {a b c:Cx} (h:Le a b) (k:Le b c):Le a c:=by
 refine ⟨fun i b hb=>k.st i b (h.st i b hb),fun id i hi=>?_⟩
 obtain ⟨i1,h1,c1⟩:=h.inf id i hi
 obtain ⟨i2,h2,c2⟩:=k.inf id i1 h1
 refine ⟨i2,h2,?_⟩
 rcases c1 with c1 | rfl
 ·rcases c2 with c2 | rfl
  ·exact .inl (Nat.lt_trans c1 c2)
  ·exact .inl c1
 ·exact c2
theorem FR.mono {C C':Cx} (L:Le C C') {x:FV} {v:Value} (h:FR C x v):FR C' x v:=by
 induction h with
 | v hf h1=>exact .v hf h1
 | int k n=>exact .int k n
 | bool b=>exact .bool b
 | str s=>exact .str s
 | nils=>exact .nils
 | agg hn _ ih=>exact .agg hn ih
 | tup hn _ ih=>exact .tup hn ih
 | vec h1 hn hs _ ih=>exact .vec h1 hn hs ih
 | rowN sh=>exact .rowN sh
 | rowE sh hs hc=>exact .rowE sh hs hc
 | row hl hr hc hs _ ih=>exact .row (L.st _ _ hl) hr hc hs ih
 | own hi hg h1 h =>
  obtain ⟨i',h',c⟩:=L.inf _ _ hi
  rcases c with c | rfl
  ·exact .own h' (by omega) h1 (fun e=>by omega)
  ·exact .own h' hg h1 h
 | view hi hg h1 h =>
  obtain ⟨i',h',c⟩:=L.inf _ _ hi
  rcases c with c | rfl
  ·exact .view h' (by omega) h1 (fun e=>by omega)
  ·exact .view h' hg h1 h
 | ptr hi hg h1 h =>
  obtain ⟨i',h',c⟩:=L.inf _ _ hi
  rcases c with c | rfl
  ·exact .ptr h' (by omega) h1 (fun e=>by omega)
  ·exact .ptr h' hg h1 h
 | eptr hi hg h1 h =>
  obtain ⟨i',h',c⟩:=L.inf _ _ hi
  rcases c with c | rfl
  ·exact .eptr h' (by omega) h1 (fun e=>by omega)
  ·exact .eptr h' hg h1 h
 | fptr hl hr _ ih=>exact .fptr (L.st _ _ hl) hr ih
 | fn f ha _ hb _ ih ih'=>exact .fn f ha ih hb ih'
 | und=>exact .und
 | dead v=>exact .dead v
/-! ### Lists -/
def FRs (C:Cx) (xs:List FV) (ys:List Value):Prop:=xs.length=ys.length∧∀ (i:Nat) x y,xs[i]?=some x→ys[i]?=some y→FR C x y
theorem FRs.nil (C:Cx):FRs C [] []:=⟨rfl,fun i x y h=>by simp at h⟩
theorem FRs.cons {C:Cx} {x:FV} {y:Value} {xs:List FV} {ys:List Value} (h:FR C x y) (t:FRs C xs ys):FRs C (x::xs) (y::ys):=by
 refine ⟨by simp [t.1],fun i a b ha hb=>?_⟩
 cases i with
 | zero=>simp at ha hb;subst ha;subst hb;exact h
 | succ i=>simp at ha hb;exact t.2 i a b ha hb
theorem FRs.of_cons {C:Cx} {x:FV} {xs:List FV} {ys:List Value} (h:FRs C (x::xs) ys):∃ y ys',ys=y::ys'∧FR C x y∧FRs C xs ys':=by
 cases ys with
 | nil=>have:=h.1;simp at this
 | cons y ys=>exact ⟨y,ys,rfl,h.2 0 x y rfl rfl,by have:=h.1;simpa using this,fun i a b ha hb=>h.2 (i+1) a b (by simpa using ha) (by simpa using hb)⟩
theorem FRs.of_nil {C:Cx} {ys:List Value} (h:FRs C [] ys):ys=[]:=by have:=h.1;simp at this;exact List.length_eq_zero_iff.1 this.symm
theorem FRs.mono {C C':Cx} (L:Le C C') {xs:List FV} {ys:List Value} (h:FRs C xs ys):FRs C' xs ys:=⟨h.1,fun i x y a b=>(h.2 i x y a b).mono L⟩
theorem FRs.append {C:Cx} {xs xs':List FV} {ys ys':List Value} (h:FRs C xs ys) (h':FRs C xs' ys'):FRs C (xs++xs') (ys++ys'):=by
 refine ⟨by simp [h.1,h'.1],fun i a b ha hb=>?_⟩
 rw [List.getElem?_append] at ha hb
 rw [← h.1] at hb
 split at ha
 ·rename_i hi;rw [if_pos hi] at hb;exact h.2 i a b ha hb
 ·rename_i hi;rw [if_neg hi] at hb;exact h'.2 _ a b ha hb
theorem FRs.take {C:Cx} {xs:List FV} {ys:List Value} (h:FRs C xs ys) (n:Nat):FRs C (xs.take n) (ys.take n):=by
 refine ⟨by simp [h.1],fun i a b ha hb=>?_⟩
 rw [List.getElem?_take] at ha hb
 split at ha
 ·rename_i hi;rw [if_pos hi] at hb;exact h.2 i a b ha hb
 ·simp at ha
theorem FRs.drop {C:Cx} {xs:List FV} {ys:List Value} (h:FRs C xs ys) (n:Nat):FRs C (xs.drop n) (ys.drop n):=by
 refine ⟨by simp [h.1],fun i a b ha hb=>?_⟩
 rw [List.getElem?_drop] at ha hb
 exact h.2 _ a b ha hb
theorem FRs.of_agg {C:Cx} {xs:List FV} {v:Value} (h:FR C (.agg xs) v):∃ ys,v=.agg ys∧FRs C xs ys.toList:=by
 cases h with | agg hn h=>exact ⟨_,rfl,by simpa using hn,fun i x y a b=>h i x y a (by simpa using b)⟩
theorem FRs.agg {C:Cx} {xs:List FV} {ys:List Value} (h:FRs C xs ys):FR C (.agg xs) (.agg ys.toArray):=.agg (by simpa using h.1) (fun i x y a b=>h.2 i x y a (by simpa using b))
theorem FRs.agg' {C:Cx} {xs:List FV} {ys:Array Value} (h:FRs C xs ys.toList):FR C (.agg xs) (.agg ys):=.agg (by simpa using h.1) (fun i x y a b=>h.2 i x y a (by simpa using b))
theorem FRs.of_tup {C:Cx} {xs:List FV} {v:Value} (h:FR C (.tup xs) v):∃ ys,v=.tuple ys∧FRs C xs ys.toList:=by
 cases h with | tup hn h=>exact ⟨_,rfl,by simpa using hn,fun i x y a b=>h i x y a (by simpa using b)⟩
theorem FRs.tup' {C:Cx} {xs:List FV} {ys:Array Value} (h:FRs C xs ys.toList):FR C (.tup xs) (.tuple ys):=.tup (by simpa using h.1) (fun i x y a b=>h.2 i x y a (by simpa using b))
theorem FRs.of_fn {C:Cx} {f:Nat} {a b:List FV} {v:Value} (h:FR C (.fn f a b) v):∃ va vb,v=.func (.func f) va vb∧FRs C a va.toList∧FRs C b vb.toList:=by
 cases h with | fn f ha h hb h'=>exact ⟨_,_,rfl,⟨by simpa using ha,fun i x y p q=>h i x y p (by simpa using q)⟩,⟨by simpa using hb,fun i x y p q=>h' i x y p (by simpa using q)⟩⟩
theorem FR.of_int {C:Cx} {k:IntKind} {n:Int} {v:Value} (h:FR C (.int k n) v):v=.int k n:=by cases h;rfl
theorem FR.of_bool {C:Cx} {b:Bool} {v:Value} (h:FR C (.bool b) v):v=.bool b:=by cases h;rfl
theorem FR.of_str {C:Cx} {s:ByteArray} {v:Value} (h:FR C (.str s) v):v=.string s:=by cases h;rfl
theorem FR.of_nils {C:Cx} {v:Value} (h:FR C .nils v):v=.slice none 0 0:=by cases h;rfl
theorem FR.cells {C:Cx} {x:FV} {v:Value} (h:FR C x v) (hd:x≠.dead):FRs C x.cells v.cells.toList:=by
 cases h with
 | agg hn h=>exact ⟨by simpa [FV.cells,Value.cells] using hn,fun i x y a b=>h i x y a (by simpa [Value.cells] using b)⟩
 | vec h1 hn hs h=>exact ⟨by simpa [FV.cells,Value.cells] using hn,fun i x y a b=>h i x y a (by simpa [Value.cells] using b)⟩
 | dead v=>exact absurd rfl hd
 | own hi hg h1 h=>cases v<;>simp [Value.oneCell'] at h1<;>exact (FRs.nil C).cons (.own hi hg rfl h)
 | view hi hg h1 h=>cases v<;>simp [Value.oneCell'] at h1<;>exact (FRs.nil C).cons (.view hi hg rfl h)
 | ptr hi hg h1 h=>cases v<;>simp [Value.oneCell'] at h1<;>exact (FRs.nil C).cons (.ptr hi hg rfl h)
 | eptr hi hg h1 h=>cases v<;>simp [Value.oneCell'] at h1<;>exact (FRs.nil C).cons (.eptr hi hg rfl h)
 | v hf h1=>cases v<;>simp [Value.oneCell'] at h1<;>exact (FRs.nil C).cons (.v hf rfl)
 | int k n=>exact (FRs.nil C).cons (.int k n)
 | bool b=>exact (FRs.nil C).cons (.bool b)
 | str s=>exact (FRs.nil C).cons (.str s)
 | nils=>exact (FRs.nil C).cons .nils
 | und=>exact (FRs.nil C).cons .und
 | tup hn h=>exact (FRs.nil C).cons (.tup hn h)
 | rowN sh=>exact (FRs.nil C).cons (.rowN sh)
 | rowE sh hs hc=>exact (FRs.nil C).cons (.rowE sh hs hc)
 | row hl hr hc hs h=>exact (FRs.nil C).cons (.row hl hr hc hs h)
 | fptr hl hr h=>exact (FRs.nil C).cons (.fptr hl hr h)
 | fn f ha h hb h'=>exact (FRs.nil C).cons (.fn f ha h hb h')
theorem FR.one {C:Cx} {x:FV} {v:Value} (h:FR C x v) (ho:okCell x=true):v.oneCell'=true:=by
 cases h<;>first | rfl | assumption | (simp [okCell] at ho)
theorem okCells_mem:∀ {xs:List FV},okCells xs=true→∀ x,x∈xs→okCell x=true
 | [],_,x,hx=>by cases hx
 | c::cs,h,x,hx=>by
  unfold okCells at h
  split at h
  ·rename_i hc
   cases hx with
   | head=>exact hc
   | tail _ hx=>exact okCells_mem h x hx
  ·cases h
theorem FRs.one {C:Cx} {xs:List FV} {ys:List Value} (h:FRs C xs ys) (ho:okCells xs=true):∀ y,y∈ys→y.oneCell'=true:=fun y hy=>by
 obtain ⟨i,hi,e⟩:=List.mem_iff_getElem.1 hy
 have hx:i < xs.length:=by rw [h.1];exact hi
 exact (h.2 i xs[i] y (List.getElem?_eq_getElem hx) (by rw [List.getElem?_eq_getElem hi,e])).one (okCells_mem ho _ (List.getElem_mem hx))
/-! ### What lies under the numbers -/
def ObjR (C:Cx) (i:Inf) (b:VB):Prop :=
 match b.o,i.pos with
 | .box cells,some (r,bs)=>i.e=1∧∃ eb,C.H.live r=some eb∧eb.ro=false∧(b.w=true→C.own eb.fam∧C.wr eb.fam)∧(b.w=false→¬ C.own eb.fam)∧i.rl=eb.cells.length∧i.ez=eb.esz∧i.len=cells.length∧bs+cells.length≤i.rl ∧
   (∀ (j:Nat) c y,cells[j]?=some c→eb.cells[bs+j]?=some y→FR C c y)
 | .box _,none=>False
 | .arr sh ap l,some (r,bs)=>i.e=sh.size∧∃ eb,C.H.live r=some eb∧eb.ro=false∧(b.w=true→C.own eb.fam∧C.wr eb.fam)∧(b.w=false→¬ C.own eb.fam)∧i.rl=eb.cells.length∧i.ez=eb.esz∧i.len=l.length∧bs+l.length*sh.size≤i.rl ∧
   (∀ x,x∈l→has sh x=true)∧∀ (n:Nat) x (j:Nat) c y,l[n]?=some x→x.cells[j]?=some c→eb.cells[bs+n*sh.size+j]?=some y→FR C c y
 | .arr sh ap l,none=>i.e=sh.size∧l=[]∧i.len=0
structure HR (C:Cx) (hp:Hp):Prop where
 wf:WF C.H
 inf:∀ id b,hp.get id=some b→∃ i,C.inf id=some i∧i.gen=b.gen∧ObjR C i b
 none:∀ id,hp.get id=none→C.inf id=none
 apart:∀ id id' i i' r b r' b' eb eb',C.inf id=some i→C.inf id'=some i'→i.pos=some (r,b)→i'.pos=some (r',b')→C.H.live r=some eb→C.H.live r'=some eb'→eb.fam=eb'.fam→id=id'
 good:∀ id i r b eb,C.inf id=some i→i.pos=some (r,b)→C.H.live r=some eb→¬ C.bad eb.fam
 bnd:∀ f,C.own f∨C.bad f→f < C.H.n
 par:∀ id g sh l i,hp.get id=some ⟨g,true,.arr sh false l⟩→C.inf id=some i→C.bad.par=some { i with gen:=0 }
def RS (C:Cx) (T:Tr FV) (Te:Tr Value):Prop:=∀ r,FR C (gt T r) ((Te.get r).getD undef)
theorem RS.mono {C C':Cx} (L:Le C C') {T:Tr FV} {Te:Tr Value} (h:RS C T Te):RS C' T Te:=fun r=>(h r).mono L
theorem RS.put {C:Cx} {T:Tr FV} {Te:Tr Value} (h:RS C T Te) {x:FV} {v:Value} (hx:FR C x v) (d:Option Tmp):RS C (putF T d x) (putT Te d v):=by
 cases d with
 | none=>exact h
 | some d =>
  intro r
  simp only [putF,putT,gt,Tr.get_set]
  by_cases e:d=r
  ·simp only [if_pos e,Option.getD_some];exact hx
  ·simp only [if_neg e];exact h r
theorem ofV_ok (C:Cx):∀ (n:Nat) (v:Value),FR C (ofV n v) v
 | n,v=>by
  unfold ofV
  split
  ·exact .int _ _
  ·exact .bool _
  ·exact .str _
  ·exact .nils
  ·rename_i n cs
   refine .agg (by simp) fun i x y hx hy=>?_
   simp only [List.getElem?_map,Option.map_eq_some_iff] at hx
   obtain ⟨q,hq,rfl⟩:=hx
   rw [Array.getElem?_toList] at hq
   rw [hq] at hy
   cases hy
   exact ofV_ok C n _
  ·exact .v rfl rfl
  ·exact .v rfl rfl
  ·exact .v rfl rfl
  ·exact .dead _
theorem ev_ok {C:Cx} {T:Tr FV} {Te:Tr Value} (h:RS C T Te) (o:Operand):FR C (ev T o) (evalO Te o):=by
 cases o with
 | tmp t=>exact h t
 | const v=>exact ofV_ok C 4 v
 | global g=>exact .dead _
 | func f=>exact .fn f (by rfl) (fun i x y hx=>by simp at hx) (by rfl) (fun i x y hx=>by simp at hx)
theorem evs_ok {C:Cx} {T:Tr FV} {Te:Tr Value} (h:RS C T Te):∀ (l:List Operand),FRs C (l.map (ev T)) (l.map (evalO Te))
 | []=>.nil C
 | o::l=>(evs_ok h l).cons (ev_ok h o)
/-! ### Memory goes on -/
structure Ev (own:Nat→Prop) (H H':Mem):Prop where
 n:H.n≤H'.n
 wf:WF H→WF H'
 keep:WF H→∀ i b,H.live i=some b→(b.ro=true∨¬ own b.fam)→H'.live i=some b
 low:∀ m,m≤H.low→m≤H.n→(∀ f,own f→m≤f)→m≤H'.low
theorem Ev.refl (own:Nat→Prop) (H:Mem):Ev own H H:=⟨Nat.le_refl _,id,fun _ _ _ h _=>h,fun _ h _ _=>h⟩
theorem live_lt {H:Mem} (W:WF H) {i:Nat} {b:Blk} (h:H.live i=some b):i < H.n:=W.lt i _ (live_some h).1
theorem live_fam {H:Mem} (W:WF H) {i:Nat} {b:Blk} (h:H.live i=some b) (hr:b.ro=false):b.fam < H.n:=by
 have:=(W.fam i b (live_some h).1 hr).1
 have:=live_lt W h
 omega
theorem Ev.trans {own own':Nat→Prop} {H H1 H2:Mem} (h1:Ev own H H1) (hs:∀ f,own' f→own f∨H.n≤f) (h2:Ev own' H1 H2):Ev own H H2:=by
 refine ⟨Nat.le_trans h1.n h2.n,fun W=>h2.wf (h1.wf W),fun W i b hl hb=>h2.keep (h1.wf W) i b (h1.keep W i b hl hb) ?_,fun m hm hn hf=>h2.low m (h1.low m hm hn hf) (Nat.le_trans hn h1.n) fun f hf'=>?_⟩
 ·cases hr:b.ro with
  | true=>exact .inl rfl
  | false =>
   refine .inr fun ho=>?_
   rcases hb with hb | hb
   ·rw [hr] at hb;cases hb
   ·rcases hs _ ho with h | h
    ·exact hb h
    ·have:=live_fam W hl hr;omega
 ·rcases hs f hf' with h | h
  ·exact hf f h
  ·omega
theorem Ev.weak {own own':Nat→Prop} {H H':Mem} (h:Ev own H H') (hs:∀ f,own f→own' f):Ev own' H H' :=
 ⟨h.n,h.wf,fun W i b hl hb=>h.keep W i b hl (hb.imp id fun k o=>k (hs _ o)),fun m a b c=>h.low m a b fun f hf=>c f (hs f hf)⟩
theorem live_new {H:Mem} (W:WF H) (cs:List Value) (e i:Nat):(H.new cs e).live i=if H.n=i then some ⟨cs,e,H.n,0,false⟩ else H.live i:=by
 unfold Mem.live
 rw [new_get]
 by_cases h:H.n=i
 ·rw [if_pos h,if_pos h]
  have:(Blk.mk cs e H.n 0 false).alive (H.new cs e)=true:=by
   have:=W.gen H.n (Nat.le_refl _)
   simp [Blk.alive,Mem.gen,Mem.new,this]
  simp [this]
 ·rw [if_neg h,if_neg h]
  rfl
theorem Ev.new (own:Nat→Prop) (H:Mem) (cs:List Value) (e:Nat):Ev own H (H.new cs e) :=
 ⟨Nat.le_succ _,fun W=>W.new cs e,fun W i b h _=>by rw [live_new W,if_neg (by have:=live_lt W h;omega)];exact h,fun m h _ _=>h⟩
theorem live_put {H:Mem} {i:Nat} {b:Blk} (hl:H.live i=some b) (hr:b.ro=false) (cs:List Value) :
  (H.put i b cs).live i=some { b with cells:=cs,gen:=if b.esz=0 then b.gen else H.gen b.fam+1 }:=by
 obtain ⟨ho,ha⟩:=live_some hl
 refine live_of (by rw [put_get,if_pos rfl]) ?_
 have:=alive_gen ha hr
 unfold Blk.alive
 simp only [hr,Bool.false_or,beq_iff_eq]
 rw [put_gen]
 by_cases h0:b.esz=0
 ·simp [h0,this]
 ·simp [h0]
theorem live_put_ne {H:Mem} (W:WF H) {i j:Nat} {b c:Blk} (hl:H.live i=some b) (hr:b.ro=false) (cs:List Value) (hj:H.live j=some c) (hne:j≠i) (hf:c.ro=true∨c.fam≠b.fam):(H.put i b cs).live j=some c:=by
 obtain ⟨ho,ha⟩:=live_some hj
 refine live_of (by rw [put_get,if_neg (Ne.symm hne)];exact ho) ?_
 unfold Blk.alive at ha ⊢
 rcases hf with hf | hf
 ·simp [hf]
 ·rw [put_gen,if_neg (by rintro ⟨_,h⟩;exact hf h.symm)]
  exact ha
theorem Ev.put {own:Nat→Prop} {H:Mem} {i:Nat} {b:Blk} (hl:H.live i=some b) (hr:b.ro=false) (ho:own b.fam) (cs:List Value):Ev own H (H.put i b cs):=by
 refine ⟨by unfold Mem.put;split<;>exact Nat.le_refl _,fun W=>W.put (live_some hl).1 hr (live_some hl).2 cs,fun W j c hj hc=>?_,fun m h1 h2 h3=>?_⟩
 ·by_cases e:j=i
  ·subst e
   rw [hl] at hj;cases hj
   rcases hc with hc | hc
   ·rw [hr] at hc;cases hc
   ·exact absurd ho hc
  ·exact live_put_ne W hl hr cs hj e (hc.imp id fun k h=>k (h▸ho))
 ·have:=h3 _ ho
  unfold Mem.put
  split<;>exact Nat.le_min.2 ⟨h1,this⟩
theorem live_grow {H:Mem} (W:WF H) {i:Nat} {b:Blk} (keep:Bool) (cs:List Value):(H.grow i b keep cs).live H.n=some ⟨cs,b.esz,b.fam,H.gen b.fam+1,false⟩:=by
 refine live_of (by rw [grow_get,if_pos rfl]) ?_
 unfold Blk.alive
 rw [grow_gen]
 simp
theorem live_grow_ne {H:Mem} (W:WF H) {i j:Nat} {b c:Blk} (hl:H.live i=some b) (hr:b.ro=false) (keep:Bool) (cs:List Value) (hj:H.live j=some c) (hf:c.ro=true∨c.fam≠b.fam):(H.grow i b keep cs).live j=some c:=by
 obtain ⟨ho,ha⟩:=live_some hj
 have hne:i≠j:=by
  rintro rfl
  rw [hl] at hj;cases hj
  rcases hf with hf | hf
  ·rw [hr] at hf;cases hf
  ·exact hf rfl
 refine live_of (by rw [grow_get,if_neg (by have:=live_lt W hj;omega),if_neg (by rintro ⟨_,h⟩;exact hne h)];exact ho) ?_
 unfold Blk.alive at ha ⊢
 rcases hf with hf | hf
 ·simp [hf]
 ·rw [grow_gen,if_neg (Ne.symm hf)]
  exact ha
theorem Ev.grow {own:Nat→Prop} {H:Mem} {i:Nat} {b:Blk} (hl:H.live i=some b) (hr:b.ro=false) (he:b.esz≠0) (ho:own b.fam) (keep:Bool) (cs:List Value):Ev own H (H.grow i b keep cs):=by
 refine ⟨Nat.le_succ _,fun W=>W.grow (live_some hl).1 hr he keep cs,fun W j c hj hc=>live_grow_ne W hl hr keep cs hj (hc.imp id fun k h=>k (h▸ho)),fun m h1 h2 h3=>Nat.le_min.2 ⟨h1,h3 _ ho⟩⟩
end Go.Proofs.YtmndbhgbngkakaaDoor.G
end
section
/- Go code over plain data: what is read and written. No condition but those that are written out. -/
namespace Go.Proofs.YtmndbhgbngkakaaDoor.G
open Go Go.RowKit Go.Proofs.YtmndbhgbngkakaaDoor.E
set_option linter.all false

theorem ObjR.mono {C C':Cx} (L:Le C C') {i:Inf} {b:VB} (h:ObjR C i b) (hl:∀ r bs eb,i.pos=some (r,bs)→C.H.live r=some eb→C'.H.live r=some eb∧(C.own eb.fam↔C'.own eb.fam)∧(C.wr eb.fam↔C'.wr eb.fam)):ObjR C' i b:=by
 obtain ⟨g,w,o⟩:=b
 unfold ObjR at h ⊢
 cases o with
 | box cells =>
  cases hp:i.pos with
  | none=>rw [hp] at h;exact h
  | some p =>
   obtain ⟨r,bs⟩:=p
   rw [hp] at h
   obtain ⟨h0,eb,h1,h2,h3,h4,h5,h6,h7,h8,h9⟩:=h
   obtain ⟨k1,k2⟩:=hl r bs eb hp h1
   exact ⟨h0,eb,k1,h2,fun w=>⟨k2.1.1 (h3 w).1,k2.2.1 (h3 w).2⟩,fun w o=>h4 w (k2.1.2 o),h5,h6,h7,h8,fun j c y a b=>(h9 j c y a b).mono L⟩
 | arr sh ap l =>
  cases hp:i.pos with
  | none=>rw [hp] at h;exact h
  | some p =>
   obtain ⟨r,bs⟩:=p
   rw [hp] at h
   obtain ⟨h0,eb,h1,h2,h3,h4,h5,h6,h7,h8,h9,h10⟩:=h
   obtain ⟨k1,k2⟩:=hl r bs eb hp h1
   exact ⟨h0,eb,k1,h2,fun w=>⟨k2.1.1 (h3 w).1,k2.2.1 (h3 w).2⟩,fun w o=>h4 w (k2.1.2 o),h5,h6,h7,h8,h9,fun n x j c y a b d=>(h10 n x j c y a b d).mono L⟩
theorem ObjR.live {C:Cx} {i:Inf} {b:VB} (h:ObjR C i b) {r bs:Nat} (hp:i.pos=some (r,bs)):∃ eb,C.H.live r=some eb∧eb.ro=false∧(b.w=true→C.own eb.fam∧C.wr eb.fam)∧(b.w=false→¬ C.own eb.fam)∧i.rl=eb.cells.length∧i.ez=eb.esz:=by
 obtain ⟨g,w,o⟩:=b
 unfold ObjR at h
 rw [hp] at h
 cases o with
 | box cells=>obtain ⟨h0,eb,h1,h2,h3,h4,h5,h6,_⟩:=h;exact ⟨eb,h1,h2,h3,h4,h5,h6⟩
 | arr sh ap l=>obtain ⟨h0,eb,h1,h2,h3,h4,h5,h6,_⟩:=h;exact ⟨eb,h1,h2,h3,h4,h5,h6⟩
theorem HR.at {C:Cx} {hp:Hp} (hH:HR C hp) {id:Nat} {i:Inf} (h:C.inf id=some i):∃ b,hp.get id=some b∧i.gen=b.gen∧ObjR C i b:=by
 cases hg:hp.get id with
 | none=>rw [hH.none id hg] at h;cases h
 | some b=>obtain ⟨i',h1,h2,h3⟩:=hH.inf id b hg;rw [h] at h1;cases h1;exact ⟨b,rfl,h2,h3⟩
def updI (f:Nat→Option Inf) (id:Nat) (i:Inf):Nat→Option Inf:=fun j=>if j=id then some i else f j
theorem updI_same (f:Nat→Option Inf) (id:Nat) (i:Inf):updI f id i id=some i:=if_pos rfl
theorem updI_ne (f:Nat→Option Inf) {id j:Nat} (i:Inf) (h:j≠id):updI f id i j=f j:=if_neg h
/-- One number's thing is new, or changed. -/
theorem HR.upd {C C':Cx} {hp:Hp} (hH:HR C hp) (L:Le C C') (W':WF C'.H) (id:Nat) (b':VB) (i':Inf) (hi:C'.inf=updI C.inf id i') (hg:i'.gen=b'.gen) (ho:ObjR C' i' b') (hbad:C'.bad=C.bad) (hn:C.H.n≤C'.H.n) (hob:∀ f,C'.own f→C.own f∨f < C'.H.n)
  (hpr:∀ g sh l,b'=⟨g,true,.arr sh false l⟩→C.bad.par=some { i' with gen:=0 }) (hnb:∀ r bs eb,i'.pos=some (r,bs)→C'.H.live r=some eb→¬ C.bad eb.fam)
  (hrow:∀ j i r bs eb,j≠id→C.inf j=some i→i.pos=some (r,bs)→C.H.live r=some eb→C'.H.live r=some eb∧(C.own eb.fam↔C'.own eb.fam)∧(C.wr eb.fam↔C'.wr eb.fam))
  (hap:∀ j i r bs r' bs' eb eb',j≠id→C.inf j=some i→i.pos=some (r,bs)→i'.pos=some (r',bs')→C.H.live r=some eb→C'.H.live r'=some eb'→eb.fam≠eb'.fam):HR C' (hp.set id b'):=by
 have key:∀ j i r bs eb,j≠id→C.inf j=some i→i.pos=some (r,bs)→C'.H.live r=some eb→C.H.live r=some eb:=fun j i r bs eb hj h p l=>by
  obtain ⟨b,_,_,ob⟩:=hH.at h
  obtain ⟨eb0,l0,_⟩:=ob.live p
  rw [(hrow j i r bs eb0 hj h p l0).1] at l
  rw [l0];exact l
 refine ⟨W',fun j b hb=>?_,fun j hn=>?_,fun j j' i1 i2 r bs r' bs' eb eb' h1 h2 p1 p2 l1 l2 hf=>?_,fun j i1 r bs eb h1 p1 l1=>?_,fun f hf=>by
  rw [hbad] at hf
  rcases hf with hf | hf
  ·rcases hob f hf with h | h
   ·exact Nat.lt_of_lt_of_le (hH.bnd f (.inl h)) hn
   ·exact h
  ·exact Nat.lt_of_lt_of_le (hH.bnd f (.inr hf)) hn,fun j g sh l i1 hj h1=>?_⟩
 ·rw [Tr.get_set] at hb
  by_cases e:id=j
  ·rw [if_pos e] at hb;cases hb;subst e;exact ⟨i',by rw [hi,updI_same],hg,ho⟩
  ·rw [if_neg e] at hb
   obtain ⟨i,k1,k2,k3⟩:=hH.inf j b hb
   exact ⟨i,by rw [hi,updI_ne _ _ (Ne.symm e)];exact k1,k2,k3.mono L fun r bs eb hp hl=>hrow j i r bs eb (Ne.symm e) k1 hp hl⟩
 ·rw [Tr.get_set] at hn
  by_cases e:id=j
  ·rw [if_pos e] at hn;cases hn
  ·rw [if_neg e] at hn;rw [hi,updI_ne _ _ (Ne.symm e)];exact hH.none j hn
 ·rw [hi] at h1 h2
  by_cases e1:j=id
  ·by_cases e2:j'=id
   ·rw [e1,e2]
   ·subst e1
    rw [updI_same] at h1;cases h1
    rw [updI_ne _ _ e2] at h2
    exact absurd hf.symm (hap j' i2 r' bs' r bs eb' eb e2 h2 p2 p1 (key j' i2 r' bs' eb' e2 h2 p2 l2) l1)
  ·by_cases e2:j'=id
   ·subst e2
    rw [updI_same] at h2;cases h2
    rw [updI_ne _ _ e1] at h1
    exact absurd hf (hap j i1 r bs r' bs' eb eb' e1 h1 p1 p2 (key j i1 r bs eb e1 h1 p1 l1) l2)
   ·rw [updI_ne _ _ e1] at h1
    rw [updI_ne _ _ e2] at h2
    exact hH.apart j j' i1 i2 r bs r' bs' eb eb' h1 h2 p1 p2 (key j i1 r bs eb e1 h1 p1 l1) (key j' i2 r' bs' eb' e2 h2 p2 l2) hf
 ·rw [hbad]
  rw [hi] at h1
  by_cases e1:j=id
  ·subst e1;rw [updI_same] at h1;cases h1;exact hnb r bs eb p1 l1
  ·rw [updI_ne _ _ e1] at h1;exact hH.good j i1 r bs eb h1 p1 (key j i1 r bs eb e1 h1 p1 l1)
 ·rw [hbad]
  rw [hi] at h1
  rw [Tr.get_set] at hj
  by_cases e1:id=j
  ·subst e1;rw [if_pos rfl] at hj;cases hj;rw [updI_same] at h1;cases h1;exact hpr g sh l rfl
  ·rw [if_neg e1] at hj;rw [updI_ne _ _ (Ne.symm e1)] at h1;exact hH.par j g sh l i1 hj h1
/-! ### A new row -/
def Cx.new (C:Cx) (cs:List Value) (ez:Nat) (d:Nat) (i:Inf):Cx:=⟨C.H.new cs ez,fun f=>C.own f∨f=C.H.n,fun f=>C.wr f∨f=C.H.n,updI C.inf d i,C.bad⟩
theorem Le.new {C:Cx} {hp:Hp} (hH:HR C hp) (cs:List Value) (ez d:Nat) {i:Inf} (hg:i.gen=ng hp d):Le C (C.new cs ez d i):=by
 refine ⟨fun j b h=>?_,fun id i0 h=>?_⟩
 ·have hlt:=live_lt hH.wf h.1
  refine ⟨by show (C.H.new cs ez).live j=_;rw [live_new hH.wf,if_neg (by omega)];exact h.1,?_⟩
  cases hr:b.ro with
  | true=>exact .inl rfl
  | false =>
   rcases h.2 with h2 | h2
   ·rw [hr] at h2;cases h2
   ·refine .inr ⟨fun o=>?_,h2.2⟩
    rcases o with o | o
    ·exact h2.1 o
    ·have:=live_fam hH.wf h.1 hr;omega
 ·by_cases e:id=d
  ·subst e
   obtain ⟨b,h1,h2,_⟩:=hH.at h
   refine ⟨i,updI_same _ _ _,.inl ?_⟩
   rw [hg,h2]
   unfold ng
   rw [h1]
   exact Nat.lt_succ_self _
  ·exact ⟨i0,by show updI C.inf d i id=_;rw [updI_ne _ _ e];exact h,.inr rfl⟩
theorem HR.new {C:Cx} {hp:Hp} (hH:HR C hp) (cs:List Value) (ez d:Nat) {i:Inf} {b:VB} (hpr:∀ g sh l,b≠⟨g,true,.arr sh false l⟩) (hg:b.gen=ng hp d) (hi:i.gen=ng hp d) (hpos:i.pos=some (C.H.n,0)) (ho:ObjR (C.new cs ez d i) i b) :
  HR (C.new cs ez d i) (hp.set d b):=by
 refine hH.upd (Le.new hH cs ez d hi) (hH.wf.new cs ez) d b i rfl (hi.trans hg.symm) ho rfl (Nat.le_succ _) (fun f hf=>hf.imp (fun q=>q) fun e=>by rw [e];exact Nat.lt_succ_self _) (fun g sh l e=>absurd e (hpr g sh l)) (fun r bs eb hp hl hb=>?_) (fun j i0 r bs eb hj h p l=>?_) fun j i0 r bs r' bs' eb eb' hj h p p' l l'=>?_
 ·rw [hpos] at hp;cases hp
  have hl:(C.H.new cs ez).live C.H.n=some eb:=hl
  rw [live_new hH.wf,if_pos rfl] at hl
  cases hl
  exact Nat.lt_irrefl _ (hH.bnd _ (.inr hb))
 ·have hlt:=live_lt hH.wf l
  obtain ⟨b0,_,_,ob⟩:=hH.at h
  obtain ⟨eb0,l0,hr0,_⟩:=ob.live p
  rw [l] at l0;cases l0
  have hf:=live_fam hH.wf l hr0
  refine ⟨by show (C.H.new cs ez).live r=_;rw [live_new hH.wf,if_neg (by omega)];exact l,⟨.inl,fun o=>?_⟩,⟨.inl,fun o=>?_⟩⟩
  ·rcases o with o | o
   ·exact o
   ·omega
  ·rcases o with o | o
   ·exact o
   ·omega
 ·rw [hpos] at p';cases p'
  obtain ⟨b0,_,_,ob⟩:=hH.at h
  obtain ⟨eb0,l0,hr0,_⟩:=ob.live p
  rw [l] at l0;cases l0
  have hf:=live_fam hH.wf l hr0
  have l':(C.H.new cs ez).live C.H.n=some eb':=l'
  rw [live_new hH.wf,if_pos rfl] at l'
  cases l'
  show eb.fam≠C.H.n
  omega
/-! ### Reading -/
theorem rd_of {H:Mem} {i off k:Nat} {b:Blk} (hl:H.live i=some b) (h:off+k≤b.cells.length):rd H i off k=some ((b.cells.drop off).take k):=by
 unfold rd;rw [hl];simp [h]
theorem rd1_of {H:Mem} {i off:Nat} {b:Blk} (hl:H.live i=some b) (h:off < b.cells.length):rd H i off 1=some [b.cells[off]]:=by
 rw [rd_of hl (by omega),List.drop_eq_getElem_cons h];rfl
/-- Flat cells as the model's. -/
def toV:FV→Value
 | .int k n=>.int k n
 | .bool b=>.bool b
 | .str s=>.string s
 | _=>undef
/-- What is known of a type. -/
structure TiOk (P:Program) (t:Nat) (i:TI):Prop where
 size:tsz P t=some i.size
 bytes:tbytes P t=some i.bytes
 agg:(P.underlying t).map isAggD=some i.agg
 zero:∃ z,tzero P t=some z∧z.cells.toList.map (ofV 4)=i.zero∧z.cells.size=i.size∧(∀ v,v∈z.cells.toList→v.oneCell'=true)∧(i.agg=true→∃ cs,z=.agg cs)
 one:i.agg=false→i.size=1
 pos:0 < i.size
 eq:i.eq=true→∀ xs ys xo yo,has i.sh (.agg xs)=true→has i.sh (.agg ys)=true→binV P .eql t xo yo (.agg (xs.map toV).toArray) (.agg (ys.map toV).toArray)=some (.bool (eqL xs ys)) ∧
  binV P .neq t xo yo (.agg (xs.map toV).toArray) (.agg (ys.map toV).toArray)=some (.bool (!(eqL xs ys)))∧∀ cs,i.sh=.agg cs→cs.all Shp.plain=true
 sh:i.sh.size=i.size∧(i.agg=true→∃ cs,i.sh=.agg cs)∧(i.agg=false→∀ cs,i.sh≠.agg cs)
 k:match i.k with
  | .int k=>P.underlying t=some (.int k)
  | .str=>P.underlying t=some .string
  | .bool=>P.underlying t=some .bool
  | .slice el=>P.underlying t=some (.slice el)
  | .strct fs=>∃ fds,P.underlying t=some (.struct fds)∧fds.toList.map (fun f=>(f.offset,(tsz P f.type).getD 0,((P.underlying f.type).map isAggD).getD false))=fs∧∀ f,f∈fds.toList→(tsz P f.type).isSome=true∧((P.underlying f.type).map isAggD).isSome=true
  | .arr n el=>P.underlying t=some (.array n el)
  | .vec n el=>P.underlying t=some (.array n el)
  | .other=>True
def TyOk (P:Program) (ty:Ty):Prop:=∀ t i,look ty t=some i→TiOk P t i
theorem TyOk.nil (P:Program):TyOk P []:=fun t i h=>by cases h
theorem TyOk.cons {P:Program} {t:Nat} {i:TI} {ty:Ty} (h:TiOk P t i) (k:TyOk P ty):TyOk P ((t,i)::ty):=fun t' i' h'=>by
 unfold look at h'
 split at h'
 ·rename_i e;cases h';rw [← Nat.eq_of_beq_eq_true e];exact h
 ·exact k t' i' h'
/-- Cells of a place, from one that is live on. -/
theorem partOf_ok {C:Cx} {P:Program} {t:Nat} {i:TI} (ti:TiOk P t i) {cells:List FV} {off:Nat} {H:Mem} {r o:Nat} {eb:Blk} (hl:H.live r=some eb) (hb:off+i.size≤cells.length) (hr:o+cells.length≤eb.cells.length)
  (h:∀ (j:Nat) c y,cells[j]?=some c→eb.cells[o+j]?=some y→FR C c y):∃ v,loadV P H t ⟨r,o+off,none⟩=some v∧FR C (partOf i cells off) v:=by
 have hag:=ti.agg
 have hsz:=ti.size
 unfold loadV partOf
 rw [hag,hsz]
 cases ha:i.agg with
 | true =>
  simp only
  refine ⟨_,by rw [rd_of hl (by omega)];rfl,FRs.agg ⟨?_,fun j x y hx hy=>?_⟩⟩
  ·simp;omega
  ·rw [List.getElem?_take] at hx hy
   split at hx
   ·rename_i hj
    rw [if_pos hj] at hy
    rw [List.getElem?_drop] at hx hy
    exact h (off+j) x y hx (by rw [← hy];congr 1;omega)
   ·cases hx
 | false =>
  have h1:=ti.one ha
  simp only
  have hlt:o+off < eb.cells.length:=by omega
  refine ⟨_,by rw [rd1_of hl hlt],?_⟩
  have hc:off < cells.length:=by omega
  rw [List.getD_eq_getElem?_getD,List.getElem?_eq_getElem hc,Option.getD_some]
  exact h off _ _ (List.getElem?_eq_getElem hc) (List.getElem?_eq_getElem hlt)
theorem at_some {H:Hp} {id g:Nat} {b:VB} (h:at_ H id g=some b):H.get id=some b∧b.gen=g:=by
 unfold at_ at h
 split at h
 ·rename_i b' hb
  split at h
  ·rename_i e;cases h;exact ⟨hb,Nat.eq_of_beq_eq_true e⟩
  ·cases h
 ·cases h
/-! ### Elements by their shapes -/
mutual
theorem Shp.eqb_eq:∀ (a b:Shp),Shp.eqb a b=true→a=b
 | .int k,b,h=>by cases b<;>simp [Shp.eqb] at h;rw [h]
 | .bool,b,h=>by cases b<;>simp [Shp.eqb] at h;rfl
 | .str,b,h=>by cases b<;>simp [Shp.eqb] at h;rfl
 | .agg cs,b,h=>by
  cases b<;>simp only [Shp.eqb,Bool.false_eq_true] at h
  rw [Shp.eqbL_eq _ _ h]
 | .row s,b,h=>by
  cases b<;>simp only [Shp.eqb,Bool.false_eq_true] at h
  rw [Shp.eqb_eq _ _ h]
theorem Shp.eqbL_eq:∀ (a b:List Shp),Shp.eqbL a b=true→a=b
 | [],[],h=>rfl
 | [],_::_,h=>by simp [Shp.eqbL] at h
 | _::_,[],h=>by simp [Shp.eqbL] at h
 | c::cs,d::ds,h=>by
  simp only [Shp.eqbL,Bool.and_eq_true] at h
  rw [Shp.eqb_eq _ _ h.1,Shp.eqbL_eq _ _ h.2]
end
theorem has1_mk {s:Shp} {x:FV} {t:Unit→FV} (ht:t ()=x) (h:has1 s x=true):mk1 std s t=x:=by
 subst ht
 cases s with
 | int k=>cases hx:t ()<;>rw [hx] at h<;>simp [has1] at h;subst h;simp [mk1,std,hx,FV.toI]
 | bool=>cases hx:t ()<;>rw [hx] at h<;>simp [has1] at h;simp [mk1,std,hx,FV.toB]
 | str=>cases hx:t ()<;>rw [hx] at h<;>simp [has1] at h;simp [mk1,std,hx,FV.toS]
 | agg cs=>simp [has1] at h
 | row s =>
  cases hx:t ()<;>rw [hx] at h<;>simp [has1] at h
  rw [Shp.eqb_eq _ _ h]
  simp [mk1,std,hx,FV.toL]
theorem hasL_mk:∀ {ss:List Shp} {ys:List FV} {x:FV} {t:Unit→FV} (j:Nat),t ()=x→(∀ i y,ys[i]?=some y→x.cell (j+i)=y)→hasL ss ys=true→mkL std ss j t=ys
 | [],[],x,t,j,ht,hc,h=>rfl
 | [],_::_,x,t,j,ht,hc,h=>by simp [hasL] at h
 | _::_,[],x,t,j,ht,hc,h=>by simp [hasL] at h
 | s::ss,y::ys,x,t,j,ht,hc,h=>by
  simp only [hasL,Bool.and_eq_true] at h
  unfold mkL
  rw [has1_mk (x:=y) (by rw [ht];exact hc 0 y rfl) h.1,hasL_mk (j+1) ht (fun i y' hy=>by rw [Nat.add_assoc,Nat.add_comm 1 i];exact hc (i+1) y' hy) h.2]
theorem has_mk {s:Shp} {x:FV} {t:Unit→FV} (ht:t ()=x) (h:has s x=true):mkE std s t=x:=by
 cases s with
 | agg cs =>
  cases x with
  | agg xs =>
   show FV.agg (mkL std cs 0 t)=_
   rw [hasL_mk (ys:=xs) (x:=.agg xs) 0 ht (fun i y hy=>by simp [FV.cell,FV.cells,List.getD_eq_getElem?_getD,hy]) (by simpa [has] using h)]
  | _=>simp [has,has1] at h
 | _=>exact has1_mk ht (by cases x<;>simpa [has] using h)
theorem hasL_len:∀ {ss:List Shp} {ys:List FV},hasL ss ys=true→ys.length=ss.length
 | [],[],h=>rfl
 | [],_::_,h=>by simp [hasL] at h
 | _::_,[],h=>by simp [hasL] at h
 | s::ss,y::ys,h=>by simp only [hasL,Bool.and_eq_true] at h;simp [hasL_len h.2]
theorem has1_len {s:Shp} {x:FV} (h:has1 s x=true):x.cells.length=1:=by cases s<;>cases x<;>simp [has1] at h<;>rfl
theorem has_len {s:Shp} {x:FV} (h:has s x=true):x.cells.length=s.size:=by
 cases s with
 | agg cs=>cases x<;>simp [has,has1] at h;simpa [FV.cells,Shp.size] using hasL_len h
 | _=>exact has1_len (by cases x<;>simpa [has] using h)
theorem has_agg {s:Shp} {x:FV} (h:has s x=true):(∃ cs xs,s=.agg cs∧x=.agg xs)∨((∀ cs,s≠.agg cs)∧∀ xs,x≠.agg xs):=by
 cases s<;>cases x<;>simp [has,has1] at h<;>simp
theorem elt_eq {sh:Shp} {l:List FV} {n:Nat} (hn:n < l.length) (h:∀ x,x∈l→has sh x=true):elt std sh l n=l[n]:=by
 refine has_mk ?_ (h _ (List.getElem_mem hn))
 simp [nth,List.getD_eq_getElem?_getD,List.getElem?_eq_getElem hn]
theorem idx_lt {n m e j:Nat} (hn:n < m) (hj:j < e):n*e+j < m*e:=by
 have h1:n*e+e≤m*e:=by rw [← Nat.succ_mul];exact Nat.mul_le_mul_right e hn
 omega
/-- Elements, and their cells from some place on. -/
def ElR (C:Cx) (e:Nat) (l:List FV) (cs:List Value) (b:Nat):Prop:=∀ (n:Nat) x (j:Nat) c y,l[n]?=some x→x.cells[j]?=some c→cs[b+n*e+j]?=some y→FR C c y
theorem ElR.mono {C C':Cx} (L:Le C C') {e:Nat} {l:List FV} {cs:List Value} {b:Nat} (h:ElR C e l cs b):ElR C' e l cs b:=fun n x j c y p q r=>(h n x j c y p q r).mono L
theorem ElR.nil (C:Cx) (e:Nat) (cs:List Value) (b:Nat):ElR C e [] cs b:=fun n x j c y p=>by simp at p
theorem ElR.cells {C:Cx} {e:Nat} {l:List FV} {cs:List Value} {b:Nat} (h:ElR C e l cs b) {n:Nat} (hn:n < l.length):∀ (j:Nat) c y,l[n].cells[j]?=some c→cs[b+n*e+j]?=some y→FR C c y :=
 fun j c y p q=>h n l[n] j c y (List.getElem?_eq_getElem hn) p q
theorem ElR.sub {C:Cx} {e:Nat} {l:List FV} {cs:List Value} {b:Nat} (h:ElR C e l cs b) (lo m:Nat):ElR C e ((l.drop lo).take m) cs (b+lo*e):=fun n x j c y p q r=>by
 rw [List.getElem?_take] at p
 split at p
 ·rw [List.getElem?_drop] at p
  exact h (lo+n) x j c y p q (by rw [← r];congr 1;rw [Nat.add_mul];omega)
 ·cases p
/-- The cells of some elements, by themselves. -/
theorem ElR.cut {C:Cx} {e:Nat} {l:List FV} {cs:List Value} {b:Nat} (h:ElR C e l cs b) (k:Nat):ElR C e l ((cs.drop b).take k) 0:=fun n x j c y p q r=>by
 rw [List.getElem?_take] at r
 split at r
 ·rw [List.getElem?_drop] at r
  exact h n x j c y p q (by rw [← r];congr 1;omega)
 ·cases r
theorem ElR.app {C:Cx} {sh:Shp} {l l':List FV} {cs cs':List Value} (hn:cs.length=l.length*sh.size) (hs:∀ x,x∈l→has sh x=true) (h:ElR C sh.size l cs 0) (h':ElR C sh.size l' cs' 0):ElR C sh.size (l++l') (cs++cs') 0:=fun n x j c y p q r=>by
 rw [Nat.zero_add] at r
 rw [List.getElem?_append] at p
 split at p
 ·rename_i hlt
  have hj:j < sh.size:=by
   rw [← has_len (hs x (List.mem_of_getElem? p))]
   exact (List.getElem?_eq_some_iff.1 q).1
  rw [List.getElem?_append_left (by rw [hn];exact idx_lt hlt hj)] at r
  exact h n x j c y p q (by rw [Nat.zero_add];exact r)
 ·rename_i hge
  have h1:n*sh.size=(n - l.length)*sh.size+cs.length:=by rw [hn,← Nat.add_mul];congr 1;omega
  rw [List.getElem?_append_right (by omega)] at r
  exact h' (n - l.length) x j c y p q (by rw [← r];congr 1;omega)
/-! ### An operation -/
def runOp (E:Env) (call:Go.Proofs.YtmndbhgbngkakaaDoor.E.Call) (o:Oper) (T:Tr Value) (H:Mem):Option (Value × Mem) :=
 match opStep E T H o with
 | some (.val v,H')=>some (v,H')
 | some (.skip,H')=>some (undef,H')
 | some (.enter f args,H')=>call f args H'
 | none=>none
/-- What an operation comes to. -/
def Went (E:Env) (C:Cx) (o:Oper) (Te:Tr Value) (ld:Bool) (k:FV→Hp→Prop):Prop :=
 ∃ (C':Cx) (x:FV) (hp':Hp) (v:Value) (own0:Nat→Prop),(∃ N,∀ n,N≤n→runOp E (evCall E n) o Te C.H=some (v,C'.H))∧Le C C'∧Ev own0 C.H C'.H∧(∀ f,own0 f→C.wr f)∧(ld=false→∀ f,¬ own0 f) ∧
  (∀ f,C'.own f→C.own f∨C.H.n≤f)∧(∀ f,C'.wr f→C.wr f∨C.H.n≤f)∧C'.bad=C.bad∧HR C' hp'∧FR C' x v∧k x hp'
section
variable {E:Env} {C:Cx} {o:Oper} {Te:Tr Value} {ld:Bool} {k:FV→Hp→Prop} {hp:Hp}
theorem Went.pure {x:FV} {v:Value} (h:opStep E Te C.H o=some (.val v,C.H)) (hH:HR C hp) (hx:FR C x v) (hk:k x hp):Went E C o Te ld k :=
 ⟨C,x,hp,v,fun _=>False,⟨0,fun n _=>by unfold runOp;rw [h]⟩,.refl C,.refl _ _,fun f h=>h.elim,fun _ f h=>h,fun f h=>.inl h,fun f h=>.inl h,rfl,hH,hx,hk⟩
theorem Went.made {x:FV} {v:Value} {cs:List Value} {ez d:Nat} {i:Inf} {b:VB} (h:opStep E Te C.H o=some (.val v,C.H.new cs ez)) (hH:HR C hp) (hpr:∀ g sh l,b≠⟨g,true,.arr sh false l⟩) (hg:b.gen=ng hp d) (hi:i.gen=ng hp d) (hpos:i.pos=some (C.H.n,0))
  (ho:ObjR (C.new cs ez d i) i b) (hx:FR (C.new cs ez d i) x v) (hk:k x (hp.set d b)):Went E C o Te ld k :=
 ⟨C.new cs ez d i,x,hp.set d b,v,fun _=>False,⟨0,fun n _=>by unfold runOp;rw [h];rfl⟩,.new hH cs ez d hi,.new _ _ _ _,fun f h=>h.elim,fun _ f h=>h,fun f h=>h.imp (fun q=>q) fun e=>Nat.le_of_eq e.symm,fun f h=>h.imp (fun q=>q) fun e=>Nat.le_of_eq e.symm,rfl,hH.new cs ez d hpr hg hi hpos ho,hx,hk⟩
theorem Went.box {cells:List FV} {cs:List Value} (h:opStep E Te C.H o=some (.val (addrOf C.H.n 0),C.H.new cs 0)) (hH:HR C hp) (hc:FRs C cells cs) (d:Nat) (hk:newBox hp d cells k):Went E C o Te ld k:=by
 have L:=Le.new (i:=⟨ng hp d,some (C.H.n,0),1,cells.length,cs.length,0⟩) hH cs 0 d rfl
 refine Went.made (i:=⟨ng hp d,some (C.H.n,0),1,cells.length,cs.length,0⟩) h hH (fun g sh l e=>(by cases e)) rfl rfl rfl ?_ (.ptr (updI_same _ _ _) (Nat.le_refl _) rfl fun _=>⟨_,_,rfl,rfl⟩) hk
 refine ⟨rfl,⟨cs,0,C.H.n,0,false⟩,by show (C.H.new cs 0).live C.H.n=_;rw [live_new hH.wf,if_pos rfl],rfl,fun _=>⟨.inr rfl,.inr rfl⟩,fun h=>by simp at h,rfl,rfl,rfl,by simp [hc.1],fun j c y a b=>(hc.2 j c y a (by simpa using b)).mono L⟩
theorem Went.arr {sh:Shp} {l:List FV} {cs:List Value} {ez cap:Nat} (h:opStep E Te C.H o=some (.val (.slice (some ⟨C.H.n,0,none⟩) l.length cap),C.H.new cs ez)) (hH:HR C hp) (hs:∀ x,x∈l→has sh x=true) (hn:l.length*sh.size≤cs.length) (hc:ElR C sh.size l cs 0)
  (hcap:CapOwn cs.length ez sh.size 0 l.length cap) (d:Nat) (hk:newArr hp d sh true l k):Went E C o Te ld k:=by
 have L:=Le.new (i:=⟨ng hp d,some (C.H.n,0),sh.size,l.length,cs.length,ez⟩) hH cs ez d rfl
 refine Went.made (i:=⟨ng hp d,some (C.H.n,0),sh.size,l.length,cs.length,ez⟩) h hH (fun g sh l e=>(by cases e)) rfl rfl rfl ?_ (.own (updI_same _ _ _) (Nat.le_refl _) rfl fun _=>⟨cap,rfl,hcap⟩) hk
 exact ⟨rfl,⟨cs,ez,C.H.n,0,false⟩,by show (C.H.new cs ez).live C.H.n=_;rw [live_new hH.wf,if_pos rfl],rfl,fun _=>⟨.inr rfl,.inr rfl⟩,fun h=>by simp at h,rfl,rfl,rfl,by show 0+_≤cs.length;omega,hs,hc.mono L⟩
end
end Go.Proofs.YtmndbhgbngkakaaDoor.G
end
section
/- Go code over plain data: loads, stores, arithmetic. No condition but those that are written out. -/
namespace Go.Proofs.YtmndbhgbngkakaaDoor.G
open Go Go.RowKit Go.Proofs.YtmndbhgbngkakaaDoor.E
set_option linter.all false

theorem putC_get:∀ (l:List FV) (off:Nat) (xs:List FV) (j:Nat),off+xs.length≤l.length→(putC l off xs)[j]?=if off≤j∧j < off+xs.length then xs[j - off]? else l[j]?
 | l,off,[],j,h=>by
  have:putC l off []=l:=by unfold putC;rfl
  rw [this,if_neg (by simp)]
 | [],off,x::xs,j,h=>by simp at h
 | c::cs,off+1,x::xs,j,h=>by
  show (c::putC cs off (x::xs))[j]?=_
  cases j with
  | zero=>simp
  | succ j =>
   rw [List.getElem?_cons_succ,putC_get cs off (x::xs) j (by simp at h ⊢;omega),List.getElem?_cons_succ]
   by_cases hc:off≤j∧j < off+(x::xs).length
   ·rw [if_pos hc,if_pos (by omega)];congr 1;omega
   ·rw [if_neg hc,if_neg (by omega)]
 | c::cs,0,x::xs,j,h=>by
  show (x::putC cs 0 xs)[j]?=_
  cases j with
  | zero=>simp
  | succ j =>
   rw [List.getElem?_cons_succ,putC_get cs 0 xs j (by simp at h ⊢;omega)]
   by_cases hc:0≤j∧j < 0+xs.length
   ·rw [if_pos hc,if_pos (by simp;omega)];simp
   ·rw [if_neg hc,if_neg (by simp;omega)];simp
theorem putC_len:∀ (l:List FV) (off:Nat) (xs:List FV),(putC l off xs).length=l.length
 | l,off,[]=>by unfold putC;rfl
 | [],off,x::xs=>rfl
 | c::cs,off+1,x::xs=>by show (putC cs off (x::xs)).length+1=_;rw [putC_len];rfl
 | c::cs,0,x::xs=>by show (putC cs 0 xs).length+1=_;rw [putC_len];rfl
theorem splice_get {l vs:List Value} {off:Nat} (h:off+vs.length≤l.length) (j:Nat):(splice l off vs)[j]?=if off≤j∧j < off+vs.length then vs[j - off]? else l[j]?:=by
 unfold splice
 by_cases h1:j < off
 ·rw [if_neg (by omega),List.append_assoc,List.getElem?_append_left (by simp;omega),List.getElem?_take,if_pos h1]
 ·by_cases h2:j < off+vs.length
  ·rw [if_pos ⟨by omega,h2⟩,List.append_assoc,List.getElem?_append_right (by simp;omega),List.getElem?_append_left (by simp;omega)]
   congr 1;simp;omega
  ·rw [if_neg (by omega),List.getElem?_append_right (by simp;omega),List.getElem?_drop]
   congr 1;simp;omega
theorem splice_len {l vs:List Value} {off:Nat} (h:off+vs.length≤l.length):(splice l off vs).length=l.length:=by
 unfold splice;simp;omega
theorem fit1_fr {C:Cx} {s:Shp} {x:FV} {v:Value} (h:FR C x v):FR C (fit1 s x) v:=by
 unfold fit1
 split
 ·rw [h.of_nils];exact .rowN _
 ·exact h
theorem fitL_frs {C:Cx}:∀ {ss:List Shp} {xs:List FV} {vs:List Value},FRs C xs vs→FRs C (fitL ss xs) vs
 | s::ss,x::xs,vs,h=>by
  obtain ⟨v,vs',rfl,h1,h2⟩:=h.of_cons
  exact (fitL_frs h2).cons (fit1_fr h1)
 | [],xs,vs,h=>by simp only [fitL];exact h
 | _::_,[],vs,h=>by simp only [fitL];exact h
theorem fit_cells {C:Cx} {sh:Shp} {x:FV} {vs:List Value} (h:FRs C x.cells vs):FRs C (fit sh x).cells vs:=by
 unfold fit
 split
 ·exact fitL_frs h
 ·unfold fit1
  split
  ·obtain ⟨v,vs',rfl,h1,h2⟩:=h.of_cons
   rw [h2.of_nil,h1.of_nils]
   exact (FRs.nil C).cons (.rowN _)
  ·exact h
section
variable {E:Env} {C:Cx} {o:Oper} {Te:Tr Value} {T:Tr FV} {ld:Bool} {k:FV→Hp→Prop} {hp:Hp} {t:Nat} {i:TI}
/-- What lies under a number of its age. -/
theorem HR.alive (hH:HR C hp) {id g:Nat} {b:VB} (h:at_ hp id g=some b):∃ j,C.inf id=some j∧j.gen=g∧ObjR C j b∧hp.get id=some b∧b.gen=g:=by
 obtain ⟨h1,h2⟩:=at_some h
 obtain ⟨j,k1,k2,k3⟩:=hH.inf id b h1
 exact ⟨j,k1,k2.trans h2,k3,h1,h2⟩
theorem has_cell1 {sh:Shp} {x:FV} (h:sh.cell1=true) (hx:has sh x=true):x.cells=[x]∧sh.size=1∧okCell x=true:=by
 cases sh with
 | agg cs=>cases h
 | _=>cases x<;>simp [has,has1] at hx<;>exact ⟨rfl,rfl,rfl⟩
theorem loadF_ok (ti:TiOk E.P t i) (hH:HR C hp) {a:FV} {va:Value} (ha:FR C a va) {q:FV→Prop} (h:loadF std hp i a q):∃ ad v x,va=.pointer (some ad)∧loadV E.P C.H t ad=some v∧FR C x v∧q x:=by
 unfold loadF at h
 split at h
 ·rename_i id g off
  split at h
  ·rename_i g' w cells hat
   split at h
   ·rename_i hb
    obtain ⟨j,hj,hg,ob,_,hbg⟩:=hH.alive hat
    cases ha with | ptr hi hg' h1 hv =>
    rw [hj] at hi;cases hi
    obtain ⟨r,b,hp',rfl⟩:=hv hg.symm
    unfold ObjR at ob
    rw [hp'] at ob
    obtain ⟨_,eb,k1,k2,_,_,k5,_,k7,k8,k9⟩:=ob
    have hb:=Nat.le_of_ble_eq_true hb
    obtain ⟨v,hv,hx⟩:=partOf_ok (C:=C) ti k1 hb (by omega) k9
    exact ⟨_,v,_,rfl,hv,hx,h⟩
   ·exact h.elim
  ·rename_i g' w sh ap l hat
   split at h
   ·rename_i n el hik hc1
    obtain ⟨hlen,h⟩:=h
    have hlen:l.length=i.size:=hlen
    obtain ⟨j,hj,hg,ob,_,hbg⟩:=hH.alive hat
    cases ha with | ptr hi hg' h1 hv =>
    rw [hj] at hi;cases hi
    obtain ⟨r,b,hp',rfl⟩:=hv hg.symm
    unfold ObjR at ob
    rw [hp'] at ob
    obtain ⟨_,eb,k1,k2,_,_,k5,_,k7,k8,k9,k10⟩:=ob
    have hu:=ti.k
    rw [hik] at hu
    have hu:E.P.underlying t=some (.array n el):=hu
    have hz:l≠[]→sh.size=1:=fun hl=>by
     obtain ⟨x,hx⟩:=List.exists_mem_of_ne_nil _ hl
     exact (has_cell1 hc1 (k9 x hx)).2.1
    have hb:b+i.size≤eb.cells.length:=by
     by_cases hl:l=[]
     ·subst hl;simp at hlen;omega
     ·rw [hz hl] at k8;omega
    refine ⟨_,.agg ((eb.cells.drop b).take i.size).toArray,_,rfl,?_,.vec hc1 (by simp;omega) k9 fun q x y hx hy=>?_,h⟩
    ·unfold loadV
     simp only [hu,Option.map_some,isAggD,ti.size,Nat.add_zero,rd_of k1 hb]
    ·have hxm:=List.mem_of_getElem? hx
     obtain ⟨e1,e2,_⟩:=has_cell1 hc1 (k9 x hxm)
     have hql:=(List.getElem?_eq_some_iff.1 hx).1
     refine k10 q x 0 x y hx (by rw [e1];rfl) ?_
     rw [e2]
     simp only [List.getElem?_toArray,List.getElem?_take,List.getElem?_drop] at hy
     rw [if_pos (by omega)] at hy
     simpa using hy
   ·exact h.elim
  ·exact h.elim
 ·rename_i id g n off
  split at h
  ·rename_i g' w sh ap l hat
   split at h
   ·rename_i hb
    obtain ⟨j,hj,hg,ob,hget,hbg⟩:=hH.alive hat
    cases ha with | eptr hi hg' h1 hv =>
    rw [hj] at hi;cases hi
    obtain ⟨hn,r,b,hp',rfl⟩:=hv hg.symm
    unfold ObjR at ob
    rw [hp'] at ob
    obtain ⟨he,eb,k1,k2,_,_,k5,_,k7,k8,k9,k10⟩:=ob
    have hn':n < l.length:=by omega
    have hb:=Nat.le_of_ble_eq_true hb
    rw [elt_eq hn' k9] at h
    have hlen:=has_len (k9 _ (List.getElem_mem hn'))
    have hidx:=Nat.mul_le_mul_right sh.size hn'
    rw [Nat.succ_mul] at hidx
    have hfit:b+n*sh.size+l[n].cells.length≤eb.cells.length:=by omega
    obtain ⟨v,hv,hx⟩:=partOf_ok (C:=C) (cells:=l[n].cells) (o:=b+n*sh.size) (off:=off) ti k1 (by omega) hfit (fun j c y p q=>k10 n l[n] j c y (List.getElem?_eq_getElem hn') p q)
    rw [he]
    exact ⟨_,v,_,rfl,hv,hx,h⟩
   ·exact h.elim
  ·exact h.elim
 ·rename_i cells off
  split at h
  ·rename_i hb
   cases ha with | fptr hl hr hc =>
   obtain ⟨v,hv,hx⟩:=partOf_ok (C:=C) ti hl.1 (Nat.le_of_ble_eq_true hb) hr hc
   exact ⟨_,v,_,rfl,hv,hx,h⟩
  ·exact h.elim
 ·exact h.elim
/-- What lies under a number is written. -/
def Cx.put (C:Cx) (r:Nat) (eb:Blk) (cs:List Value):Cx:=⟨C.H.put r eb cs,C.own,C.wr,C.inf,C.bad⟩
theorem updI_self {f:Nat→Option Inf} {id:Nat} {j:Inf} (h:f id=some j):f=updI f id j:=by
 funext x;unfold updI;split
 ·rename_i e;rw [e,h]
 ·rfl
theorem Le.put (hH:HR C hp) {r:Nat} {eb:Blk} (hl:C.H.live r=some eb) (hr:eb.ro=false) (ho:C.own eb.fam) (cs:List Value):Le C (C.put r eb cs):=by
 refine ⟨fun x b h=>⟨live_put_ne hH.wf hl hr cs h.1 (fun e=>?_) (h.2.imp id fun q e=>q.1 (e▸ho)),h.2⟩,fun id i h=>⟨i,h,.inr rfl⟩⟩
 subst e
 have h1:=h.1
 rw [hl] at h1;cases h1
 rcases h.2 with h2 | h2
 ·rw [hr] at h2;cases h2
 ·exact h2.1 ho
theorem HR.put (hH:HR C hp) {id:Nat} {j:Inf} {r bs:Nat} {eb:Blk} (hj:C.inf id=some j) (hpos:j.pos=some (r,bs)) (hl:C.H.live r=some eb) (hr:eb.ro=false) (ho:C.own eb.fam) (cs:List Value) {b':VB} (hg:j.gen=b'.gen) (hpr:∀ g sh l,b'=⟨g,true,.arr sh false l⟩→C.bad.par=some { j with gen:=0 })
  (ob:ObjR (C.put r eb cs) j b'):HR (C.put r eb cs) (hp.set id b'):=by
 refine hH.upd (Le.put hH hl hr ho cs) (hH.wf.put (live_some hl).1 hr (live_some hl).2 cs) id b' j (updI_self hj) hg ob rfl (by show C.H.n≤(C.H.put r eb cs).n;unfold Mem.put;split<;>exact Nat.le_refl _) (fun f hf=>.inl hf) hpr (fun r2 bs2 eb2 p2 l2=>?_) (fun x i0 r' bs' eb' hx h p l=>⟨?_,Iff.rfl,Iff.rfl⟩) fun x i0 r' bs' r2 bs2 eb' eb2 hx h p p2 l l2 hf=>?_
 ·rw [hpos] at p2;cases p2
  have l2:(C.H.put r eb cs).live r=some eb2:=l2
  rw [live_put hl hr] at l2
  cases l2
  exact hH.good id j r bs eb hj hpos hl
 ·have hne:eb'.fam≠eb.fam:=fun e=>hx (hH.apart x id i0 j r' bs' r bs eb' eb h hj p hpos l hl e)
  exact live_put_ne hH.wf hl hr cs l (fun e=>by subst e;rw [hl] at l;cases l;exact hne rfl) (.inr hne)
 ·rw [hpos] at p2;cases p2
  have l2:(C.H.put r eb cs).live r=some eb2:=l2
  rw [live_put hl hr] at l2
  cases l2
  exact hx (hH.apart x id i0 j r' bs' r bs eb' eb h hj p hpos l hl hf)
theorem wr_of {H:Mem} {r off:Nat} {vs:List Value} {eb:Blk} (hl:H.live r=some eb) (hr:eb.ro=false) (hb:off+vs.length≤eb.cells.length) (h1:∀ v,v∈vs→v.oneCell'=true):wr H r off vs=some (H.put r eb (splice eb.cells off vs)):=by
 unfold wr
 rw [hl]
 simp only [hr,true_and]
 rw [if_pos ⟨hb,List.all_eq_true.2 h1⟩]
theorem Went.wrote {r bs off:Nat} {eb:Blk} {vs:List Value} {id:Nat} {j:Inf} {b':VB} (h:opStep E Te C.H o=(wr C.H r off vs).map fun H'=>(Re.skip,H')) (hH:HR C hp) (hj:C.inf id=some j) (hpos:j.pos=some (r,bs)) (hl:C.H.live r=some eb) (hr:eb.ro=false) (ho:C.own eb.fam∧C.wr eb.fam)
  (hb:off+vs.length≤eb.cells.length) (h1:∀ v,v∈vs→v.oneCell'=true) (hg:j.gen=b'.gen) (hpr:∀ g sh l,b'=⟨g,true,.arr sh false l⟩→C.bad.par=some { j with gen:=0 }) (ob:ObjR (C.put r eb (splice eb.cells off vs)) j b') (hk:k .dead (hp.set id b')):Went E C o Te true k:=by
 rw [wr_of hl hr hb h1] at h
 exact ⟨C.put r eb (splice eb.cells off vs),.dead,hp.set id b',undef,C.wr,⟨0,fun n _=>by unfold runOp;rw [h];rfl⟩,Le.put hH hl hr ho.1 _,.put hl hr ho.2 _,fun f h=>h,fun h=>(by cases h),fun f h=>.inl h,fun f h=>.inl h,rfl,hH.put hj hpos hl hr ho.1 _ hg hpr ob,.dead _,hk⟩
def storeStep (P:Program) (H:Mem) (t:TypeId) (va vx:Value):Option (Re × Mem) :=
 match va with
 | .pointer (some a)=>(storeV P H t a vx).map fun H'=>(Re.skip,H')
 | _=>none
theorem storeF_ok (ti:TiOk E.P t i) (hH:HR C hp) {a x:FV} {va vx:Value} (ha:FR C a va) (hx:FR C x vx) (h:storeF std hp i a x k)
  (hop:opStep E Te C.H o=storeStep E.P C.H t va vx):Went E C o Te true k:=by
 unfold storeF at h
 split at h
 ·rename_i id g off
  split at h
  ·rename_i g' cells hat
   split at h
   ·rename_i hsz hok hb
    obtain ⟨j,hj,hg,ob,_,hbg⟩:=hH.alive hat
    cases ha with | ptr hi hg' h1 hv =>
    rw [hj] at hi;cases hi
    obtain ⟨r,b,hp',rfl⟩:=hv hg.symm
    have ob0:=ob
    unfold ObjR at ob
    rw [hp'] at ob
    obtain ⟨ke,eb,k1,k2,k3,_,k5,k6,k7,k8,k9⟩:=ob
    have hb:=Nat.le_of_ble_eq_true hb
    have hsz:=Nat.eq_of_beq_eq_true hsz
    have hnd:x≠.dead:=by rintro rfl;simp [FV.cells,okCells,okCell] at hok
    have hc:=hx.cells hnd
    have hn:vx.cells.toList.length=i.size:=by rw [← hc.1,hsz]
    simp only [storeStep] at hop
    have hst:storeV E.P C.H t ⟨r,b+off,none⟩ vx=wr C.H r (b+off) vx.cells.toList:=by
     unfold storeV
     rw [ti.size,if_pos]
     rw [← hn];simp
    rw [hst] at hop
    have L:=Le.put hH k1 k2 (k3 rfl).1 (splice eb.cells (b+off) vx.cells.toList)
    have hle:b+off+vx.cells.toList.length≤eb.cells.length:=by omega
    refine Went.wrote (bs:=b) (b':=⟨g,true,.box (putC cells off x.cells)⟩) hop hH hj hp' k1 k2 (k3 rfl) hle (hc.one hok) hg (fun g sh l e=>(by cases e)) ?_ h
    unfold ObjR
    rw [hp']
    refine ⟨ke,_,live_put k1 k2 _,k2,fun _=>k3 rfl,fun h=>(by cases h),?_,k6,by rw [putC_len];exact k7,by rw [putC_len];exact k8,fun q c y p p'=>?_⟩
    ·show j.rl=(splice _ _ _).length
     rw [splice_len hle,k5]
    ·have p':(splice eb.cells (b+off) vx.cells.toList)[b+q]?=some y:=p'
     rw [putC_get _ _ _ _ (by omega)] at p
     rw [splice_get hle] at p'
     split at p
     ·rename_i hq
      rw [if_pos (by omega)] at p'
      exact (hc.2 (q - off) c y p (by rw [← p'];congr 1;omega)).mono L
     ·rename_i hq
      rw [if_neg (by omega)] at p'
      exact (k9 q c y p p').mono L
   ·exact h.elim
  ·rename_i g' sh ap l hat
   split at h
   ·rename_i n el sh' l' hik
    split at h
    ·rename_i heq
     have heq:=Shp.eqb_eq _ _ heq
     subst heq
     obtain ⟨⟨hl1,hl2⟩,h⟩:=h
     cases hx with | @vec _ _ ys hc1 hn hs hel =>
     obtain ⟨j,hj,hg,ob,hget,hbg⟩:=hH.alive hat
     cases ha with | ptr hi hg' h1 hv =>
     rw [hj] at hi;cases hi
     obtain ⟨r,b,hp',rfl⟩:=hv hg.symm
     unfold ObjR at ob
     rw [hp'] at ob
     obtain ⟨ke,eb,k1,k2,k3,_,k5,k6,k7,k8,k9,k10⟩:=ob
     simp only [storeStep] at hop
     have hst:storeV E.P C.H t ⟨r,b+0,none⟩ (.agg ys)=wr C.H r b ys.toList:=by
      unfold storeV
      rw [ti.size]
      exact if_pos (by show some i.size=some ys.size;rw [← hn,hl1])
     rw [hst] at hop
     have hz:l'≠[]→sh'.size=1:=fun hl=>by
      obtain ⟨x,hx⟩:=List.exists_mem_of_ne_nil _ hl
      exact (has_cell1 hc1 (hs x hx)).2.1
     have hle:b+ys.toList.length≤eb.cells.length:=by
      by_cases hl:l'=[]
      ·subst hl;simp at hn hl1;simp [← hn];omega
      ·rw [hz hl] at k8;simp;omega
     have L:=Le.put hH k1 k2 (k3 rfl).1 (splice eb.cells b ys.toList)
     refine Went.wrote (bs:=b) (b':=⟨g,true,.arr sh' ap l'⟩) hop hH hj hp' k1 k2 (k3 rfl) hle ?_ hg (fun g' sh' l' e=>by cases e;exact hH.par id _ _ _ j hget hj) ?_ h
     ·intro v hv
      obtain ⟨q,hq,rfl⟩:=List.mem_iff_getElem.1 hv
      have hq':q < l'.length:=by rw [hn];simpa using hq
      exact (hel q _ _ (List.getElem?_eq_getElem hq') (by rw [← Array.getElem?_toList];exact List.getElem?_eq_getElem hq)).one (has_cell1 hc1 (hs _ (List.getElem_mem hq'))).2.2
     ·unfold ObjR
      rw [hp']
      refine ⟨ke,_,live_put k1 k2 _,k2,fun _=>k3 rfl,fun h=>(by cases h),?_,k6,by omega,by rw [hl1,← hl2];exact k8,hs,fun q x c z y p p' p2=>?_⟩
      ·show j.rl=(splice _ _ _).length
       rw [splice_len hle,k5]
      ·have p2:(splice eb.cells b ys.toList)[b+q*sh'.size+c]?=some y:=p2
       obtain ⟨e1,e2,_⟩:=has_cell1 hc1 (hs x (List.mem_of_getElem? p))
       rw [e1] at p'
       have hql:=(List.getElem?_eq_some_iff.1 p).1
       have hc0:=(List.getElem?_eq_some_iff.1 p').1
       simp at hc0
       subst hc0
       simp at p'
       subst p'
       rw [e2,splice_get hle,if_pos (by simp;omega)] at p2
       exact (hel q x y p (by rw [← Array.getElem?_toList,← p2];congr 1;omega)).mono L
    ·exact h.elim
   ·exact h.elim
  ·exact h.elim
 ·rename_i id g n off
  split at h
  ·rename_i g' sh ap l hat
   split at h
   ·rename_i hsz hok hb
    obtain ⟨j,hj,hg,ob,hget,hbg⟩:=hH.alive hat
    cases ha with | eptr hi hg' h1 hv =>
    rw [hj] at hi;cases hi
    obtain ⟨hn,r,b,hp',rfl⟩:=hv hg.symm
    unfold ObjR at ob
    rw [hp'] at ob
    obtain ⟨ke,eb,k1,k2,k3,_,k5,k6,k7,k8,k9,k10⟩:=ob
    have hn':n < l.length:=by omega
    have hb:=Nat.le_of_ble_eq_true hb
    have hsz:=Nat.eq_of_beq_eq_true hsz
    have hnd:x≠.dead:=by rintro rfl;simp [FV.cells,okCells,okCell] at hok
    have hc:=hx.cells hnd
    have hvn:vx.cells.toList.length=i.size:=by rw [← hc.1,hsz]
    have hlen:=has_len (k9 _ (List.getElem_mem hn'))
    have hidx:=Nat.mul_le_mul_right sh.size hn'
    rw [Nat.succ_mul] at hidx
    simp only [storeStep] at hop
    have hst:storeV E.P C.H t ⟨r,b+n*j.e+off,none⟩ vx=wr C.H r (b+n*j.e+off) vx.cells.toList:=by
     unfold storeV
     rw [ti.size,if_pos]
     rw [← hvn];simp
    rw [hst,ke] at hop
    have hle:b+n*sh.size+off+vx.cells.toList.length≤eb.cells.length:=by omega
    have L:=Le.put hH k1 k2 (k3 rfl).1 (splice eb.cells (b+n*sh.size+off) vx.cells.toList)
    -- the element's cells behind it
    have hput:∀ (q:Nat) c y,(putC l[n].cells off x.cells)[q]?=some c→(splice eb.cells (b+n*sh.size+off) vx.cells.toList)[b+n*sh.size+q]?=some y→FR C c y:=fun q c y p p'=>by
     rw [putC_get _ _ _ _ (by omega)] at p
     rw [splice_get hle] at p'
     split at p
     ·rename_i hq
      rw [if_pos (by omega)] at p'
      exact hc.2 (q - off) c y p (by rw [← p'];congr 1;omega)
     ·rename_i hq
      rw [if_neg (by omega)] at p'
      exact k10 n _ q c y (List.getElem?_eq_getElem hn') p p'
    have hY:∀ Y,has sh Y=true→(∀ (q:Nat) c y,Y.cells[q]?=some c→(splice eb.cells (b+n*sh.size+off) vx.cells.toList)[b+n*sh.size+q]?=some y→FR C c y)→k .dead (hp.set id ⟨g,true,.arr sh ap (setN l n Y)⟩)→Went E C o Te true k:=fun Y hY hc' hk=>by
     refine Went.wrote (bs:=b) (b':=⟨g,true,.arr sh ap (setN l n Y)⟩) hop hH hj hp' k1 k2 (k3 rfl) hle (hc.one hok) hg (fun g' sh' l' e=>by cases e;exact hH.par id _ _ _ j hget hj) ?_ hk
     unfold ObjR
     rw [hp']
     refine ⟨ke,_,live_put k1 k2 _,k2,fun _=>k3 rfl,fun h=>(by cases h),?_,k6,by simp [setN];exact k7,by simp [setN];exact k8,fun z hz=>?_,fun m z q c y p p2 p3=>?_⟩
     ·show j.rl=(splice _ _ _).length
      rw [splice_len hle,k5]
     ·rcases List.mem_or_eq_of_mem_set hz with h | h
      ·exact k9 z h
      ·rw [h];exact hY
     ·have p3:(splice eb.cells (b+n*sh.size+off) vx.cells.toList)[b+m*sh.size+q]?=some y:=p3
      unfold setN at p
      rw [List.getElem?_set] at p
      by_cases hm:n=m
      ·subst hm
       rw [if_pos rfl,if_pos hn'] at p
       cases p
       exact (hc' q c y p2 p3).mono L
      ·rw [if_neg hm] at p
       have hz:=has_len (k9 z (List.mem_of_getElem? p))
       have hq:q < sh.size:=by rw [← hz];exact (List.getElem?_eq_some_iff.1 p2).1
       rw [splice_get hle,if_neg] at p3
       ·exact (k10 m z q c y p p2 p3).mono L
       ·rintro ⟨u1,u2⟩
        rcases Nat.lt_or_gt_of_ne hm with u | u
        ·have:=Nat.mul_le_mul_right sh.size u
         rw [Nat.succ_mul] at this
         omega
        ·have:=idx_lt u hq
         omega
    have hall:∀ Y0:FV,FRs C Y0.cells (((splice eb.cells (b+n*sh.size+off) vx.cells.toList).drop (b+n*sh.size)).take sh.size)→∀ (q:Nat) c y,(fit sh Y0).cells[q]?=some c→(splice eb.cells (b+n*sh.size+off) vx.cells.toList)[b+n*sh.size+q]?=some y→FR C c y:=fun Y0 hY0 q c y p p'=>by
     have:=fit_cells (sh:=sh) hY0
     have hq:q < sh.size:=by
      have h1:=(List.getElem?_eq_some_iff.1 p).1
      rw [this.1] at h1
      simp at h1
      omega
     exact this.2 q c y p (by rw [List.getElem?_take,if_pos hq,List.getElem?_drop];exact p')
    have hfull:((splice eb.cells (b+n*sh.size+off) vx.cells.toList).drop (b+n*sh.size)).take sh.size=((splice eb.cells (b+n*sh.size+off) vx.cells.toList).drop (b+n*sh.size)).take sh.size:=rfl
    split at h
    ·rename_i hhas
     refine hY _ hhas ?_ h
     unfold newElt
     split
     ·rename_i cs
      rw [elt_eq hn' k9]
      refine hall (.agg (putC l[n].cells off x.cells)) ⟨?_,fun q c y p p'=>?_⟩
      ·show (putC l[n].cells off x.cells).length=_
       rw [putC_len,hlen,List.length_take,List.length_drop,splice_len hle,Nat.min_eq_left (by omega)]
      ·rw [List.getElem?_take] at p'
       split at p'
       ·rw [List.getElem?_drop] at p';exact hput q c y p p'
       ·cases p'
     ·rename_i hna
      have h1:sh.size=1:=by cases hsh:sh with | agg cs=>exact absurd hsh (hna cs) | _=>rfl
      split
      ·rename_i hi1
       refine hall x ⟨?_,fun q c y p p'=>?_⟩
       ·simp only [List.length_take,List.length_drop,splice_len hle];omega
       ·have hq:=(List.getElem?_eq_some_iff.1 p).1
        rw [List.getElem?_take] at p'
        split at p'
        ·rw [List.getElem?_drop,splice_get hle,if_pos (by omega)] at p'
         exact hc.2 q c y p (by rw [← p'];congr 1;omega)
        ·cases p'
      ·intro q c y p p'
       cases q with
       | zero=>simp [FV.cells] at p;subst p;exact .dead _
       | succ q=>simp [FV.cells] at p
    ·exact h.elim
   ·exact h.elim
  ·exact h.elim
 ·exact h.elim
end
end Go.Proofs.YtmndbhgbngkakaaDoor.G
end
section
/- Go code over plain data: values and slices. No condition but those that are written out. -/
namespace Go.Proofs.YtmndbhgbngkakaaDoor.G
open Go Go.RowKit Go.Proofs.YtmndbhgbngkakaaDoor.E
set_option linter.all false

section
variable {P:Program} {t:TypeId} {xo yo:Operand} {k:IntKind} {a b:Int}
theorem bin_les {p q:ByteArray}:binV P .leq t xo yo (.string p) (.string q)=some (.bool (Op.bytesLess p.toList q.toList || decide (p=q))):=by rw [← bytes_eq];exact bin_pure rfl rfl rfl rfl
theorem bin_gts' {p q:ByteArray}:binV P .gtr t xo yo (.string p) (.string q)=some (.bool (!(Op.bytesLess p.toList q.toList || decide (p=q)))):=by rw [← bytes_eq];exact bin_pure rfl rfl rfl rfl
theorem bin_ges {p q:ByteArray}:binV P .geq t xo yo (.string p) (.string q)=some (.bool (!(Op.bytesLess p.toList q.toList))):=bin_pure rfl rfl rfl rfl
theorem bin_cat {p q:ByteArray} (h:p.size+q.size≤4611686018427387904):binV P .add t xo yo (.string p) (.string q)=some (.string (p++q)):=by
 refine bin_pure rfl rfl ?_ rfl
 have:pureRun P (do eqGuard .add t xo yo (.string p) (.string q);binOp .add t (.string p) (.string q))=pureRun P (Op.stringOp .add p q):=rfl
 rw [this]
 unfold Op.stringOp
 simp only
 rw [if_neg]
 ·rfl
 ·have:IntKind.i64.max=9223372036854775807:=rfl
  rw [this];omega
end
section
variable {E:Env} {C:Cx} {o:Oper} {Te:Tr Value} {T:Tr FV} {ld:Bool} {k:FV→Hp→Prop} {hp:Hp} {t:Nat} {i:TI}
theorem has1_toV {s:Shp} {x:FV} {v:Value} (h:has1 s x=true) (hr:s.plain=true) (hx:FR C x v):v=toV x:=by
 cases s<;>cases x<;>simp [has1] at h<;>simp [Shp.plain] at hr<;>cases hx<;>rfl
theorem hasL_toV:∀ {ss:List Shp} {xs:List FV} {vs:List Value},hasL ss xs=true→ss.all Shp.plain=true→FRs C xs vs→vs=xs.map toV
 | [],[],vs,h,hr,hx=>hx.of_nil
 | [],_::_,vs,h,hr,hx=>by simp [hasL] at h
 | _::_,[],vs,h,hr,hx=>by simp [hasL] at h
 | s::ss,x::xs,vs,h,hr,hx=>by
  simp only [hasL,Bool.and_eq_true] at h
  rw [List.all_cons,Bool.and_eq_true] at hr
  obtain ⟨v,vs',rfl,h1,h2⟩:=hx.of_cons
  rw [has1_toV h.1 hr.1 h1,hasL_toV h.2 hr.2 h2]
  rfl
theorem ibin_ok {P:Program} {op:BinOp} {k1 k2:IntKind} {a b:Int} {q:FV→Prop} {xo yo:Operand} (h:ibin std op k1 a k2 b q):∃ v x,binV P op t xo yo (.int k1 a) (.int k2 b)=some v∧FR C x v∧q x:=by
 unfold ibin at h
 split at h
 ·exact ⟨_,_,bin_shl h.1,.int _ _,h.2⟩
 ·exact ⟨_,_,bin_shr h.1,.int _ _,h.2⟩
 ·split at h
  ·exact h.elim
  ·rename_i hk
   have hk:=of_decide_eq_true hk
   subst hk
   split at h
   ·exact ⟨_,_,bin_add,.int _ _,h⟩
   ·exact ⟨_,_,bin_sub,.int _ _,h⟩
   ·exact ⟨_,_,bin_mul,.int _ _,h⟩
   ·exact ⟨_,_,bin_quo h.1,.int _ _,h.2⟩
   ·exact ⟨_,_,bin_rem h.1,.int _ _,h.2⟩
   ·exact ⟨_,_,bin_and,.int _ _,h⟩
   ·exact ⟨_,_,bin_or,.int _ _,h⟩
   ·exact ⟨_,_,bin_xor,.int _ _,h⟩
   ·exact ⟨_,_,bin_eql,.bool _,h⟩
   ·exact ⟨_,_,bin_neq,.bool _,h⟩
   ·exact ⟨_,_,bin_lss,.bool _,h⟩
   ·exact ⟨_,_,bin_leq,.bool _,h⟩
   ·exact ⟨_,_,bin_gtr,.bool _,h⟩
   ·exact ⟨_,_,bin_geq,.bool _,h⟩
   ·exact h.elim
theorem bin_nil {P:Program} {el:Nat} {b:Bool} {v w:Value} {xo yo:Operand} (h:P.underlying t=some (.slice el)) (hf:(flat depth v && flat depth w)=false) (he:eqNil P t v w=some b):binV P .eql t xo yo v w=some (.bool b)∧binV P .neq t xo yo v w=some (.bool (!b)):=by
 unfold binV
 simp [hf,he]
theorem bin_nn {P:Program} {el:Nat} {xo yo:Operand} (h:P.underlying t=some (.slice el)):binV P .eql t xo yo (.slice none 0 0) (.slice none 0 0)=some (.bool true)∧binV P .neq t xo yo (.slice none 0 0) (.slice none 0 0)=some (.bool false):=by
 have key:∀ d,pureRun P (Op.equalIn (d+1) t (.slice none 0 0) (.slice none 0 0))=some true:=fun d=>by
  unfold Op.equalIn
  rw [pureRun_bind,pureRun_underlying h]
  rfl
 obtain ⟨d,hd⟩:∃ d,Op.equal t (.slice none 0 0) (.slice none 0 0)=Op.equalIn (d+1) t (.slice none 0 0) (.slice none 0 0):=⟨9999,rfl⟩
 have hg:∀ op,op=BinOp.eql∨op=.neq→pureRun P (eqGuard op t xo yo (.slice none 0 0) (.slice none 0 0))=some ():=fun op ho=>by
  rcases ho with rfl | rfl<;>rfl
 constructor
 ·refine bin_pure rfl rfl ?_ rfl
  rw [pureRun_bind,hg _ (.inl rfl)]
  have e:binOp .eql t (.slice none 0 0) (.slice none 0 0)=(Op.equal t (.slice none 0 0) (.slice none 0 0) >>= fun r=>pure (.bool r)):=rfl
  simp only [Option.bind_some]
  rw [e,pureRun_bind,hd,key]
  rfl
 ·refine bin_pure rfl rfl ?_ rfl
  rw [pureRun_bind,hg _ (.inr rfl)]
  have e:binOp .neq t (.slice none 0 0) (.slice none 0 0)=(Op.equal t (.slice none 0 0) (.slice none 0 0) >>= fun r=>pure (.bool (!r))):=rfl
  simp only [Option.bind_some]
  rw [e,pureRun_bind,hd,key]
  rfl
theorem nilF_ok {P:Program} {el:Nat} {x:FV} {v:Value} (h0:P.underlying t=some (.slice el)) (hx:FR C x v) {q:Bool→Prop} {xo yo:Operand} (h:nilF std x q) :
  ∃ b,binV P .eql t xo yo v (.slice none 0 0)=some (.bool b)∧binV P .neq t xo yo v (.slice none 0 0)=some (.bool (!b))∧q b:=by
 unfold nilF at h
 split at h
 ·rw [hx.of_nils]
  obtain ⟨h1,h2⟩:=bin_nn (P:=P) (t:=t) (xo:=xo) (yo:=yo) h0
  exact ⟨true,h1,h2,h⟩
 ·rename_i sh l
  obtain ⟨hl,h⟩:=h
  have hl:l≠[]:=hl
  cases hx with
  | rowN=>exact absurd rfl hl
  | rowE=>exact absurd rfl hl
  | row hst hr hc hs hel =>
   rename_i i off cap eb
   have hn:l.length≠0:=fun e=>hl (List.length_eq_zero_iff.1 e)
   have hf:(flat depth (.slice (some ⟨i,off,none⟩) l.length cap) && flat depth (.slice none 0 0))=false:=rfl
   have he:eqNil P t (.slice (some ⟨i,off,none⟩) l.length cap) (.slice none 0 0)=some false:=by
    unfold eqNil
    rw [h0]
    simp [hn]
   obtain ⟨h1,h2⟩:=bin_nil (xo:=xo) (yo:=yo) h0 hf he
   exact ⟨false,h1,h2,h⟩
 ·exact h.elim
theorem bin_neb {P:Program} {x y:Operand} {p q:Bool} (h:P.underlying t=some .bool):binV P .neq t x y (.bool p) (.bool q)=some (.bool (!(p == q))):=by
 refine bin_pure rfl rfl ?_ rfl
 have e:pureRun P (do eqGuard .neq t x y (.bool p) (.bool q);binOp .neq t (.bool p) (.bool q))=pureRun P (Op.equal t (.bool p) (.bool q) >>= fun r=>pure (.bool (!r))):=rfl
 obtain ⟨d,hd⟩:∃ d,Op.equal t (.bool p) (.bool q)=Op.equalIn (d+1) t (.bool p) (.bool q):=⟨9999,rfl⟩
 rw [e,pureRun_bind,hd]
 unfold Op.equalIn
 rw [pureRun_bind,pureRun_underlying h]
 rfl
theorem binF_ok {P:Program} {ti:Option TI} (hti:∀ i,ti=some i→TiOk P t i) {op:BinOp} {x y:FV} {v w:Value} (hx:FR C x v) (hy:FR C y w) {q:FV→Prop} {xo yo:Operand} (h:binF std ti op x y q) :
  ∃ u z,binV P op t xo yo v w=some u∧FR C z u∧q z:=by
 unfold binF at h
 split at h
 ·rw [hx.of_int,hy.of_int];exact ibin_ok h
 ·rw [hx.of_bool,hy.of_bool]
  split at h
  ·have:=(hti _ rfl).k
   exact ⟨_,_,bin_eqb this,.bool _,h⟩
  ·have:=(hti _ rfl).k
   exact ⟨_,_,bin_neb this,.bool _,h⟩
  ·exact h.elim
 ·rw [hx.of_str,hy.of_str]
  split at h
  ·exact ⟨_,_,bin_cat h.1,.str _,h.2⟩
  ·exact ⟨_,_,bin_eqs,.bool _,h⟩
  ·exact ⟨_,_,bin_nes,.bool _,h⟩
  ·exact ⟨_,_,bin_lts,.bool _,h⟩
  ·exact ⟨_,_,bin_les,.bool _,h⟩
  ·exact ⟨_,_,bin_gts',.bool _,h⟩
  ·exact ⟨_,_,bin_ges,.bool _,h⟩
  ·exact h.elim
 ·rename_i xs ys
  split at h
  ·rename_i i
   obtain ⟨vx,rfl,hvx⟩:=FRs.of_agg hx
   obtain ⟨vy,rfl,hvy⟩:=FRs.of_agg hy
   have key:i.eq=true→has i.sh (.agg xs)=true→has i.sh (.agg ys)=true→binV P .eql t xo yo (.agg vx) (.agg vy)=some (.bool (eqL xs ys))∧binV P .neq t xo yo (.agg vx) (.agg vy)=some (.bool (!(eqL xs ys))):=fun h1 h2 h3=>by
    obtain ⟨e1,e2,e3⟩:=(hti i rfl).eq h1 xs ys xo yo h2 h3
    rcases has_agg h2 with ⟨cs,zs,hs,_⟩ | ⟨_,hn⟩
    ·rw [hs] at h2 h3
     have a1:=hasL_toV (by simpa [has] using h2) (e3 cs hs) hvx
     have a2:=hasL_toV (by simpa [has] using h3) (e3 cs hs) hvy
     have b1:vx=(xs.map toV).toArray:=Array.ext' (by simpa using a1)
     have b2:vy=(ys.map toV).toArray:=Array.ext' (by simpa using a2)
     rw [b1,b2]
     exact ⟨e1,e2⟩
    ·exact absurd rfl (hn xs)
   split at h
   ·rename_i h1 h2 h3;exact ⟨_,_,(key h1 h2 h3).1,.bool _,h⟩
   ·rename_i h1 h2 h3;exact ⟨_,_,(key h1 h2 h3).2,.bool _,h⟩
   ·exact h.elim
  ·exact h.elim
 ·split at h
  ·have h0:=(hti _ rfl).k
   rw [hy.of_nils]
   split at h
   ·obtain ⟨b,h1,h2,h3⟩:=nilF_ok h0 hx (xo:=xo) (yo:=yo) h
    exact ⟨_,_,h1,.bool _,h3⟩
   ·obtain ⟨b,h1,h2,h3⟩:=nilF_ok h0 hx (xo:=xo) (yo:=yo) h
    cases b with
    | true=>exact ⟨_,_,h2,.bool _,h3⟩
    | false=>exact ⟨_,_,h2,.bool _,h3⟩
   ·exact h.elim
  ·exact h.elim
 ·exact h.elim
end
end Go.Proofs.YtmndbhgbngkakaaDoor.G
end
section
/- Go code over plain data: parts, slices, what is appended. No condition but those that are written out. -/
namespace Go.Proofs.YtmndbhgbngkakaaDoor.G
open Go Go.RowKit Go.Proofs.YtmndbhgbngkakaaDoor.E
set_option linter.all false

theorem fold_set : ∀ (l : List Value) (k off : Nat) (a : Array Value), off + k + l.length ≤ a.size → ((l.zipIdx k).foldl (fun cs (p : Value × Nat) => cs.setIfInBounds (off + p.2) p.1) a).size = a.size ∧
    ∀ q, ((l.zipIdx k).foldl (fun cs (p : Value × Nat) => cs.setIfInBounds (off + p.2) p.1) a)[q]? = if off + k ≤ q ∧ q < off + k + l.length then l[q - (off + k)]? else a[q]?
  | [], k, off, a, h => ⟨rfl, fun q => by rw [if_neg (by simp)]; rfl⟩
  | v :: l, k, off, a, h => by
    simp only [List.length_cons] at h
    obtain ⟨h1, h2⟩ := fold_set l (k + 1) off (a.setIfInBounds (off + k) v) (by simp; omega)
    refine ⟨h1.trans (by simp), fun q => ?_⟩
    show ((l.zipIdx (k + 1)).foldl (fun cs (p : Value × Nat) => cs.setIfInBounds (off + p.2) p.1) (a.setIfInBounds (off + k) v))[q]? = _
    rw [h2 q]
    simp only [List.length_cons]
    by_cases c : off + (k + 1) ≤ q ∧ q < off + (k + 1) + l.length
    · rw [if_pos c, if_pos (by omega), show q - (off + k) = (q - (off + (k + 1))) + 1 by omega, List.getElem?_cons_succ]
    · rw [if_neg c, Array.getElem?_setIfInBounds]
      by_cases e : off + k = q
      · rw [if_pos e, if_pos (by omega), if_pos (by omega), show q - (off + k) = 0 by omega]; rfl
      · rw [if_neg e, if_neg (by omega)]
theorem fill_cons (place : Nat → Option (Nat × Nat)) (a : Array Value) (i : Nat) (v : Value) (ps : List (Nat × Value)) {off n : Nat} (hp : place i = some (off, n)) (hn : v.cells.size = n) (hb : off + n ≤ a.size) :
    ∃ a' : Array Value, Instr.fill place a ((i, v) :: ps) = Instr.fill place a' ps ∧ a'.size = a.size ∧ ∀ q, a'[q]? = if off ≤ q ∧ q < off + n then v.cells.toList[q - off]? else a[q]? := by
  obtain ⟨h1, h2⟩ := fold_set v.cells.toList 0 off a (by simp; omega)
  refine ⟨(v.cells.toList.zipIdx 0).foldl (fun cs (p : Value × Nat) => cs.setIfInBounds (off + p.2) p.1) a, ?_, h1, fun q => by rw [h2 q]; simp only [Nat.add_zero, Array.length_toList, hn]⟩
  rw [show Instr.fill place a ((i, v) :: ps) = match place i with
    | none => none
    | some (off, size) => if v.cells.size ≠ size || off + v.cells.size > a.size then none else Instr.fill place (v.cells.zipIdx.foldl (fun cs (c, j) => cs.setIfInBounds (off + j) c) a) ps from rfl, hp]
  simp only
  rw [if_neg (by simp [hn]; omega)]
  congr 1
  rw [← Array.foldl_toList, Array.toList_zipIdx]
def FRp (C : Cx) (ps : List (Nat × FV)) (vs : List (Nat × Value)) : Prop := ps.map (·.1) = vs.map (·.1) ∧ FRs C (ps.map (·.2)) (vs.map (·.2))
theorem fillF_ok {C : Cx} {fs : List (Nat × Nat × Bool)} {place : Nat → Option (Nat × Nat)} (hpl : ∀ i off n ag, fs[i]? = some (off, n, ag) → place i = some (off, n)) : ∀ (ps : List (Nat × FV)) (vs : List (Nat × Value)) (z : List FV) (a : Array Value) (cs : List FV),
    FRp C ps vs → FRs C z a.toList → fillF fs z ps = some cs → ∃ a', Instr.fill place a vs = some a' ∧ FRs C cs a'.toList
  | [], vs, z, a, cs, hp, hz, h => by
    have : vs = [] := by have := hp.1; simp at this; exact this
    subst this
    cases h
    exact ⟨a, rfl, hz⟩
  | (i, x) :: ps, vs, z, a, cs, hp, hz, h => by
    cases vs with
    | nil => have := hp.1; simp at this
    | cons v vs =>
      obtain ⟨i', v⟩ := v
      have h1 := hp.1
      simp only [List.map_cons, List.cons.injEq] at h1
      obtain ⟨rfl, h1⟩ := h1
      have h2 := hp.2
      simp only [List.map_cons] at h2
      obtain ⟨_, _, he, hx, ht⟩ := h2.of_cons
      cases he
      unfold fillF at h
      split at h
      · rename_i off n ag hf
        split at h
        · rename_i hl hb hk
          have hl := Nat.eq_of_beq_eq_true hl
          have hb := Nat.le_of_ble_eq_true hb
          have hd : x ≠ .dead := by rintro rfl; simp [FV.cells, okCells, okCell] at hk
          have hc := hx.cells hd
          have hn : v.cells.size = n := by rw [← hl, hc.1]; simp
          have hlen : z.length = a.size := by rw [hz.1]; simp
          obtain ⟨a', e1, e2, e3⟩ := fill_cons place a i v vs (hpl i off n ag hf) hn (by omega)
          rw [e1]
          refine fillF_ok hpl ps vs _ a' cs ⟨h1, ht⟩ ⟨by rw [putC_len]; simp [e2]; exact hlen, fun q c y p p' => ?_⟩ h
          rw [Array.getElem?_toList, e3] at p'
          rw [putC_get _ _ _ _ (by omega)] at p
          split at p
          · rename_i hq
            rw [if_pos (by omega)] at p'
            exact hc.2 _ c y p p'
          · rename_i hq
            rw [if_neg (by omega)] at p'
            exact hz.2 q c y p (by rw [Array.getElem?_toList]; exact p')
        · cases h
      · cases h
/-- The elements of a slice that is written out. -/
theorem fillE_ok {C : Cx} {sh : Shp} (hsz : 0 < sh.size) : ∀ (ps : List (Nat × FV)) (vs : List (Nat × Value)) (z : List FV) (a : Array Value) (l : List FV),
    FRp C ps vs → a.size = z.length * sh.size → (∀ x, x ∈ z → has sh x = true) → ElR C sh.size z a.toList 0 → fillE sh z ps = some l →
    ∃ a', Instr.fill (fun i => some (i * sh.size, sh.size)) a vs = some a' ∧ l.length = z.length ∧ a'.size = a.size ∧ (∀ x, x ∈ l → has sh x = true) ∧ ElR C sh.size l a'.toList 0
  | [], vs, z, a, l, hp, ha, hs, hz, h => by
    have : vs = [] := by have := hp.1; simp at this; exact this
    subst this
    cases h
    exact ⟨a, rfl, rfl, rfl, hs, hz⟩
  | (i, x) :: ps, vs, z, a, l, hp, ha, hs, hz, h => by
    cases vs with
    | nil => have := hp.1; simp at this
    | cons v vs =>
      obtain ⟨i', v⟩ := v
      have h1 := hp.1
      simp only [List.map_cons, List.cons.injEq] at h1
      obtain ⟨rfl, h1⟩ := h1
      have h2 := hp.2
      simp only [List.map_cons] at h2
      obtain ⟨_, _, he, hx, ht⟩ := h2.of_cons
      cases he
      unfold fillE at h
      split at h
      · rename_i hf hb
        have hb : i < z.length := Nat.le_of_ble_eq_true hb
        have hd : x ≠ .dead := by rintro rfl; cases sh <;> simp [fit, fit1, has, has1] at hf
        have hc := fit_cells (sh := sh) (hx.cells hd)
        have hlen := has_len hf
        have hn : v.cells.size = sh.size := by rw [← hlen, hc.1]; simp
        have hidx := Nat.mul_le_mul_right sh.size hb
        rw [Nat.succ_mul] at hidx
        obtain ⟨a', e1, e2, e3⟩ := fill_cons (fun i => some (i * sh.size, sh.size)) a i v vs rfl hn (by omega)
        rw [e1]
        obtain ⟨a2, r1, r2, r3, r4, r5⟩ := fillE_ok hsz ps vs (z.set i (fit sh x)) a' l ⟨h1, ht⟩ (by simp [e2, ha]) (fun y hy => by
          rcases List.mem_or_eq_of_mem_set hy with h | h
          · exact hs y h
          · rw [h]; exact hf) (fun n y j c w p p2 p3 => by
            rw [Nat.zero_add, Array.getElem?_toList, e3] at p3
            rw [List.getElem?_set] at p
            by_cases hm : i = n
            · subst hm
              rw [if_pos rfl, if_pos hb] at p
              cases p
              have hj := (List.getElem?_eq_some_iff.1 p2).1
              rw [if_pos (by omega)] at p3
              exact hc.2 j c w p2 (by rw [← p3]; congr 1; omega)
            · rw [if_neg hm] at p
              have hj : j < sh.size := by rw [← has_len (hs y (List.mem_of_getElem? p))]; exact (List.getElem?_eq_some_iff.1 p2).1
              rw [if_neg] at p3
              · exact hz n y j c w p p2 (by rw [Nat.zero_add, Array.getElem?_toList]; exact p3)
              · rintro ⟨u1, u2⟩
                rcases Nat.lt_or_gt_of_ne hm with u | u
                · have := Nat.mul_le_mul_right sh.size u
                  rw [Nat.succ_mul] at this
                  omega
                · have := idx_lt u hj
                  omega) h
        exact ⟨a2, r1, by simpa using r2, r3.trans e2, r4, r5⟩
      · cases h
/-- So many zero elements. -/
theorem zeros_ok {C : Cx} {P : Program} {t : Nat} {i : TI} (ti : TiOk P t i) {z : Value} (hz : tzero P t = some z) (hs : has i.sh (zeroE i) = true) (n : Nat) :
    (zerosOf z.cells (n * i.size)).length = n * i.size ∧ z.cells.size = i.size ∧ 0 < i.size ∧ (∀ v, v ∈ zerosOf z.cells (n * i.size) → v.oneCell' = true) ∧ ElR C i.sh.size (List.replicate n (zeroE i)) (zerosOf z.cells (n * i.size)) 0 := by
  obtain ⟨z', hz', h1, h2, h3, h4⟩ := ti.zero
  rw [hz] at hz'; cases hz'
  have hlen := has_len hs
  rw [ti.sh.1] at hlen
  have hzc : FRs C (zeroE i).cells z.cells.toList := by
    have base : FRs C i.zero z.cells.toList := by
      rw [← h1]
      refine ⟨by simp, fun j x y p q => ?_⟩
      simp only [List.getElem?_map, Option.map_eq_some_iff] at p
      obtain ⟨w, hw, rfl⟩ := p
      rw [hw] at q; cases q
      exact ofV_ok C 4 _
    unfold zeroE
    split
    · exact fit_cells (x := .agg i.zero) base
    · rename_i ha
      have hone := ti.one ha
      cases hc : z.cells.toList with
      | nil => have : z.cells.size = 0 := by rw [← Array.length_toList, hc]; rfl
               omega
      | cons v vs =>
        rw [hc] at base
        have hv : vs = [] := by
          have : z.cells.toList.length = 1 := by rw [Array.length_toList]; omega
          rw [hc] at this; simpa using this
        subst hv
        cases hi : i.zero with
        | nil => rw [hi] at base; have := base.1; simp at this
        | cons x xs =>
          rw [hi] at base
          obtain ⟨_, _, e, hx, ht⟩ := base.of_cons
          cases e
          have : xs = [] := by have := ht.1; simpa using this
          subst this
          by_cases hxd : (∃ ys, x = .agg ys) ∨ ∃ s l, x = .vec s l
          · rcases hxd with ⟨ys, rfl⟩ | ⟨s, l, rfl⟩
            · obtain ⟨cs, rfl, _⟩ := FRs.of_agg hx
              have := h3 (.agg cs) (by rw [hc]; simp)
              simp [Value.oneCell'] at this
            · cases hx with | @vec _ _ cs _ _ _ _ =>
              have := h3 (.agg cs) (by rw [hc]; simp)
              simp [Value.oneCell'] at this
          · refine fit_cells (x := x) ?_
            have : x.cells = [x] := by cases x <;> first | rfl | exact absurd (.inl ⟨_, rfl⟩) hxd | exact absurd (.inr ⟨_, _, rfl⟩) hxd
            rw [this]
            exact (FRs.nil C).cons hx
  have hpos := ti.pos
  refine ⟨by simp [zerosOf], h2, hpos, fun v hv => ?_, fun k x j c y p q r => ?_⟩
  · unfold zerosOf at hv
    simp only [Array.mem_toList_iff, Array.mem_map, Array.mem_range] at hv
    obtain ⟨q, hq, rfl⟩ := hv
    have : q % z.cells.size < z.cells.size := Nat.mod_lt _ (by omega)
    rw [getElem!_pos z.cells _ this]
    exact h3 _ (by simp)
  · have hk := List.getElem?_eq_some_iff.1 p
    obtain ⟨hk, rfl⟩ := hk
    simp only [List.length_replicate] at hk
    rw [List.getElem_replicate] at q
    have hj : j < i.size := by rw [← hlen]; exact (List.getElem?_eq_some_iff.1 q).1
    rw [ti.sh.1] at r
    unfold zerosOf at r
    have hlt := idx_lt hk hj
    rw [Array.getElem?_toList, Array.getElem?_map, Array.getElem?_range, if_pos (by omega)] at r
    simp only [Option.map_some, Option.some.injEq] at r
    subst r
    have e : (0 + k * i.size + j) % z.cells.size = j := by rw [h2, Nat.zero_add, Nat.add_comm, Nat.add_mul_mod_self_right, Nat.mod_eq_of_lt hj]
    rw [e, getElem!_pos z.cells j (by omega)]
    exact hzc.2 j c _ q (by simp [hj, h2])
/-! ### Slices -/
section
variable {E : Env} {C : Cx} {o : Oper} {Te : Tr Value} {T : Tr FV} {ld : Bool} {k : FV → Hp → Prop} {hp : Hp} {t : Nat} {i : TI}
theorem lenF_ok (hH : HR C hp) {x : FV} {v : Value} (hx : FR C x v) {q : Int → Prop} (h : lenF std hp x q) : ∃ b n c, v = .slice b n c ∧ q n := by
  unfold lenF at h
  split at h
  · rw [hx.of_nils]; exact ⟨_, 0, _, rfl, h⟩
  · cases hx <;> exact ⟨_, _, _, rfl, h⟩
  · split at h
    · rename_i hat
      obtain ⟨j, hj, hg, ob, _, _⟩ := hH.alive hat
      cases hx with | own hi hg' h1 hv =>
      rw [hj] at hi; cases hi
      have := hv hg.symm
      unfold OwnV at this
      unfold ObjR at ob
      split at this
      · rename_i r b hpos
        rw [hpos] at ob
        obtain ⟨cap, rfl, _⟩ := this
        obtain ⟨_, eb, _, _, _, _, _, _, k7, _⟩ := ob
        refine ⟨_, j.len, _, rfl, ?_⟩
        rw [k7]; exact h
      · rename_i hpos
        rw [hpos] at ob
        obtain ⟨rfl, _⟩ := this
        obtain ⟨_, rfl, _⟩ := ob
        exact ⟨_, 0, _, rfl, h⟩
    · exact h.elim
  · split at h
    · rename_i b0 hat
      obtain ⟨j, hj, hg, ob, _, _⟩ := hH.alive hat
      cases hx with | view hi hg' h1 hv =>
      rw [hj] at hi; cases hi
      have := hv hg.symm
      unfold ViewV at this
      split at this
      · obtain ⟨_, ⟨cap, rfl, _⟩ | ⟨rfl, A, cap, rfl, _⟩⟩ := this <;> exact ⟨_, _, _, rfl, h⟩
      · obtain ⟨rfl, _, e⟩ := this
        refine ⟨_, _, _, rfl, ?_⟩
        rename_i lo n _ _ _ _ _ _
        have hz : n = 0 := by omega
        rw [hz] at h
        exact h
    · exact h.elim
  · exact h.elim
/-- The elements of a slice, and the cells that stand for them. -/
theorem readF_ok (hH : HR C hp) {x : FV} {v : Value} (hx : FR C x v) {q : Shp → List FV → Prop} (h : readF std hp x q) : ∃ sh l, q sh l ∧ lenV v = some l.length ∧ (∀ y, y ∈ l → has sh y = true) ∧
    ∀ n, n ≤ l.length → ∃ cs, firstV C.H sh.size n v = some cs ∧ cs.length = n * sh.size ∧ ElR C sh.size (l.take n) cs 0 := by
  have base : ∀ (sh : Shp) (l : List FV) (r b cap : Nat) (eb : Blk), C.H.live r = some eb → b + l.length * sh.size ≤ eb.cells.length → ElR C sh.size l eb.cells b → ∀ n, n ≤ l.length → ∃ cs, firstV C.H sh.size n (.slice (some ⟨r, b, none⟩) l.length cap) = some cs ∧ cs.length = n * sh.size ∧ ElR C sh.size (l.take n) cs 0 :=
    fun sh l r b cap eb hl hb he n hn => by
      have h1 := Nat.mul_le_mul_right sh.size hn
      by_cases h0 : n * sh.size = 0
      · exact ⟨[], by simp [firstV, h0], by simp [h0], fun m x j c y _ _ p => by simp at p⟩
      · refine ⟨(eb.cells.drop b).take (n * sh.size), by simp only [firstV]; rw [if_neg h0, rd_of hl (by omega)], by simp; omega, ?_⟩
        have := (he.sub 0 n)
        rw [List.drop_zero, Nat.zero_mul, Nat.add_zero] at this
        exact this.cut _
  unfold readF at h
  split at h
  · rename_i sh l
    refine ⟨sh, l, h, ?_⟩
    cases hx with
    | rowN => exact ⟨rfl, fun y hy => (by cases hy), fun n hn => ⟨[], rfl, by simp at hn; simp [hn], by simpa using ElR.nil _ _ _ _⟩⟩
    | rowE => exact ⟨rfl, fun y hy => (by cases hy), fun n hn => ⟨[], by simp at hn; simp [firstV, hn], by simp at hn; simp [hn], by simpa using ElR.nil _ _ _ _⟩⟩
    | row hl hr hc hs he => exact ⟨rfl, hs, base sh l _ _ _ _ hl.1 hr he⟩
  · split at h
    · rename_i sh ap l hat
      obtain ⟨j, hj, hg, ob, _, _⟩ := hH.alive hat
      cases hx with | own hi hg' h1 hv =>
      rw [hj] at hi; cases hi
      have := hv hg.symm
      unfold OwnV at this
      unfold ObjR at ob
      split at this
      · rename_i r b hpos
        rw [hpos] at ob
        obtain ⟨cap, rfl, _⟩ := this
        obtain ⟨_, eb, k1, _, _, _, k5, _, k7, k8, k9, k10⟩ := ob
        rw [k7]
        exact ⟨sh, l, h, rfl, k9, base sh l r b cap eb k1 (by omega) k10⟩
      · rename_i hpos
        rw [hpos] at ob
        obtain ⟨rfl, _⟩ := this
        obtain ⟨_, rfl, _⟩ := ob
        exact ⟨sh, [], h, rfl, fun y hy => (by cases hy), fun n hn => ⟨[], rfl, by simp at hn; simp [hn], by simpa using ElR.nil _ _ _ _⟩⟩
    · exact h.elim
  · rename_i id g lo n0
    split at h
    · rename_i sh ap l hat
      obtain ⟨j, hj, hg, ob, _, _⟩ := hH.alive hat
      cases hx with | view hi hg' h1 hv =>
      rw [hj] at hi; cases hi
      have := hv hg.symm
      unfold ViewV at this
      unfold ObjR at ob
      split at this
      · rename_i r b hpos
        rw [hpos] at ob
        obtain ⟨hle, ⟨cap, rfl, _⟩ | ⟨rfl, A, cap, rfl, _⟩⟩ := this
        case inr =>
          have e : (std (List FV) fun _ => (l.drop lo).take 0) = [] := by simp [std]
          rw [e] at h
          exact ⟨sh, [], h, rfl, fun y hy => (by cases hy), fun n hn => ⟨[], by simp at hn; simp [firstV, hn], by simp at hn; simp [hn], by simpa using ElR.nil _ _ _ _⟩⟩
        obtain ⟨ke, eb, k1, _, _, _, k5, _, k7, k8, k9, k10⟩ := ob
        have hlen : ((l.drop lo).take n0).length = n0 := by simp; omega
        have h2 : (lo + n0) * sh.size ≤ l.length * sh.size := Nat.mul_le_mul_right _ (by omega)
        rw [Nat.add_mul] at h2
        have := base sh ((l.drop lo).take n0) r (b + lo * j.e) cap eb k1 (by rw [hlen, ke]; omega) (by rw [ke]; exact ElR.sub k10 lo n0)
        rw [hlen] at this
        exact ⟨sh, _, h, by show some n0 = some ((l.drop lo).take n0).length; rw [hlen], fun y hy => k9 y (List.mem_of_mem_drop (List.mem_of_mem_take hy)), by rw [show (std (List FV) fun _ => (l.drop lo).take n0) = (l.drop lo).take n0 from rfl, hlen]; exact this⟩
      · rename_i hpos
        rw [hpos] at ob
        obtain ⟨rfl, _, e⟩ := this
        obtain ⟨_, rfl, _⟩ := ob
        have h1 : n0 = 0 := by omega
        have h2 : lo = 0 := by omega
        subst h1; subst h2
        exact ⟨sh, _, h, rfl, fun y hy => by simp [std] at hy, fun n hn => ⟨[], rfl, by simp [std] at hn; simp [hn], by simpa [std] using ElR.nil _ _ _ _⟩⟩
    · exact h.elim
  · exact h.elim
end
end Go.Proofs.YtmndbhgbngkakaaDoor.G
end
section
/- Go code over plain data: what is appended. No condition but those that are written out. -/
namespace Go.Proofs.YtmndbhgbngkakaaDoor.G
open Go Go.RowKit Go.Proofs.YtmndbhgbngkakaaDoor.E
set_option linter.all false

theorem has1_ok {s:Shp} {x:FV} (h:has1 s x=true):okCell x=true:=by cases s<;>cases x<;>simp [has1] at h<;>rfl
theorem hasL_ok:∀ {ss:List Shp} {xs:List FV},hasL ss xs=true→okCells xs=true
 | [],[],h=>rfl
 | [],_::_,h=>by simp [hasL] at h
 | _::_,[],h=>by simp [hasL] at h
 | s::ss,x::xs,h=>by
  simp only [hasL,Bool.and_eq_true] at h
  unfold okCells
  rw [has1_ok h.1]
  exact hasL_ok h.2
theorem has_ok {s:Shp} {x:FV} (h:has s x=true):okCells x.cells=true:=by
 rcases has_agg h with ⟨cs,xs,rfl,rfl⟩ | ⟨h1,h2⟩
 ·show okCells xs=true
  exact hasL_ok (by simpa [has] using h)
 ·have h3:has1 s x=true:=by cases s<;>cases x<;>first | (simpa [has] using h) | exact absurd rfl (h1 _)
  have:=has1_ok h3
  have hx:x.cells=[x]:=by cases x<;>first | rfl | exact absurd rfl (h2 _) | (exfalso;cases s<;>simp_all [has,has1])
  rw [hx];unfold okCells;rw [this];rfl
theorem ElR.one {C:Cx} {sh:Shp} {l:List FV} {cs:List Value} (hp:0 < sh.size) (hl:cs.length=l.length*sh.size) (hs:∀ x,x∈l→has sh x=true) (h:ElR C sh.size l cs 0):∀ v,v∈cs→v.oneCell'=true:=fun v hv=>by
 obtain ⟨q,hq,e⟩:=List.mem_iff_getElem.1 hv
 have hn:q / sh.size < l.length:=Nat.div_lt_of_lt_mul (by rw [Nat.mul_comm,← hl];exact hq)
 have hj:q % sh.size < sh.size:=Nat.mod_lt _ hp
 have hx:=hs _ (List.getElem_mem hn)
 have hlen:=has_len hx
 have hj':q % sh.size < l[q / sh.size].cells.length:=by omega
 have:=h (q / sh.size) _ (q % sh.size) l[q / sh.size].cells[q % sh.size] v (List.getElem?_eq_getElem hn) (List.getElem?_eq_getElem hj') (by
  rw [Nat.zero_add,Nat.mul_comm,Nat.div_add_mod,List.getElem?_eq_getElem hq,e])
 exact this.one (okCells_mem (has_ok hx) _ (List.getElem_mem hj'))
section
variable {E:Env} {C:Cx} {o:Oper} {Te:Tr Value} {T:Tr FV} {ld:Bool} {k:FV→Hp→Prop} {hp:Hp} {t:Nat} {i:TI}
/-- A number's thing is of a new age, in the same place. -/
theorem Went.aged {v:Value} {id:Nat} {j:Inf} {b b':VB} (h:opStep E Te C.H o=some (.val v,C.H)) (hH:HR C hp) (hj:C.inf id=some j) (hb:hp.get id=some b) (hg:b'.gen=j.gen+1) (hpr:∀ g sh l,b'≠⟨g,true,.arr sh false l⟩) (hv:v.oneCell'=true) (hov:OwnV { j with gen:=j.gen+1 } v)
  (ho:∀ C':Cx,Le C C'→C'.H=C.H→C'.own=C.own→C'.wr=C.wr→ObjR C' { j with gen:=j.gen+1 } b') (hk:k (.own id (j.gen+1)) (hp.set id b')):Went E C o Te true k:=by
 have L:Le C ⟨C.H,C.own,C.wr,updI C.inf id { j with gen:=j.gen+1 },C.bad⟩:=⟨fun _ _ h=>h,fun x i0 h0=>by
  by_cases e:x=id
  ·subst e;rw [hj] at h0;cases h0;exact ⟨_,updI_same _ _ _,.inl (Nat.lt_succ_self _)⟩
  ·exact ⟨i0,by show updI C.inf id _ x=_;rw [updI_ne _ _ e];exact h0,.inr rfl⟩⟩
 refine ⟨⟨C.H,C.own,C.wr,updI C.inf id { j with gen:=j.gen+1 },C.bad⟩,.own id (j.gen+1),hp.set id b',v,fun _=>False,⟨0,fun n _=>by unfold runOp;rw [h]⟩,L,.refl _ _,fun f h=>h.elim,fun h=>(by cases h),fun f h=>.inl h,fun f h=>.inl h,rfl,?_,.own (updI_same _ _ _) (Nat.le_refl _) hv fun _=>hov,hk⟩
 refine hH.upd L hH.wf id b' _ rfl hg.symm (ho _ L rfl rfl rfl) rfl (Nat.le_refl _) (fun f hf=>.inl hf) (fun g sh l e=>absurd e (hpr g sh l)) (fun r bs eb p l=>hH.good id j r bs eb hj p l) (fun x i0 r bs eb hx h p l=>⟨l,Iff.rfl,Iff.rfl⟩) fun x i0 r bs r' bs' eb eb' hx h p p' l l' hf=>?_
 exact hx (hH.apart x id i0 j r bs r' bs' eb eb' h hj p p' l l' hf)
theorem appF_ok {el:Nat} (ti:TiOk E.P el i) (hH:HR C hp) {s x:FV} {vs vx:Value} (hs:FR C s vs) (hx:FR C x vx) {d:Nat} (h:appF std hp d i s x k)
  (hop:opStep E Te C.H o=match lenV vx with
   | some n=>(match firstV C.H i.size n vx with | some new=>(appendV C.H i.size i.bytes vs new n).map fun r=>(Re.val r.1,r.2) | none=>none)
   | none=>none):Went E C o Te true k:=by
 have hpos:=ti.pos
 have hsh:=ti.sh.1
 unfold appF at h
 split at h
 ·-- to nil
  rw [hs.of_nils] at hop
  split at h
  ·rw [hx.of_nils] at hop
   refine Went.pure (x:=.nils) (v:=.slice none 0 0) ?_ hH .nils h.2
   rw [hop]
   have h65:=h.1
   simp [lenV,firstV,appendV,maxRoom,ZO,RO,OPEN,hpos,h65]
  ·obtain ⟨sh,l,h,hlen,hsl,hrd⟩:=readF_ok hH hx h
   split at h
   ·rename_i heq
    have heq:=Shp.eqb_eq _ _ heq
    subst heq
    split at h
    ·obtain ⟨h65,h⟩:=h
     obtain ⟨cs,hf,hcl,hel⟩:=hrd 0 (Nat.le_refl _)
     rw [hsh] at hf hcl
     have hc0:cs=[]:=List.length_eq_zero_iff.1 (by rw [hcl];exact Nat.zero_mul _)
     subst hc0
     refine Went.pure (x:=.nils) (v:=.slice none 0 0) ?_ hH .nils h
     rw [hop,hlen]
     simp only [List.length_nil,hf]
     simp [appendV,maxRoom,ZO,RO,OPEN,hpos,h65]
    rename_i y ys
    generalize y::ys=l at *
    obtain ⟨h65,hb,h⟩:=h
    obtain ⟨hb1,hb2,hb3⟩:=hb
    obtain ⟨cs,hf,hcl,hel⟩:=hrd _ (Nat.le_refl _)
    rw [List.take_length] at hel
    rw [hsh] at hf hcl
    rw [hlen] at hop
    simp only at hop
    rw [hf] at hop
    simp only at hop
    have h1:=hel.one (by rw [hsh];exact hpos) (by rw [hsh];exact hcl) hsl
    have hne:l.length≠0:=fun e=>hb3 (List.length_eq_zero_iff.1 e)
    have ha:appendV C.H i.size i.bytes (.slice none 0 0) cs l.length=some (.slice (some ⟨C.H.n,0,none⟩) l.length OPEN,C.H.new cs i.size):=by
     unfold appendV
     simp only
     rw [if_pos ⟨⟨by simpa using hb1,h65,by simpa using hb2⟩,hpos,hcl,List.all_eq_true.2 h1⟩]
     simp [ZO,RO,OPEN,hne]
    rw [ha] at hop
    exact Went.arr (sh:=i.sh) (l:=l) (cs:=cs) (ez:=i.size) (cap:=OPEN) hop hH hsl (by rw [hsh,hcl];exact Nat.le_refl _) hel (.inl ⟨rfl,hsh.symm,by rw [hsh,hcl];exact Nat.zero_add _⟩) d h
   ·exact h.elim
 ·-- to what lies under a number
  rename_i id g
  split at h
  ·rename_i gg sh l hat
   obtain ⟨j,hj,hg,ob,hget,hbg⟩:=hH.alive hat
   have hbg:gg=g:=hbg
   subst hbg
   cases hs with | own hi hg' hone hv =>
   rw [hj] at hi;cases hi
   have hov:=hv hg.symm
   split at h
   ·-- nothing
    rw [hx.of_nils] at hop
    split at h
    ·rename_i heq
     have heq:=Shp.eqb_eq _ _ heq
     subst heq
     obtain ⟨h65,⟨hb1,hb2⟩,h⟩:=h
     have hlen:i.sh.size=i.size:=hsh
     have ha:appendV C.H i.size i.bytes vs [] 0=some (vs,C.H):=by
      unfold OwnV at hov
      unfold ObjR at ob
      split at hov
      ·rename_i r b hpo
       rw [hpo] at ob
       obtain ⟨cap,rfl,hcap⟩:=hov
       obtain ⟨ke,eb,k1,k2,k3,_,k5,k6,k7,k8,k9,k10⟩:=ob
       rw [ke,k5,k6,k7,hsh] at hcap
       unfold appendV
       simp only
       rw [k7,if_pos ⟨⟨by simpa using hb1,h65,by simpa using hb2⟩,hpos,by simp,by simp⟩]
       rcases hcap with ⟨rfl,h2,h3⟩ | ⟨h2,h3,h4⟩
       ·simp [ZO,RO,OPEN,k1,k2,h2,h3]
       ·have e1:cap≠ZO:=by unfold ZO;unfold OPEN at h3;omega
        have e2:cap≠RO:=by unfold RO;unfold OPEN at h3;omega
        have e3:cap≠OPEN:=by omega
        simp [e1,e2,e3,h2]
      ·obtain ⟨rfl,_⟩:=hov
       simp [appendV,maxRoom,ZO,RO,OPEN,hpos,h65]
     simp only [lenV,firstV] at hop
     rw [ha] at hop
     refine Went.pure (x:=.own id gg) (v:=vs) ?_ hH (.own hj hg' hone hv) h
     rw [hop];rfl
    ·exact h.elim
   ·obtain ⟨sh',l',h,hlen,hsl,hrd⟩:=readF_ok hH hx h
    split at h
    ·rename_i heq heq'
     have heq:=Shp.eqb_eq _ _ heq
     have heq':=Shp.eqb_eq _ _ heq'
     subst heq
     subst heq'
     obtain ⟨h65,⟨hb1,hb2⟩,h⟩:=h
     obtain ⟨cs,hf,hcl,hel⟩:=hrd l'.length (Nat.le_refl _)
     rw [List.take_length] at hel
     rw [hsh] at hf hcl
     rw [hlen] at hop
     simp only at hop
     rw [hf] at hop
     simp only at hop
     have h1:=hel.one (by rw [hsh];exact hpos) (by rw [hsh];exact hcl) hsl
     have hngd:ng hp id=gg+1:=by unfold ng;rw [hget]
     unfold OwnV at hov
     unfold ObjR at ob
     split at hov
     ·rename_i r b hpo
      rw [hpo] at ob
      obtain ⟨cap,rfl,hcap⟩:=hov
      obtain ⟨ke,eb,k1,k2,k3,_,k5,k6,k7,k8,k9,k10⟩:=ob
      obtain ⟨hown,hwr⟩:=k3 rfl
      rw [k7] at hop
      rw [ke,k5,k6,k7,hsh] at hcap
      rw [hsh] at k8 k10
      have hguard:(((l.length+l'.length)*i.bytes≤maxRoom∧i.bytes≤65536∧l.length+l'.length≤maxRoom)∧0 < i.size∧cs.length=l'.length*i.size∧cs.all (·.oneCell')=true):=⟨⟨hb1,h65,hb2⟩,hpos,hcl,List.all_eq_true.2 h1⟩
      have hall:∀ y,y∈l++l'→has i.sh y=true:=fun y hy=>by
       rcases List.mem_append.1 hy with hy | hy
       ·exact k9 y hy
       ·exact hsl y hy
      rw [hsh] at hel
      -- what stood there
      have hold:ElR C i.sh.size l ((eb.cells.drop b).take (l.length*i.size)) 0:=by rw [hsh];exact ElR.cut k10 _
      have holdl:((eb.cells.drop b).take (l.length*i.size)).length=l.length*i.sh.size:=by rw [hsh];simp;omega
      have hnew:ElR C i.sh.size (l++l') ((eb.cells.drop b).take (l.length*i.size)++cs) 0:=hold.app holdl k9 (by rw [hsh];exact hel)
      have hnewl:((eb.cells.drop b).take (l.length*i.size)++cs).length=(l++l').length*i.size:=by rw [List.length_append,holdl,hsh,hcl,← Nat.add_mul,List.length_append]
      have hadd:(l.length+l'.length)*i.size=l.length*i.size+l'.length*i.size:=Nat.add_mul _ _ _
      by_cases h0:l'.length=0
      ·-- nothing is added
       have hl':l'=[]:=List.length_eq_zero_iff.1 h0
       subst hl'
       have hcs:cs=[]:=List.length_eq_zero_iff.1 (by rw [hcl];simp)
       subst hcs
       rw [List.length_nil] at hguard
       have ha:appendV C.H i.size i.bytes (.slice (some ⟨r,b,none⟩) l.length cap) [] 0=some (.slice (some ⟨r,b,none⟩) l.length cap,C.H):=by
        unfold appendV
        simp only
        rw [if_pos hguard]
        rcases hcap with ⟨rfl,h2,h3⟩ | ⟨h2,h3,h4⟩
        ·simp [ZO,RO,OPEN,k1,k2,h2,h3]
        ·have e1:cap≠ZO:=by unfold ZO;unfold OPEN at h3;omega
         have e2:cap≠RO:=by unfold RO;unfold OPEN at h3;omega
         have e3:cap≠OPEN:=by omega
         simp [e1,e2,e3,h2]
       simp only [List.length_nil] at hop
       rw [ha] at hop
       have e:(std (List FV) fun _=>l++[])=l:=by simp [std]
       rw [e] at h
       refine Went.aged (j:=j) (b':=⟨gg+1,true,.arr i.sh true l⟩) (v:=.slice (some ⟨r,b,none⟩) l.length cap) (by rw [hop];rfl) hH hj hget (by rw [hg]) (fun g sh l e=>(by cases e)) rfl ?_ (fun C' L e1 e2 e3=>?_) (by rw [hg];exact h)
       ·unfold OwnV
        simp only [hpo]
        exact ⟨cap,by rw [k7],by rw [ke,k5,k6,k7,hsh];exact hcap⟩
       ·unfold ObjR
        simp only [hpo]
        exact ⟨ke,eb,by rw [e1];exact k1,k2,fun _=>by rw [e2,e3];exact ⟨hown,hwr⟩,fun h=>(by cases h),k5,k6,k7,by rw [hsh];exact k8,k9,by rw [hsh];exact ElR.mono L k10⟩
      ·rcases hcap with ⟨rfl,h2,h3⟩ | ⟨h2,h3,h4⟩
       ·-- beyond its end
        have ha:appendV C.H i.size i.bytes (.slice (some ⟨r,b,none⟩) l.length OPEN) cs l'.length=some (.slice (some ⟨C.H.n,0,none⟩) (l.length+l'.length) OPEN,C.H.grow r eb true ((eb.cells.drop b).take (l.length*i.size)++cs)):=by
         unfold appendV
         simp only
         rw [if_pos hguard,if_neg (by decide),if_neg (by decide),if_pos trivial,k1]
         simp only
         rw [if_pos ⟨h2,k2,by omega⟩,if_neg h0,if_neg (by rw [hcl,h3];have:=Nat.mul_pos (Nat.pos_of_ne_zero h0) hpos;omega)]
         congr 3
         simp [h3]
        rw [ha] at hop
        have hez:eb.esz≠0:=by omega
        have L:Le C ⟨C.H.grow r eb true ((eb.cells.drop b).take (l.length*i.size)++cs),C.own,C.wr,updI C.inf id ⟨gg+1,some (C.H.n,0),i.size,l.length+l'.length,((eb.cells.drop b).take (l.length*i.size)++cs).length,eb.esz⟩,C.bad⟩:=by
         refine ⟨fun x eb' hx=>⟨live_grow_ne hH.wf k1 k2 true _ hx.1 (hx.2.imp (fun q=>q) fun q e=>q.1 (e▸hown)),hx.2⟩,fun x i0 hi0=>?_⟩
         by_cases e:x=id
         ·subst e;rw [hj] at hi0;cases hi0
          exact ⟨_,updI_same _ _ _,.inl (by rw [hg];exact Nat.lt_succ_self _)⟩
         ·exact ⟨i0,by show updI C.inf id _ x=_;rw [updI_ne _ _ e];exact hi0,.inr rfl⟩
        refine ⟨⟨C.H.grow r eb true ((eb.cells.drop b).take (l.length*i.size)++cs),C.own,C.wr,updI C.inf id ⟨gg+1,some (C.H.n,0),i.size,l.length+l'.length,((eb.cells.drop b).take (l.length*i.size)++cs).length,eb.esz⟩,C.bad⟩,
         .own id (gg+1),_,.slice (some ⟨C.H.n,0,none⟩) (l.length+l'.length) OPEN,C.wr,⟨0,fun n _=>by unfold runOp;rw [hop];rfl⟩,L,.grow k1 k2 hez hwr _ _,fun f h=>h,fun h=>(by cases h),fun f h=>.inl h,fun f h=>.inl h,rfl,?_,?_,h⟩
        ·refine hH.upd L (hH.wf.grow (live_some k1).1 k2 hez true _) id _ _ rfl rfl ?_ rfl (Nat.le_succ _) (fun f hf=>.inl hf) (fun g sh l e=>(by cases e)) (fun r2 bs2 eb2 p2 l2=>?_) (fun x i0 r' bs' eb' hx hi0 p lv=>⟨?_,Iff.rfl,Iff.rfl⟩) fun x i0 r' bs' r2 bs2 eb' eb2 hx hi0 p p2 lv lv2 hfam=>?_
         ·refine ⟨hsh.symm,⟨(eb.cells.drop b).take (l.length*i.size)++cs,eb.esz,eb.fam,C.H.gen eb.fam+1,false⟩,live_grow hH.wf true _,rfl,fun _=>⟨hown,hwr⟩,fun h=>(by cases h),rfl,rfl,(List.length_append).symm,?_,hall,hnew.mono L⟩
          show 0+(l++l').length*i.sh.size≤((eb.cells.drop b).take (l.length*i.size)++cs).length
          rw [hnewl,hsh,Nat.zero_add];exact Nat.le_refl _
         ·cases p2
          have l2:(C.H.grow r eb true ((eb.cells.drop b).take (l.length*i.size)++cs)).live C.H.n=some eb2:=l2
          rw [live_grow hH.wf] at l2
          cases l2
          exact hH.good id j r b eb hj hpo k1
         ·have hne:eb'.fam≠eb.fam:=fun e=>hx (hH.apart x id i0 j r' bs' r b eb' eb hi0 hj p hpo lv k1 e)
          exact live_grow_ne hH.wf k1 k2 true _ lv (.inr hne)
         ·cases p2
          have lv2:(C.H.grow r eb true ((eb.cells.drop b).take (l.length*i.size)++cs)).live C.H.n=some eb2:=lv2
          rw [live_grow hH.wf] at lv2
          cases lv2
          exact hx (hH.apart x id i0 j r' bs' r b eb' eb hi0 hj p hpo lv k1 hfam)
        ·refine .own (updI_same _ _ _) (Nat.le_refl _) rfl fun _=>⟨OPEN,rfl,.inl ⟨rfl,h2,?_⟩⟩
         show 0+(l.length+l'.length)*i.size=((eb.cells.drop b).take (l.length*i.size)++cs).length
         rw [hnewl,List.length_append];exact Nat.zero_add _
       ·have e1:cap≠ZO:=by unfold ZO;unfold OPEN at h3;omega
        have e2:cap≠RO:=by unfold RO;unfold OPEN at h3;omega
        have e3:cap≠OPEN:=by omega
        have hcape:l.length*i.size≤cap*i.size:=Nat.mul_le_mul_right _ h2
        by_cases hfit:l.length+l'.length≤cap
        ·-- in its place
         have hfe:(l.length+l'.length)*i.size≤cap*i.size:=Nat.mul_le_mul_right _ hfit
         have hle:b+l.length*i.size+cs.length≤eb.cells.length:=by rw [hcl];omega
         have ha:appendV C.H i.size i.bytes (.slice (some ⟨r,b,none⟩) l.length cap) cs l'.length=some (.slice (some ⟨r,b,none⟩) (l.length+l'.length) cap,C.H.put r eb (splice eb.cells (b+l.length*i.size) cs)):=by
          unfold appendV
          simp only
          rw [if_pos hguard,if_neg e1,if_neg e2,if_neg e3,if_pos hfit,if_neg h0]
          rw [wr_of k1 k2 hle h1]
          rfl
         rw [ha] at hop
         have L:Le C ⟨C.H.put r eb (splice eb.cells (b+l.length*i.size) cs),C.own,C.wr,updI C.inf id ⟨gg+1,some (r,b),j.e,l.length+l'.length,j.rl,j.ez⟩,C.bad⟩:=by
          have L0:=Le.put hH k1 k2 hown (splice eb.cells (b+l.length*i.size) cs)
          refine ⟨L0.st,fun x i0 hi0=>?_⟩
          by_cases e:x=id
          ·subst e;rw [hj] at hi0;cases hi0
           exact ⟨_,updI_same _ _ _,.inl (by rw [hg];exact Nat.lt_succ_self _)⟩
          ·exact ⟨i0,by show updI C.inf id _ x=_;rw [updI_ne _ _ e];exact hi0,.inr rfl⟩
         refine ⟨⟨C.H.put r eb (splice eb.cells (b+l.length*i.size) cs),C.own,C.wr,updI C.inf id ⟨gg+1,some (r,b),j.e,l.length+l'.length,j.rl,j.ez⟩,C.bad⟩,
          .own id (gg+1),_,.slice (some ⟨r,b,none⟩) (l.length+l'.length) cap,C.wr,⟨0,fun n _=>by unfold runOp;rw [hop];rfl⟩,L,.put k1 k2 hwr _,fun f h=>h,fun h=>(by cases h),fun f h=>.inl h,fun f h=>.inl h,rfl,?_,?_,h⟩
         ·refine hH.upd L (hH.wf.put (live_some k1).1 k2 (live_some k1).2 _) id _ _ rfl rfl ?_ rfl (by show C.H.n≤(C.H.put _ _ _).n;unfold Mem.put;split<;>exact Nat.le_refl _) (fun f hf=>.inl hf) (fun g sh l e=>(by cases e)) (fun r2 bs2 eb2 p2 l2=>?_) (fun x i0 r' bs' eb' hx hi0 p lv=>⟨?_,Iff.rfl,Iff.rfl⟩) fun x i0 r' bs' r2 bs2 eb' eb2 hx hi0 p p2 lv lv2 hfam=>?_
          ·unfold ObjR
           simp only
           refine ⟨ke,_,live_put k1 k2 _,k2,fun _=>⟨hown,hwr⟩,fun h=>(by cases h),?_,k6,(List.length_append).symm,?_,hall,fun n x q c y p p2 p3=>?_⟩
           ·show j.rl=(splice eb.cells (b+l.length*i.size) cs).length
            rw [splice_len hle];exact k5
           ·show b+(l++l').length*i.sh.size≤j.rl
            rw [k5,hsh,List.length_append];omega
           ·have p3:(splice eb.cells (b+l.length*i.size) cs)[b+n*i.sh.size+q]?=some y:=p3
            rw [splice_get hle,hsh] at p3
            have p:(l++l')[n]?=some x:=p
            have hq:q < i.size:=by rw [← hsh,← has_len (hall x (List.mem_of_getElem? p))];exact (List.getElem?_eq_some_iff.1 p2).1
            rw [List.getElem?_append] at p
            split at p
            ·rename_i hn
             have:=idx_lt hn hq
             rw [if_neg (by omega)] at p3
             exact (k10 n x q c y p p2 p3).mono L
            ·rename_i hn
             have hx2:n - l.length < l'.length:=(List.getElem?_eq_some_iff.1 p).1
             have h5:=idx_lt hx2 hq
             have h6:n*i.size=(n - l.length)*i.size+l.length*i.size:=by rw [← Nat.add_mul];congr 1;omega
             rw [if_pos (by rw [hcl];omega)] at p3
             exact (hel (n - l.length) x q c y p p2 (by rw [← p3];congr 1;omega)).mono L
          ·cases p2
           have l2:(C.H.put r eb (splice eb.cells (b+l.length*i.size) cs)).live r=some eb2:=l2
           rw [live_put k1 k2] at l2
           cases l2
           exact hH.good id j r b eb hj hpo k1
          ·have hne:eb'.fam≠eb.fam:=fun e=>hx (hH.apart x id i0 j r' bs' r b eb' eb hi0 hj p hpo lv k1 e)
           exact live_put_ne hH.wf k1 k2 _ lv (fun e=>by subst e;rw [k1] at lv;cases lv;exact hne rfl) (.inr hne)
          ·cases p2
           have lv2:(C.H.put r eb (splice eb.cells (b+l.length*i.size) cs)).live r=some eb2:=lv2
           rw [live_put k1 k2] at lv2
           cases lv2
           exact hx (hH.apart x id i0 j r' bs' r b eb' eb hi0 hj p hpo lv k1 hfam)
         ·refine .own (updI_same _ _ _) (Nat.le_refl _) rfl fun _=>?_
          unfold OwnV
          simp only
          exact ⟨cap,rfl,.inr ⟨hfit,h3,by rw [ke,k5,hsh];exact h4⟩⟩
        ·-- in a new row
         have ha:appendV C.H i.size i.bytes (.slice (some ⟨r,b,none⟩) l.length cap) cs l'.length=some (.slice (some ⟨C.H.n,0,none⟩) (l.length+l'.length) OPEN,C.H.new ((eb.cells.drop b).take (l.length*i.size)++cs) i.size):=by
          unfold appendV
          simp only
          rw [if_pos hguard,if_neg e1,if_neg e2,if_neg e3,if_neg hfit,rd_of k1 (by omega)]
         rw [ha] at hop
         have L:=Le.new (i:=⟨gg+1,some (C.H.n,0),i.size,l.length+l'.length,((eb.cells.drop b).take (l.length*i.size)++cs).length,i.size⟩) hH ((eb.cells.drop b).take (l.length*i.size)++cs) i.size id hngd.symm
         have hle:0+(l++l').length*i.sh.size≤((eb.cells.drop b).take (l.length*i.size)++cs).length:=by rw [hnewl,hsh,Nat.zero_add];exact Nat.le_refl _
         have hr:=Went.made (ld:=true) (b:=⟨gg+1,true,.arr i.sh true (l++l')⟩) (i:=⟨gg+1,some (C.H.n,0),i.size,l.length+l'.length,((eb.cells.drop b).take (l.length*i.size)++cs).length,i.size⟩) (by rw [hop];rfl) hH (fun g sh l e=>(by cases e)) hngd.symm hngd.symm rfl
          ⟨hsh.symm,⟨(eb.cells.drop b).take (l.length*i.size)++cs,i.size,C.H.n,0,false⟩,by show (C.H.new _ _).live C.H.n=_;rw [live_new hH.wf,if_pos rfl],rfl,fun _=>⟨.inr rfl,.inr rfl⟩,fun h=>(by cases h),rfl,rfl,(List.length_append).symm,hle,hall,hnew.mono L⟩
          (.own (updI_same _ _ _) (Nat.le_refl _) rfl fun _=>⟨OPEN,rfl,.inl ⟨rfl,rfl,by show 0+(l.length+l'.length)*i.size=_;rw [hnewl,List.length_append];exact Nat.zero_add _⟩⟩) h
         exact hr
     ·rename_i hpo
      rw [hpo] at ob
      obtain ⟨rfl,hl0⟩:=hov
      obtain ⟨ke,rfl,_⟩:=ob
      have hguard:(((0+l'.length)*i.bytes≤maxRoom∧i.bytes≤65536∧0+l'.length≤maxRoom)∧0 < i.size∧cs.length=l'.length*i.size∧cs.all (·.oneCell')=true):=⟨⟨by simpa using hb1,h65,by simpa using hb2⟩,hpos,hcl,List.all_eq_true.2 h1⟩
      have e:(std (List FV) fun _=>[]++l')=l':=rfl
      rw [e] at h
      by_cases h0:l'.length=0
      ·have hl':l'=[]:=List.length_eq_zero_iff.1 h0
       subst hl'
       have hcs:cs=[]:=List.length_eq_zero_iff.1 (by rw [hcl];simp)
       subst hcs
       rw [List.length_nil] at hguard
       have ha:appendV C.H i.size i.bytes (.slice none 0 0) [] 0=some (.slice none 0 0,C.H):=by
        unfold appendV
        simp only
        rw [if_pos hguard]
        simp [ZO,RO,OPEN]
       simp only [List.length_nil] at hop
       rw [ha] at hop
       refine Went.aged (j:=j) (b':=⟨gg+1,true,.arr i.sh true []⟩) (v:=.slice none 0 0) (by rw [hop];rfl) hH hj hget (by rw [hg]) (fun g sh l e=>(by cases e)) rfl ?_ (fun C' L e1 e2 e3=>?_) (by rw [hg];exact h)
       ·unfold OwnV
        simp only [hpo]
        exact ⟨trivial,hl0⟩
       ·unfold ObjR
        simp only [hpo]
        exact ⟨ke,trivial,hl0⟩
      ·have ha:appendV C.H i.size i.bytes (.slice none 0 0) cs l'.length=some (.slice (some ⟨C.H.n,0,none⟩) l'.length OPEN,C.H.new cs i.size):=by
        unfold appendV
        simp only
        rw [if_pos hguard]
        simp [ZO,RO,OPEN,h0]
       rw [ha] at hop
       rw [hsh] at hel
       have L:=Le.new (i:=⟨gg+1,some (C.H.n,0),i.size,l'.length,cs.length,i.size⟩) hH cs i.size id hngd.symm
       exact Went.made (ld:=true) (b:=⟨gg+1,true,.arr i.sh true l'⟩) (i:=⟨gg+1,some (C.H.n,0),i.size,l'.length,cs.length,i.size⟩) (by rw [hop];rfl) hH (fun g sh l e=>(by cases e)) hngd.symm hngd.symm rfl
        ⟨hsh.symm,⟨cs,i.size,C.H.n,0,false⟩,by show (C.H.new _ _).live C.H.n=_;rw [live_new hH.wf,if_pos rfl],rfl,fun _=>⟨.inr rfl,.inr rfl⟩,fun h=>(by cases h),rfl,rfl,rfl,by show 0+l'.length*i.sh.size≤cs.length;rw [hcl,hsh,Nat.zero_add];exact Nat.le_refl _,hsl,by rw [hsh];exact ElR.mono L hel⟩
        (.own (updI_same _ _ _) (Nat.le_refl _) rfl fun _=>⟨OPEN,rfl,.inl ⟨rfl,rfl,by show 0+l'.length*i.size=cs.length;rw [hcl];exact Nat.zero_add _⟩⟩) h
    ·exact h.elim
  ·exact h.elim
 ·exact h.elim
end
end Go.Proofs.YtmndbhgbngkakaaDoor.G
end
section
/- Go code over plain data: operations. No condition but those that are written out. -/
namespace Go.Proofs.YtmndbhgbngkakaaDoor.G
open Go Go.RowKit Go.Proofs.YtmndbhgbngkakaaDoor.E
set_option linter.all false

section
variable {E : Env} {C : Cx} {o : Oper} {Te : Tr Value} {T : Tr FV} {ld : Bool} {k : FV → Hp → Prop} {hp : Hp} {t : Nat} {i : TI} {ty : Ty}
theorem tiF_ok {P : Program} (hty : TyOk P ty) {q : TI → Prop} (h : tiF ty t q) : ∃ i, TiOk P t i ∧ q i := by
  unfold tiF at h
  split at h
  · rename_i i hi; exact ⟨i, hty t i hi, h⟩
  · exact h.elim
theorem elF_ok {P : Program} (hty : TyOk P ty) {q : TI → Prop} (h : elF ty t q) : ∃ el i, P.underlying t = some (.slice el) ∧ TiOk P el i ∧ q i := by
  unfold elF at h
  split at h
  · rename_i e _ _ _ _ _ _ hi
    obtain ⟨i, h1, h2⟩ := tiF_ok hty h
    exact ⟨e, i, (hty t _ hi).k, h1, h2⟩
  · exact h.elim
theorem elemT_of {P : Program} {el : Nat} (h : P.underlying t = some (.slice el)) : elemT P t = some el := by unfold elemT; rw [h]
theorem HR.gen (hH : HR C hp) {id g : Nat} (h : isAt hp id g = true) {j : Inf} (hj : C.inf id = some j) : g = j.gen := by
  unfold isAt at h
  split at h
  · rename_i b hb
    obtain ⟨j', h1, h2, _⟩ := hH.alive hb
    rw [hj] at h1; cases h1
    exact h2.symm
  · cases h
theorem nilCheck_ok (hT : RS C T Te) {x : Operand} (hp0 : o.op = .nilCheck x) (hH : HR C hp) (h : match ev T x with
      | .ptr id g off => (match isAt hp id g with | true => k (.ptr id g off) hp | false => False) | .fptr c off => k (.fptr c off) hp | .eptr id g i off => (match isAt hp id g with | true => k (.eptr id g i off) hp | false => False) | .fn f a b => k (.fn f a b) hp | _ => False) : Went E C o Te ld k := by
  have hx := ev_ok hT x
  have k1 : ∀ a, evalO Te x = .pointer (some a) → opStep E Te C.H o = some (.val (.pointer (some a)), C.H) := fun a ha => by
    unfold opStep; rw [hp0]; simp only [ha]
  split at h
  · rename_i id g off hq
    rw [hq] at hx
    split at h
    · rename_i ha
      generalize hv : evalO Te x = v at hx k1
      have hx0 := hx
      cases hx with | ptr hi hg h1 hv' =>
      obtain ⟨r, b, _, rfl⟩ := hv' (hH.gen ha hi)
      exact Went.pure (k1 _ rfl) hH hx0 h
    · exact h.elim
  · rename_i c off hq
    rw [hq] at hx
    generalize hv : evalO Te x = v at hx k1
    have hx0 := hx
    cases hx with | fptr hl hr hc => exact Went.pure (k1 _ rfl) hH hx0 h
  · rename_i id g i off hq
    rw [hq] at hx
    split at h
    · rename_i ha
      generalize hv : evalO Te x = v at hx k1
      have hx0 := hx
      cases hx with | eptr hi hg h1 hv' =>
      obtain ⟨_, r, b, _, rfl⟩ := hv' (hH.gen ha hi)
      exact Went.pure (k1 _ rfl) hH hx0 h
    · exact h.elim
  · rename_i f a b hq
    rw [hq] at hx
    obtain ⟨va, vb, he, _, _⟩ := FRs.of_fn hx
    refine Went.pure (x := .fn f a b) (v := evalO Te x) ?_ hH hx h
    unfold opStep; rw [hp0]; simp only [he]
  · exact h.elim
theorem fieldAddr_ok (hT : RS C T Te) {s f : Nat} {x : Operand} (hp0 : o.op = .fieldAddr s x f) (hty : TyOk E.P ty) (hH : HR C hp) (h : tiF ty s fun i =>
    match i.k with
    | .strct fs =>
      match fs[f]? with
      | some (off, n + 1, _) =>
        match ev T x with
        | .ptr id g o => (match isAt hp id g with | true => k (.ptr id g (o + off)) hp | false => False)
        | .eptr id g j o => (match isAt hp id g with | true => k (.eptr id g j (o + off)) hp | false => False)
        | .fptr c o => k (.fptr c (o + off)) hp
        | _ => False
      | _ => False
    | _ => False) : Went E C o Te ld k := by
  obtain ⟨i, ti, h⟩ := tiF_ok hty h
  split at h
  · rename_i fs hk
    have hk2 := ti.k
    rw [hk] at hk2
    obtain ⟨fds, hu, rfl, hall⟩ := hk2
    split at h
    · rename_i off n ag hf
      have hx := ev_ok hT x
      simp only [List.getElem?_map, Option.map_eq_some_iff] at hf
      obtain ⟨fd, hfd, he⟩ := hf
      simp only [Prod.mk.injEq] at he
      obtain ⟨rfl, hsz, _⟩ := he
      obtain ⟨h1, _⟩ := hall fd (List.mem_of_getElem? hfd)
      obtain ⟨m, hm⟩ := Option.isSome_iff_exists.1 h1
      rw [hm] at hsz
      have hsz : m = n + 1 := hsz
      subst hsz
      rw [Array.getElem?_toList] at hfd
      have key : ∀ a : Addr, evalO Te x = .pointer (some a) → opStep E Te C.H o = some (.val (addrOf a.block (a.off + fd.offset)), C.H) := fun a ha => by
        unfold opStep
        rw [hp0]
        simp only [hu, ha, hfd, hm]
        rfl
      split at h
      · rename_i id g q hq
        rw [hq] at hx
        split at h
        · rename_i ha
          generalize hv : evalO Te x = v at hx key
          cases hx with | ptr hi hg h1 hv' =>
          have hage := hH.gen ha hi
          obtain ⟨r, b, hpos, rfl⟩ := hv' hage
          refine Went.pure (key _ rfl) hH (.ptr hi hg rfl fun _ => ⟨r, b, hpos, ?_⟩) h
          show addrOf r (b + q + fd.offset) = _
          rw [Nat.add_assoc]; rfl
        · exact h.elim
      · rename_i id g n' q hq
        rw [hq] at hx
        split at h
        · rename_i ha
          generalize hv : evalO Te x = v at hx key
          cases hx with | eptr hi hg h1 hv' =>
          have hage := hH.gen ha hi
          obtain ⟨hn, r, b, hpos, rfl⟩ := hv' hage
          refine Went.pure (key _ rfl) hH (.eptr hi hg rfl fun _ => ⟨hn, r, b, hpos, ?_⟩) h
          show addrOf r (b + n' * _ + q + fd.offset) = _
          rw [Nat.add_assoc]; rfl
        · exact h.elim
      · rename_i c q hq
        rw [hq] at hx
        generalize hv : evalO Te x = v at hx key
        cases hx with | fptr hl hr hc =>
        refine Went.pure (key _ rfl) hH ?_ h
        show FR C (.fptr c (q + fd.offset)) (addrOf _ (_ + q + fd.offset))
        rw [Nat.add_assoc]
        exact .fptr hl hr hc
      · exact h.elim
    · exact h.elim
  · exact h.elim
theorem idxF_ok {x : FV} {v : Value} (hx : FR C x v) {n : Nat} {q : Nat → Prop} (h : idxF std x n q) : ∃ m, idx v = some m ∧ m < n ∧ q m := by
  unfold idxF at h
  split at h
  · rename_i i
    obtain ⟨⟨h1, h2⟩, h⟩ := h
    rw [hx.of_int]
    exact ⟨i.toNat, by simp [idx, h1], h2, h⟩
  · exact h.elim
theorem litF_ok {x : FV} {v : Value} (hx : FR C x v) {n : Nat} {q : Nat → Prop} (h : litF x n q) : ∃ m, idx v = some m ∧ m < n ∧ q m := by
  unfold litF at h
  split at h
  · rename_i i
    split at h
    · rename_i j hj h0
      have h0 := of_decide_eq_true h0
      split at h
      · rename_i hb
        rw [hx.of_int]
        exact ⟨i.toNat, by simp [idx, h0], Nat.le_of_ble_eq_true hb, h⟩
      · exact h.elim
    · exact h.elim
  · exact h.elim
theorem indexAddr_ok (hT : RS C T Te) {x y : Operand} (hp0 : o.op = .indexAddr t x y) (hty : TyOk E.P ty) (hH : HR C hp) (h : tiF ty t fun j =>
    match j.k with
    | .slice el => tiF ty el fun e =>
      match ev T x with
      | .row sh l => match Shp.eqb sh e.sh with | true => idxF std (ev T y) (std _ fun _ => l.length) fun n => k (.fptr (elt std sh l n).cells 0) hp | false => False
      | .own id g => match at_ hp id g with | some ⟨_, _, .arr sh _ l⟩ => (match Shp.eqb sh e.sh with | true => idxF std (ev T y) (std _ fun _ => l.length) fun n => k (.eptr id g n 0) hp | false => False) | _ => False
      | .view id g lo m => match at_ hp id g with | some ⟨_, _, .arr sh _ l⟩ => (match Shp.eqb sh e.sh with | true => idxF std (ev T y) m fun n => k (.eptr id g (std _ fun _ => lo + n) 0) hp | false => False) | _ => False
      | _ => False
    | .arr n el => tiF ty el fun e => litF (ev T y) n fun q =>
      match ev T x with
      | .ptr id g o => (match isAt hp id g with | true => k (.ptr id g (o + q * e.size)) hp | false => False)
      | .fptr c o => k (.fptr c (o + q * e.size)) hp
      | _ => False
    | .vec n el => tiF ty el fun e =>
      match ev T x with
      | .ptr id g 0 => (match at_ hp id g with | some ⟨_, _, .arr sh _ l⟩ => (match Shp.eqb sh e.sh with | true => (std _ fun _ => l.length = n) ∧ idxF std (ev T y) n fun m => k (.eptr id g m 0) hp | false => False) | _ => False)
      | _ => False
    | _ => False) : Went E C o Te ld k := by
  obtain ⟨j, ti, h⟩ := tiF_ok hty h
  have hx := ev_ok hT x
  have hy := ev_ok hT y
  split at h
  · rename_i el hk
    have hu := ti.k
    rw [hk] at hu
    have hu : E.P.underlying t = some (.slice el) := hu
    obtain ⟨e, te, h⟩ := tiF_ok hty h
    have key : ∀ (a : Addr) len cap m, evalO Te x = .slice (some a) len cap → idx (evalO Te y) = some m → m < len → opStep E Te C.H o = some (.val (addrOf a.block (a.off + m * e.size)), C.H) := fun a len cap m ha hm hlt => by
      unfold opStep
      rw [hp0]
      simp only [hu, ha, hm, te.size]
      rw [if_pos hlt]
    split at h
    · rename_i sh l hq
      rw [hq] at hx
      split at h
      · rename_i heq
        have heq := Shp.eqb_eq _ _ heq
        subst heq
        obtain ⟨m, hm, hlt, h⟩ := idxF_ok hy h
        have hlt : m < l.length := hlt
        generalize hv : evalO Te x = v at hx key
        cases hx with
        | rowN => simp at hlt
        | rowE => simp at hlt
        | row hst hr hc hs he =>
          rw [elt_eq hlt hs] at h
          refine Went.pure (key _ _ _ m rfl hm hlt) hH ?_ h
          have hlen := has_len (hs _ (List.getElem_mem hlt))
          have hidx := Nat.mul_le_mul_right e.sh.size hlt
          rw [Nat.succ_mul] at hidx
          rw [← te.sh.1]
          exact .fptr (o := _ + m * e.sh.size) (off := 0) hst (by simp only; omega) fun q c w p p2 => he m _ q c w (List.getElem?_eq_getElem hlt) p p2
      · exact h.elim
    · rename_i id g hq
      rw [hq] at hx
      split at h
      · rename_i sh ap l hat
        split at h
        · rename_i heq
          have heq := Shp.eqb_eq _ _ heq
          subst heq
          obtain ⟨m, hm, hlt, h⟩ := idxF_ok hy h
          have hlt : m < l.length := hlt
          obtain ⟨j', hj, hg, ob, _, _⟩ := hH.alive hat
          generalize hv : evalO Te x = v at hx key
          cases hx with | own hi hg' h1 hv' =>
          rw [hj] at hi; cases hi
          have hov := hv' hg.symm
          unfold OwnV at hov
          unfold ObjR at ob
          split at hov
          · rename_i r b hpo
            rw [hpo] at ob
            obtain ⟨cap, rfl, _⟩ := hov
            obtain ⟨ke, eb, _, _, _, _, _, _, k7, _⟩ := ob
            refine Went.pure (key _ _ _ m rfl hm (by omega)) hH (.eptr hj hg' rfl fun _ => ⟨by omega, r, b, hpo, ?_⟩) h
            show addrOf r (b + m * e.size) = _
            rw [ke, te.sh.1]; rfl
          · rename_i hpo
            rw [hpo] at ob
            obtain ⟨_, rfl, _⟩ := ob
            simp at hlt
        · exact h.elim
      · exact h.elim
    · rename_i id g lo n0 hq
      rw [hq] at hx
      split at h
      · rename_i sh ap l hat
        split at h
        · rename_i heq
          have heq := Shp.eqb_eq _ _ heq
          subst heq
          obtain ⟨m, hm, hlt, h⟩ := idxF_ok hy h
          obtain ⟨j', hj, hg, ob, _, _⟩ := hH.alive hat
          generalize hv : evalO Te x = v at hx key
          cases hx with | view hi hg' h1 hv' =>
          rw [hj] at hi; cases hi
          have hov := hv' hg.symm
          unfold ViewV at hov
          unfold ObjR at ob
          split at hov
          · rename_i r b hpo
            rw [hpo] at ob
            obtain ⟨hle, ⟨cap, rfl, _⟩ | ⟨rfl, A, cap, rfl, _⟩⟩ := hov
            case inr => omega
            obtain ⟨ke, eb, _, _, _, _, _, _, k7, _⟩ := ob
            refine Went.pure (key _ _ _ m rfl hm hlt) hH (.eptr hj hg' rfl fun _ => ⟨?_, r, b, hpo, ?_⟩) h
            · show lo + m < j'.len
              omega
            · show addrOf r (b + lo * j'.e + m * e.size) = .pointer (some ⟨r, b + (lo + m) * j'.e + 0, none⟩)
              rw [ke, te.sh.1, Nat.add_mul, ← Nat.add_assoc]; rfl
          · obtain ⟨rfl, _, e0⟩ := hov
            omega
        · exact h.elim
      · exact h.elim
    · exact h.elim
  · rename_i n el hk
    have hu := ti.k
    rw [hk] at hu
    have hu : E.P.underlying t = some (.array n el) := hu
    obtain ⟨e, te, h⟩ := tiF_ok hty h
    obtain ⟨m, hm, hlt, h⟩ := litF_ok hy h
    have key : ∀ (a : Addr), evalO Te x = .pointer (some a) → opStep E Te C.H o = some (.val (addrOf a.block (a.off + m * e.size)), C.H) := fun a ha => by
      unfold opStep
      rw [hp0]
      simp only [hu, ha, hm, te.size]
      rw [if_pos hlt]
    split at h
    · rename_i id g q hq
      rw [hq] at hx
      split at h
      · rename_i ha
        generalize hv : evalO Te x = v at hx key
        cases hx with | ptr hi hg h1 hv' =>
        obtain ⟨r, b, hpos, rfl⟩ := hv' (hH.gen ha hi)
        refine Went.pure (key _ rfl) hH (.ptr hi hg rfl fun _ => ⟨r, b, hpos, ?_⟩) h
        show addrOf r (b + q + m * e.size) = _
        rw [Nat.add_assoc]; rfl
      · exact h.elim
    · rename_i c q hq
      rw [hq] at hx
      generalize hv : evalO Te x = v at hx key
      cases hx with | fptr hl hr hc =>
      refine Went.pure (key _ rfl) hH ?_ h
      show FR C (.fptr c (q + m * e.size)) (addrOf _ (_ + q + m * e.size))
      rw [Nat.add_assoc]
      exact .fptr hl hr hc
    · exact h.elim
  · rename_i n el hk
    have hu := ti.k
    rw [hk] at hu
    have hu : E.P.underlying t = some (.array n el) := hu
    obtain ⟨e, te, h⟩ := tiF_ok hty h
    split at h
    · rename_i id g hq
      rw [hq] at hx
      split at h
      · rename_i sh ap l hat
        split at h
        · rename_i heq
          have heq := Shp.eqb_eq _ _ heq
          subst heq
          obtain ⟨hln, h⟩ := h
          have hln : l.length = n := hln
          obtain ⟨m, hm, hlt, h⟩ := idxF_ok hy h
          obtain ⟨j', hj, hg, ob, _, _⟩ := hH.alive hat
          generalize hv : evalO Te x = v at hx
          cases hx with | ptr hi hg' h1 hv' =>
          rw [hj] at hi; cases hi
          obtain ⟨r, b, hpo, rfl⟩ := hv' hg.symm
          unfold ObjR at ob
          rw [hpo] at ob
          obtain ⟨ke, eb, _, _, _, _, _, _, k7, _⟩ := ob
          refine Went.pure (v := addrOf r (b + m * e.size)) ?_ hH (.eptr hj hg' rfl fun _ => ⟨by omega, r, b, hpo, ?_⟩) h
          · unfold opStep
            rw [hp0]
            simp only [hu, hv, hm, te.size]
            rw [if_pos hlt]
            rfl
          · show addrOf r (b + m * e.size) = _
            rw [ke, te.sh.1]; rfl
        · exact h.elim
      · exact h.elim
    · exact h.elim
  · exact h.elim
theorem boundF_ok {n cap : Nat} {lo hi : Option FV} {lo' hi' : Option Value} (h1 : ∀ x, lo = some x → ∃ v, lo' = some v ∧ FR C x v) (h1' : lo = none → lo' = none) (h2 : ∀ x, hi = some x → ∃ v, hi' = some v ∧ FR C x v) (h2' : hi = none → hi' = none) (hc : n ≤ cap)
    {q : Nat → Nat → Prop} (h : boundF std n lo hi q) : ∃ a b, bounds n cap lo' hi' none = some (a, b, none) ∧ a ≤ b ∧ b ≤ n ∧ q a b := by
  unfold boundF at h
  split at h
  · rw [h1' rfl, h2' rfl]
    exact ⟨0, n, by simp [bounds, hc], Nat.zero_le _, Nat.le_refl _, h⟩
  · rename_i k a
    obtain ⟨v, e, hv⟩ := h1 _ rfl
    obtain ⟨⟨g1, g2⟩, h⟩ := h
    rw [e, h2' rfl, hv.of_int]
    exact ⟨a.toNat, n, by simp [bounds, idx, g1, g2, hc], g2, Nat.le_refl _, h⟩
  · rename_i k b
    obtain ⟨v, e, hv⟩ := h2 _ rfl
    obtain ⟨⟨g1, g2⟩, h⟩ := h
    rw [e, h1' rfl, hv.of_int]
    exact ⟨0, b.toNat, by simp [bounds, idx, g1]; omega, Nat.zero_le _, g2, h⟩
  · rename_i k a k' b
    obtain ⟨v, e, hv⟩ := h1 _ rfl
    obtain ⟨v', e', hv'⟩ := h2 _ rfl
    obtain ⟨⟨g1, g2, g3⟩, h⟩ := h
    have g4 : 0 ≤ b := Int.le_trans g1 g2
    have g5 : a.toNat ≤ b.toNat := by omega
    rw [e, e', hv.of_int, hv'.of_int]
    exact ⟨a.toNat, b.toNat, by simp [bounds, idx, g1, g4, g5]; omega, g5, g3, h⟩
  · exact h.elim
theorem opt_ok (hT : RS C T Te) (o : Option Operand) : (∀ x, o.map (ev T) = some x → ∃ v, o.map (evalO Te) = some v ∧ FR C x v) ∧ (o.map (ev T) = none → o.map (evalO Te) = none) := by
  cases o with
  | none => exact ⟨fun x h => (by cases h), fun _ => rfl⟩
  | some y => exact ⟨fun x h => by cases h; exact ⟨_, rfl, ev_ok hT y⟩, fun h => (by cases h)⟩
theorem cut_ok {P : Program} {el z r off n cap : Nat} {eb : Blk} (hu : P.underlying t = some (.slice el)) (hz : tsz P el = some z) (hz0 : 0 < z) (hl : C.H.live r = some eb) (hb : off + n * z ≤ eb.cells.length) (hc : CapOk eb.cells.length eb.esz z off n cap)
    {lo hi : Option FV} {lo' hi' : Option Value} (h1 : ∀ x, lo = some x → ∃ v, lo' = some v ∧ FR C x v) (h1' : lo = none → lo' = none) (h2 : ∀ x, hi = some x → ∃ v, hi' = some v ∧ FR C x v) (h2' : hi = none → hi' = none) {q : Nat → Nat → Prop} (h : boundF std n lo hi q) :
    ∃ a b v, sliceV P C.H t (.slice (some ⟨r, off, none⟩) n cap) lo' hi' none = some v ∧ a ≤ b ∧ b ≤ n ∧ q a b ∧
      ((∃ cap', v = .slice (some ⟨r, off + a * z, none⟩) (b - a) cap' ∧ (cap ≠ RO → cap' ≠ RO) ∧ CapOk eb.cells.length eb.esz z (off + a * z) (b - a) cap') ∨ (a = b ∧ ∃ A cap', v = .slice (some A) 0 cap' ∧ A.spot = none ∧ cap' < OPEN)) := by
  rcases hc with rfl | ⟨rfl, hez⟩ | ⟨hn, ho⟩
  · obtain ⟨a, b, hbd, hab, hbn, hq⟩ := boundF_ok h1 h1' h2 h2' (Nat.le_refl _) h
    refine ⟨a, b, _, ?_, hab, hbn, hq, .inl ⟨RO, rfl, fun e => absurd rfl e, .inl rfl⟩⟩
    unfold sliceV
    rw [hu]
    simp only [hz]
    rw [if_neg (by decide), if_pos trivial]
    simp only [hbd]
  · have hcap : n ≤ (eb.cells.length - off) / z := (Nat.le_div_iff_mul_le hz0).2 (by omega)
    obtain ⟨a, b, hbd, hab, hbn, hq⟩ := boundF_ok h1 h1' h2 h2' hcap h
    refine ⟨a, b, _, ?_, hab, hbn, hq, .inl ⟨OPEN, rfl, fun _ => by decide, .inr (.inl ⟨rfl, hez⟩)⟩⟩
    unfold sliceV
    rw [hu]
    simp only [hz]
    rw [if_neg (by decide), if_neg (by decide), if_pos trivial, hl]
    simp only
    rw [if_pos ⟨hez, hz0, by omega⟩, hbd]
  · have e1 : cap ≠ ZO := by unfold ZO; unfold OPEN at ho; omega
    have e2 : cap ≠ RO := by unfold RO; unfold OPEN at ho; omega
    have e3 : cap ≠ OPEN := by omega
    obtain ⟨a, b, hbd, hab, hbn, hq⟩ := boundF_ok h1 h1' h2 h2' hn h
    have hs : sliceV P C.H t (.slice (some ⟨r, off, none⟩) n cap) lo' hi' none = some (.slice (if cap = a then some ⟨r, off, none⟩ else some ⟨r, off + a * z, none⟩) (b - a) (cap - a)) := by
      unfold sliceV
      rw [hu]
      simp only [hz]
      rw [if_neg e1, if_neg e2, if_neg e3, hbd]
      simp
    by_cases ha : cap = a
    · rw [if_pos ha] at hs
      have hba : b - a = 0 := by omega
      rw [hba] at hs
      exact ⟨a, b, _, hs, hab, hbn, hq, .inr ⟨by omega, _, cap - a, rfl, rfl, by omega⟩⟩
    · rw [if_neg ha] at hs
      exact ⟨a, b, _, hs, hab, hbn, hq, .inl ⟨cap - a, rfl, fun _ => by unfold RO; unfold OPEN at ho; omega, .inr (.inr ⟨by omega, by omega⟩)⟩⟩
theorem slice_ok (hT : RS C T Te) {x : Operand} {lo hi : Option Operand} (hp0 : o.op = .slice t x lo hi none) (hty : TyOk E.P ty) (hH : HR C hp) (h : tiF ty t fun i =>
    match i.k with
    | .slice el => tiF ty el fun e => sliceF std hp e.sh (ev T x) (lo.map (ev T)) (hi.map (ev T)) fun z => k z hp
    | .str => strF std (ev T x) (lo.map (ev T)) (hi.map (ev T)) fun z => k z hp
    | _ => False) : Went E C o Te ld k := by
  obtain ⟨i, ti, h⟩ := tiF_ok hty h
  have hx := ev_ok hT x
  obtain ⟨l1, l2⟩ := opt_ok hT lo
  obtain ⟨u1, u2⟩ := opt_ok hT hi
  have key : ∀ v, sliceV E.P C.H t (evalO Te x) (lo.map (evalO Te)) (hi.map (evalO Te)) none = some v → opStep E Te C.H o = some (.val v, C.H) := fun v hv => by
    unfold opStep
    rw [hp0]
    simp only [Option.map_none, hv]
    rfl
  split at h
  · rename_i el hk
    have hu := ti.k
    rw [hk] at hu
    have hu : E.P.underlying t = some (.slice el) := hu
    obtain ⟨e, te, h⟩ := tiF_ok hty h
    have hz := te.sh.1
    have hpos := te.pos
    -- of nothing
    have nil0 : ∀ {q : Nat → Nat → Prop}, boundF std 0 (lo.map (ev T)) (hi.map (ev T)) q → ∃ a b, a = 0 ∧ b = 0 ∧ q a b ∧ sliceV E.P C.H t (.slice none 0 0) (lo.map (evalO Te)) (hi.map (evalO Te)) none = some (.slice none 0 0) := fun h => by
      obtain ⟨a, b, hbd, hab, hbn, hq⟩ := boundF_ok l1 l2 u1 u2 (Nat.le_refl _) h
      have hb0 : b = 0 := by omega
      have ha0 : a = 0 := by omega
      subst ha0; subst hb0
      refine ⟨0, 0, rfl, rfl, hq, ?_⟩
      unfold sliceV
      rw [hu]
      simp [te.size, ZO, RO, OPEN, hbd]
    unfold sliceF at h
    split at h
    · rename_i sh l hq
      rw [hq] at hx
      split at h
      · rename_i heq
        have heq := Shp.eqb_eq _ _ heq
        subst heq
        generalize hv : evalO Te x = v at hx key
        cases hx with
        | rowN =>
          obtain ⟨a, b, rfl, rfl, h, hs⟩ := nil0 h
          exact Went.pure (key _ hs) hH (.rowN _) h
        | rowE _ hsp hc =>
          rename_i A cap
          have e0 : cap ≠ ZO := by rcases hc with rfl | hc; · decide
                                   · unfold ZO; unfold OPEN at hc; omega
          have e3 : cap ≠ OPEN := by rcases hc with rfl | hc; · decide
                                     · omega
          have h : boundF std 0 (lo.map (ev T)) (hi.map (ev T)) fun a b => k (.row e.sh (([] : List FV).drop a |>.take (b - a))) hp := h
          by_cases hr : cap = RO
          · subst hr
            obtain ⟨a, b, hbd, hab, hbn, h⟩ := boundF_ok l1 l2 u1 u2 (Nat.le_refl _) h
            have hb0 : b = 0 := by omega
            have ha0 : a = 0 := by omega
            subst ha0; subst hb0
            refine Went.pure (x := .row e.sh []) (key (.slice (some ⟨A.block, A.off + 0 * e.size, none⟩) 0 RO) ?_) hH (.rowE _ rfl (.inl rfl)) h
            unfold sliceV
            rw [hu]
            simp only [te.size]
            rw [if_neg (by decide), if_pos trivial]
            simp only [hbd]
          · obtain ⟨a, b, hbd, hab, hbn, h⟩ := boundF_ok l1 l2 u1 u2 (Nat.zero_le cap) h
            have hb0 : b = 0 := by omega
            have ha0 : a = 0 := by omega
            subst ha0; subst hb0
            have hlt : cap < OPEN := by rcases hc with hc | hc; · exact absurd hc hr
                                        · exact hc
            have hs : sliceV E.P C.H t (.slice (some A) 0 cap) (lo.map (evalO Te)) (hi.map (evalO Te)) none = some (.slice (if cap = 0 then some A else some ⟨A.block, A.off + 0 * e.size, none⟩) 0 cap) := by
              unfold sliceV
              rw [hu]
              simp only [te.size]
              rw [if_neg e0, if_neg hr, if_neg e3, hbd]
              simp
            by_cases hc0 : cap = 0
            · rw [if_pos hc0] at hs
              exact Went.pure (x := .row e.sh []) (key _ hs) hH (.rowE _ hsp (.inr hlt)) h
            · rw [if_neg hc0] at hs
              exact Went.pure (x := .row e.sh []) (key _ hs) hH (.rowE _ rfl (.inr hlt)) h
        | row hst hr hc hs he =>
          rename_i i0 off0 cap0 eb0
          rw [hz] at hr hc he
          obtain ⟨a, b, v', hs', hab, hbn, h, hcase⟩ := cut_ok hu te.size hpos hst.1 hr hc l1 l2 u1 u2 h
          have hbn : b ≤ l.length := hbn
          have hlen : ((l.drop a).take (b - a)).length = b - a := by simp; omega
          refine Went.pure (key _ hs') hH ?_ h
          show FR C (.row e.sh ((l.drop a).take (b - a))) v'
          rcases hcase with ⟨cap', rfl, _, hc'⟩ | ⟨rfl, A, cap', rfl, hsp, hlt⟩
          · have h2 : b * e.size ≤ l.length * e.size := Nat.mul_le_mul_right _ hbn
            have h3 : b * e.size = a * e.size + (b - a) * e.size := by rw [← Nat.add_mul]; congr 1; omega
            have := FR.row (C := C) (sh := e.sh) (l := (l.drop a).take (b - a)) (off := off0 + a * e.size) (cap := cap') hst (by rw [hlen, hz]; omega) (by rw [hlen, hz]; exact hc') (fun y hy => hs y (List.mem_of_mem_drop (List.mem_of_mem_take hy))) (by rw [hz]; exact ElR.sub he a (b - a))
            rw [hlen] at this
            exact this
          · rw [Nat.sub_self, List.take_zero]
            exact .rowE _ hsp (.inr hlt)
      · exact h.elim
    · rename_i id g hq
      rw [hq] at hx
      split at h
      · rename_i sh ap l hat
        split at h
        · rename_i heq
          have heq := Shp.eqb_eq _ _ heq
          subst heq
          obtain ⟨j', hj, hg, ob, _, _⟩ := hH.alive hat
          generalize hv : evalO Te x = v at hx key
          cases hx with | own hi' hg' h1 hv' =>
          rw [hj] at hi'; cases hi'
          have hov := hv' hg.symm
          unfold OwnV at hov
          unfold ObjR at ob
          split at hov
          · rename_i r b0 hpo
            rw [hpo] at ob
            obtain ⟨cap, rfl, hcap⟩ := hov
            obtain ⟨ke, eb, k1, _, _, _, k5, k6, k7, k8, k9, k10⟩ := ob
            rw [ke, k5, k6, hz] at hcap
            rw [hz] at k8
            have hc : CapOk eb.cells.length eb.esz e.size b0 l.length cap := by
              rw [k7] at hcap
              rcases hcap with ⟨h1, h2, _⟩ | ⟨h1, h2, _⟩
              · exact .inr (.inl ⟨h1, h2⟩)
              · exact .inr (.inr ⟨h1, h2⟩)
            have hnr : cap ≠ RO := by
              rcases hcap with ⟨h1, _⟩ | ⟨_, h1, _⟩
              · rw [h1]; decide
              · unfold RO; unfold OPEN at h1; omega
            rw [k7] at key
            obtain ⟨a, b, v', hs', hab, hbn, h, hcase⟩ := cut_ok hu te.size hpos k1 (by omega) hc l1 l2 u1 u2 h
            have hbn : b ≤ l.length := hbn
            refine Went.pure (key _ hs') hH (x := .view id g a (b - a)) (.view hj hg' ?_ fun _ => ?_) h
            · rcases hcase with ⟨cap', rfl, _⟩ | ⟨_, A, cap', rfl, _⟩ <;> rfl
            · unfold ViewV
              simp only [hpo]
              refine ⟨by omega, ?_⟩
              rw [ke, k5, k6, hz]
              rcases hcase with ⟨cap', rfl, h5, h6⟩ | ⟨rfl, A, cap', rfl, hsp, hlt⟩
              · exact .inl ⟨cap', rfl, h5 hnr, h6⟩
              · exact .inr ⟨Nat.sub_self _, A, cap', rfl, hsp, hlt⟩
          · rename_i hpo
            rw [hpo] at ob
            obtain ⟨rfl, hl0⟩ := hov
            obtain ⟨_, rfl, _⟩ := ob
            obtain ⟨a, b, rfl, rfl, h, hs⟩ := nil0 h
            refine Went.pure (key _ hs) hH (x := .view id g 0 0) (.view hj hg' rfl fun _ => ?_) h
            unfold ViewV
            simp only [hpo]
            exact ⟨trivial, hl0, trivial⟩
        · exact h.elim
      · exact h.elim
    · rename_i id g lo0 n0 hq
      rw [hq] at hx
      split at h
      · rename_i sh ap l hat
        split at h
        · rename_i heq
          have heq := Shp.eqb_eq _ _ heq
          subst heq
          obtain ⟨j', hj, hg, ob, _, _⟩ := hH.alive hat
          generalize hv : evalO Te x = v at hx key
          cases hx with | view hi' hg' h1 hv' =>
          rw [hj] at hi'; cases hi'
          have hov := hv' hg.symm
          unfold ViewV at hov
          unfold ObjR at ob
          split at hov
          · rename_i r b0 hpo
            rw [hpo] at ob
            obtain ⟨ke, eb, k1, _, _, _, k5, k6, k7, k8, k9, k10⟩ := ob
            rw [ke, k5, k6, hz] at hov
            rw [hz] at k8
            obtain ⟨hle, ⟨cap, rfl, hnr, hc⟩ | ⟨rfl, A, cap, rfl, hsp, hlt⟩⟩ := hov
            · have h2 : (lo0 + n0) * e.size ≤ l.length * e.size := Nat.mul_le_mul_right _ (by omega)
              rw [Nat.add_mul] at h2
              obtain ⟨a, b, v', hs', hab, hbn, h, hcase⟩ := cut_ok hu te.size hpos k1 (by omega) hc l1 l2 u1 u2 h
              refine Went.pure (key _ hs') hH (x := .view id g (lo0 + a) (b - a)) (.view hj hg' ?_ fun _ => ?_) h
              · rcases hcase with ⟨cap', rfl, _⟩ | ⟨_, A, cap', rfl, _⟩ <;> rfl
              · unfold ViewV
                simp only [hpo]
                refine ⟨by omega, ?_⟩
                rw [ke, k5, k6, hz, Nat.add_mul, ← Nat.add_assoc]
                rcases hcase with ⟨cap', rfl, h5, h6⟩ | ⟨rfl, A, cap', rfl, hsp, hlt⟩
                · exact .inl ⟨cap', rfl, h5 hnr, h6⟩
                · exact .inr ⟨Nat.sub_self _, A, cap', rfl, hsp, hlt⟩
            · have e0 : cap ≠ ZO := by unfold ZO; unfold OPEN at hlt; omega
              have e2 : cap ≠ RO := by unfold RO; unfold OPEN at hlt; omega
              have e3 : cap ≠ OPEN := by omega
              obtain ⟨a, b, hbd, hab, hbn, h⟩ := boundF_ok l1 l2 u1 u2 (Nat.zero_le cap) h
              have hb0 : b = 0 := by omega
              have ha0 : a = 0 := by omega
              subst ha0; subst hb0
              have hs : sliceV E.P C.H t (.slice (some A) 0 cap) (lo.map (evalO Te)) (hi.map (evalO Te)) none = some (.slice (some (if cap = 0 then A else ⟨A.block, A.off + 0 * e.size, none⟩)) 0 cap) := by
                unfold sliceV
                rw [hu]
                simp only [te.size]
                rw [if_neg e0, if_neg e2, if_neg e3, hbd]
                by_cases hc0 : cap = 0 <;> simp [hc0]
              refine Went.pure (key _ hs) hH (x := .view id g (lo0 + 0) (0 - 0)) (.view hj hg' rfl fun _ => ?_) h
              unfold ViewV
              simp only [hpo]
              refine ⟨by omega, .inr ⟨trivial, _, cap, rfl, ?_, hlt⟩⟩
              split
              · exact hsp
              · rfl
          · rename_i hpo
            rw [hpo] at ob
            obtain ⟨rfl, hl0, e0⟩ := hov
            obtain ⟨_, rfl, _⟩ := ob
            have h1 : n0 = 0 := by omega
            have h2 : lo0 = 0 := by omega
            subst h1; subst h2
            obtain ⟨a, b, rfl, rfl, h, hs⟩ := nil0 h
            refine Went.pure (key _ hs) hH (x := .view id g (0 + 0) (0 - 0)) (.view hj hg' rfl fun _ => ?_) h
            unfold ViewV
            simp only [hpo]
            exact ⟨trivial, hl0, trivial⟩
        · exact h.elim
      · exact h.elim
    · rename_i hq
      rw [hq] at hx
      have hv := hx.of_nils
      rw [hv] at key
      obtain ⟨a, b, rfl, rfl, h, hs⟩ := nil0 h
      exact Went.pure (x := .nils) (key _ hs) hH .nils h
    · exact h.elim
  · rename_i hk
    have hu := ti.k
    rw [hk] at hu
    have hu : E.P.underlying t = some .string := hu
    unfold strF at h
    split at h
    · rename_i s hq
      rw [hq] at hx
      obtain ⟨a, b, hb, _, _, h⟩ := boundF_ok l1 l2 u1 u2 (Nat.le_refl _) h
      have hb : bounds s.size s.size (lo.map (evalO Te)) (hi.map (evalO Te)) none = some (a, b, none) := hb
      refine Went.pure (x := .str (s.extract a b)) (key (.string (s.extract a b)) ?_) hH (.str _) h
      unfold sliceV
      rw [hu, hx.of_str]
      simp [hb]
    · exact h.elim
  · exact h.elim
end
end Go.Proofs.YtmndbhgbngkakaaDoor.G
end
