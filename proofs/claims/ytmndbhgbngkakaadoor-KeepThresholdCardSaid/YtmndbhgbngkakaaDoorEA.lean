/- Several texts of one claim in one file: YtmndbhgbngkakaaDoorE0, YtmndbhgbngkakaaDoorE1, YtmndbhgbngkakaaDoorE2, YtmndbhgbngkakaaDoorE3, YtmndbhgbngkakaaDoorE4, YtmndbhgbngkakaaDoorE5, YtmndbhgbngkakaaDoorE6, YtmndbhgbngkakaaDoorE7, YtmndbhgbngkakaaDoorE8. No condition. -/
import Derived.Orders
import Derived.Below
import Derived.Laws.CopyRow
import Derived.Laws.Cells
import Derived.Laws.Entries
import Derived.Laws.Append
import Derived.IntWalk
import Derived.Laws.NewFold
section
/- A plain evaluator of translated Go code, over a memory of its own. Definitions only; no condition. -/
namespace Go.Proofs.YtmndbhgbngkakaaDoor.E
open Go
set_option linter.all false
/-- A table by numbers. -/
inductive Tr (α:Type) where
  | nil
  | node (v:Option α) (l r:Tr α)
namespace Tr
variable {α:Type}
def get:Tr α→Nat→Option α
  | .nil,_=>none
  | .node v l r,n=>if n=0 then v else if n % 2=1 then l.get (n / 2) else r.get (n / 2 - 1)
def setF:Nat→Tr α→Nat→α→Tr α
  | 0,t,_,_=>t
  | f+1,.nil,n,x=>if n=0 then .node (some x) .nil .nil else if n % 2=1 then .node none (setF f .nil (n / 2) x) .nil else .node none .nil (setF f .nil (n / 2 - 1) x)
  | f+1,.node v l r,n,x=>if n=0 then .node (some x) l r else if n % 2=1 then .node v (setF f l (n / 2) x) r else .node v l (setF f r (n / 2 - 1) x)
def set (t:Tr α) (n:Nat) (x:α):Tr α:=setF (n+1) t n x
end Tr
/-- A row of cells. 'esz' is 0 where its capacity is known. -/
structure Blk where
  cells:List Value
  esz:Nat
  fam:Nat
  gen:Nat
  ro:Bool
inductive Ob where
  | blk (b:Blk)
  | map (es:List MapEntry) (clock:Nat)
structure Mem where
  n:Nat
  obs:Tr Ob
  gens:Tr Nat
  low:Nat
/-- What append may bear, and what make may. -/
def maxRoom:Nat:=2 ^ 47
def mkRoom:Nat:=2 ^ 48
def OPEN:Nat:=2 ^ 62
/-- The capacity of a slice that is only read. -/
def RO:Nat:=2 ^ 62+1
/-- That of an empty slice that is not nil. -/
def ZO:Nat:=2 ^ 62+2
def Mem.gen (H:Mem) (f:Nat):Nat:=(H.gens.get f).getD 0
def Blk.alive (H:Mem) (b:Blk):Bool:=b.ro || b.gen == H.gen b.fam
def Mem.live (H:Mem) (i:Nat):Option Blk :=
  match H.obs.get i with
  | some (.blk b)=>if b.alive H then some b else none
  | _=>none
def Mem.getMap (H:Mem) (i:Nat):Option (List MapEntry × Nat) :=
  match H.obs.get i with
  | some (.map es c)=>some (es,c)
  | _=>none
/-- A new row. -/
def Mem.new (H:Mem) (cs:List Value) (e:Nat):Mem:={ H with n:=H.n+1,obs:=H.obs.set H.n (.blk ⟨cs,e,H.n,0,false⟩) }
def Mem.newMap (H:Mem):Mem:={ H with n:=H.n+1,obs:=H.obs.set H.n (.map [] 0) }
def Mem.putMap (H:Mem) (i:Nat) (es:List MapEntry) (c:Nat):Mem:={ H with obs:=H.obs.set i (.map es c),low:=min H.low i }
def rd (H:Mem) (i off k:Nat):Option (List Value) :=
  match H.live i with
  | some b=>if off+k≤b.cells.length then some ((b.cells.drop off).take k) else none
  | none=>none
def splice (l:List Value) (off:Nat) (vs:List Value):List Value:=l.take off++vs++l.drop (off+vs.length)
/-- The cells of a row are these now: of its family no other row is sure any more. -/
def Mem.put (H:Mem) (i:Nat) (b:Blk) (cs:List Value):Mem :=
  if b.esz=0 then { H with obs:=H.obs.set i (.blk { b with cells:=cs }),low:=min H.low b.fam }
  else { H with obs:=H.obs.set i (.blk { b with cells:=cs,gen:=H.gen b.fam+1 }),gens:=H.gens.set b.fam (H.gen b.fam+1),low:=min H.low b.fam }
def wr (H:Mem) (i off:Nat) (vs:List Value):Option Mem :=
  match H.live i with
  | some b=>if b.ro=false∧off+vs.length≤b.cells.length∧vs.all (·.oneCell')=true then some (H.put i b (splice b.cells off vs)) else none
  | none=>none
/-- A row that has grown, or a copy of it that is longer. -/
def Mem.grow (H:Mem) (i:Nat) (b:Blk) (keep:Bool) (cs:List Value):Mem :=
  { n:=H.n+1
    obs:=(if keep then H.obs.set i (.blk { b with gen:=H.gen b.fam+1 }) else H.obs).set H.n (.blk ⟨cs,b.esz,b.fam,H.gen b.fam+1,false⟩)
    gens:=H.gens.set b.fam (H.gen b.fam+1)
    low:=min H.low b.fam }
def tsz (P:Program) (t:TypeId):Option Nat:=(P.info? t).map (·.size)
def tbytes (P:Program) (t:TypeId):Option Nat:=(P.info? t).map (·.bytes)
def isAggD:TypeDesc→Bool
  | .struct _ | .array _ _=>true
  | _=>false
def elemT (P:Program) (t:TypeId):Option TypeId :=
  match P.underlying t with
  | some (.slice e)=>some e
  | _=>none
/-- No address in it. -/
def flat:Nat→Value→Bool
  | _,.bool _ | _,.int _ _ | _,.float _ _ | _,.string _ | _,.pointer none | _,.slice none _ _ | _,.map none | _,.nilFunc | _,.nilIface=>true
  | n+1,.agg cs=>cs.toList.all (flat n)
  | n+1,.tuple cs=>cs.toList.all (flat n)
  | n+1,.iface _ v=>flat n v
  | n+1,.func _ a b=>a.toList.all (flat n) && b.toList.all (flat n)
  | _,_=>false
def depth:Nat:=6
def tzero (P:Program) (t:TypeId):Option Value :=
  match (P.info? t).bind (·.zero) with
  | some z=>if flat depth z then some z else none
  | none=>none
/-- What a program of the model yields if it touches nothing. -/
def pureRun {α:Type} (P:Program):Sem α→Option α
  | .pure a=>some a
  | .program k=>pureRun P (k P)
  | .mark _ k=>pureRun P k
  | _=>none
def pureV (P:Program) (s:Sem Value):Option Value :=
  match pureRun P s with
  | some v=>if flat depth v then some v else none
  | none=>none
inductive Re where
  | val (v:Value)
  | skip
  | enter (f:FuncId) (args:Array Value)
structure Env where
  P:Program
  X:FuncId→Option (Array Value→Option Value)
  I:FuncId→Option (Array Value→Mem→Option (Value × Mem))
  bad:FuncId→Bool
def evalO (T:Tr Value):Operand→Value
  | .tmp t=>(T.get t).getD undef
  | .const v=>v
  | .global _=>undef
  | .func f=>.func (.func f) #[] #[]
def loadV (P:Program) (H:Mem) (t:TypeId) (a:Addr):Option Value :=
  match (P.underlying t).map isAggD,tsz P t with
  | some true,some k=>(rd H a.block a.off k).map fun cs=>.agg cs.toArray
  | some false,_ =>
    match rd H a.block a.off 1 with
    | some [v]=>some v
    | _=>none
  | _,_=>none
def storeV (P:Program) (H:Mem) (t:TypeId) (a:Addr) (v:Value):Option Mem :=
  if tsz P t=some v.cells.size then wr H a.block a.off v.cells.toList else none
def addrOf (i off:Nat):Value:=.pointer (some ⟨i,off,none⟩)
def places (P:Program) (fields:List Field):Option (List (Nat × Nat)):=fields.mapM fun f=>(tsz P f.type).map fun s=>(f.offset,s)
def buildV (P:Program) (t:TypeId) (parts:List (Nat × Value)):Option Value :=
  match tzero P t,P.underlying t with
  | some z,some (.struct fields) =>
    match places P fields.toList with
    | some pl=>(Instr.fill (pl[·]?) z.cells parts).map .agg
    | none=>none
  | some z,some (.array _ e) => 
    match tsz P e with
    | some s=>(Instr.fill (fun i=>some (i*s,s)) z.cells parts).map .agg
    | none=>none
  | _,_=>none
/-- n zero cells. -/
def zerosOf (z:Array Value) (n:Nat):List Value:=((Array.range n).map fun i=>z[i % z.size]!).toList
def partV (P:Program) (t:TypeId) (cs:Array Value) (off:Nat):Option Value :=
  match (P.underlying t).map isAggD,tsz P t with
  | some true,some k=>some (.agg (cs.extract off (off+k)))
  | some false,_=>cs[off]?
  | _,_=>none
def idx (v:Value):Option Nat :=
  match v with
  | .int _ i=>if 0≤i then some i.toNat else none
  | _=>none
/-- The bounds of a slice of a slice, where the capacity is known to be 'cap' or more. -/
def bounds (len cap:Nat) (lo hi mx:Option Value):Option (Nat × Nat × Option Nat) :=
  match (match mx with | none=>some none | some v=>(idx v).map some) with
  | none=>none
  | some m =>
    match (match hi with | none=>(if m.isSome then none else some len) | some v=>idx v) with
    | none=>none
    | some h =>
      match (match lo with | none=>some 0 | some v=>idx v) with
      | none=>none
      | some l=>if l≤h∧h≤m.getD cap∧m.getD 0≤cap then some (l,h,m) else none
def sliceV (P:Program) (H:Mem) (t:TypeId) (x:Value) (lo hi mx:Option Value):Option Value :=
  match P.underlying t,x with
  | some .string,.string s =>
    if mx.isSome then none else
    match bounds s.size s.size lo hi none with
    | some (l,h,_)=>some (.string (s.extract l h))
    | none=>none
  | some (.slice e),.slice base len cap =>
    match tsz P e with
    | none=>none
    | some z =>
      if cap=ZO then none else
      if cap=RO then
        match base with
        | none=>none
        | some a =>
          match bounds len len lo hi mx with
          | some (l,h,none)=>some (.slice (some ⟨a.block,a.off+l*z,none⟩) (h - l) RO)
          | some (0,0,some 0)=>some (.slice (some a) 0 0)
          | _=>none
      else if cap=OPEN then
        match base with
        | none=>none
        | some a =>
          match H.live a.block with
          | none=>none
          | some b =>
            if b.esz=z∧0 < z∧a.off≤b.cells.length then
              match bounds len ((b.cells.length - a.off) / z) lo hi mx with
              | some (l,h,none)=>some (.slice (some ⟨a.block,a.off+l*z,none⟩) (h - l) OPEN)
              | some (l,h,some m)=>if m≤maxRoom then some (.slice (some (if m=l then a else ⟨a.block,a.off+l*z,none⟩)) (h - l) (m - l)) else none
              | none=>none
            else none
      else
        match bounds len cap lo hi mx with
        | some (l,h,m)=>some (.slice (if m.getD cap=l then base else base.map fun a=>⟨a.block,a.off+l*z,none⟩) (h - l) (m.getD cap - l))
        | none=>none
  | some (.array n e),.pointer (some a) =>
    match tsz P e,bounds n n lo hi mx with
    | some z,some (l,h,m)=>if n≤maxRoom then some (.slice (some (if m.getD n=l then a else ⟨a.block,a.off+l*z,none⟩)) (h - l) (m.getD n - l)) else none
    | _,_=>none
  | _,_=>none
/-- append: 'new' is k elements of e cells each. -/
def appendV (H:Mem) (e bytes:Nat) (s:Value) (new:List Value) (k:Nat):Option (Value × Mem) :=
  match s with
  | .slice base len cap =>
    if ((len+k)*bytes≤maxRoom∧bytes≤65536∧len+k≤maxRoom)∧0 < e∧new.length=k*e∧new.all (·.oneCell')=true then
      if cap=ZO then none else
      if cap=RO then (if k=0 then some (s,H) else none) else
      if cap=OPEN then
        match base with
        | none=>none
        | some a =>
          match H.live a.block with
          | none=>none
          | some b =>
            if b.esz=e∧b.ro=false∧a.off+len*e≤b.cells.length then
              if k=0 then some (s,H) else
              if a.off+len*e+new.length≤b.cells.length then (wr H a.block (a.off+len*e) new).map fun H'=>(.slice base (len+k) OPEN,H')
              else some (.slice (some ⟨H.n,0,none⟩) (len+k) OPEN,H.grow a.block b (a.off+len*e == b.cells.length) ((b.cells.drop a.off).take (len*e)++new))
            else none
      else if len+k≤cap then
        if k=0 then some (s,H) else
        match base with
        | none=>none
        | some a=>(wr H a.block (a.off+len*e) new).map fun H'=>(.slice base (len+k) cap,H')
      else
        match (match base with | none=>(if len=0 then some [] else none) | some a=>rd H a.block a.off (len*e)) with
        | none=>none
        | some old=>some (.slice (some ⟨H.n,0,none⟩) (len+k) OPEN,H.new (old++new) e)
    else none
  | _=>none
/-- The cells of the first n elements. -/
def firstV (H:Mem) (e n:Nat) (x:Value):Option (List Value) :=
  match x with
  | .slice (some a) _ _=>if n*e=0 then some [] else rd H a.block a.off (n*e)
  | .slice none _ _=>some []
  | .string s=>some ((s.extract 0 n).data.map fun b=>Value.int .u8 b.toNat).toList
  | _=>none
def lenV:Value→Option Nat
  | .slice _ n _=>some n
  | .string s=>some s.size
  | _=>none
def isIntD:TypeDesc→Bool
  | .int _=>true
  | _=>false
def builtinV (P:Program) (H:Mem) (b:Builtin) (ts:Array TypeId) (ty:TypeId) (consts:Array Bool) (args:List Value):Option (Value × Mem) :=
  match b,args with
  | .len,[x] =>
    match (ts[0]?).bind P.underlying,x with
    | some .string,.string s=>some (goInt s.size,H)
    | some (.slice _),.slice _ n _=>some (goInt n,H)
    | some (.map _ _),.map none=>some (goInt 0,H)
    | some (.map _ _),.map (some r)=>(H.getMap r).map fun m=>(goInt m.1.length,H)
    | _,_=>none
  | .cap,[x] =>
    match (ts[0]?).bind P.underlying,x with
    | some (.slice _),.slice _ _ c=>if c=OPEN∨c=RO∨c=ZO then none else some (goInt c,H)
    | _,_=>none
  | .append,[s,x] =>
    match (ts[0]?).bind (elemT P),((ts[1]?).bind P.underlying).map isIntD with
    | some el,some zs =>
      match tsz P el,tbytes P el,tzero P el with
      | some e,some bytes,some z =>
        if z.cells.size≠e then none else
        if zs then
          match idx x with
          | some k=>if k≤maxRoom∧k*bytes≤maxRoom then appendV H e bytes s (zerosOf z.cells (k*e)) k else none
          | none=>none
        else
          match lenV x with
          | some k =>
            match firstV H e k x with
            | some new=>appendV H e bytes s new k
            | none=>none
          | none=>none
      | _,_,_=>none
    | _,_=>none
  | .copy,[d,s] =>
    match (ts[0]?).bind (elemT P),d,lenV s with
    | some el,.slice base dl _,some sl =>
      match tsz P el with
      | some e =>
        match firstV H e (Nat.min sl dl) s with
        | some cs =>
          match base with
          | some a=>if cs=[] then some (goInt (Nat.min sl dl),H) else (wr H a.block a.off cs).map fun H'=>(goInt (Nat.min sl dl),H')
          | none=>some (goInt (Nat.min sl dl),H)
        | none=>none
      | none=>none
    | _,_,_=>none
  | .clear,[x] =>
    match (ts[0]?).bind (elemT P),x with
    | some _,.slice none _ _=>some (.tuple #[],H)
    | some el,.slice (some a) n _ =>
      if n=0 then some (.tuple #[],H) else
      match tzero P el with
      | some z=>(wr H a.block a.off (zerosOf z.cells (n*z.cells.size))).map fun H'=>(.tuple #[],H')
      | none=>none
    | _,_=>none
  | .min,xs=>if xs.all (flat depth) then (pureV P (Builtin.min_ ts ty xs.toArray)).map (·,H) else none
  | .max,xs=>if xs.all (flat depth) then (pureV P (Builtin.max_ ts ty xs.toArray)).map (·,H) else none
  | _,_=>none
/-- Keys that are texts or numbers. -/
def keyFlat:TypeDesc→Value→Bool
  | .string,.string _=>true
  | .int k,.int k' _=>k == k'
  | _,_=>false
def entriesV (H:Mem):Value→Option (List MapEntry)
  | .map none=>some []
  | .map (some r)=>(H.getMap r).map (·.1)
  | _=>none
/-- Of values of which one is nil. -/
def eqNil (P:Program) (t:TypeId) (x y:Value):Option Bool :=
  match P.underlying t,x,y with
  | some (.slice _),.slice none _ _,.slice b n c=>if n=0∧b.isSome∧c≠ZO then none else some b.isNone
  | some (.slice _),.slice _ n c,.slice none _ _=>if n=0∧c≠ZO then none else some false
  | some (.pointer _),.pointer none,.pointer b=>some b.isNone
  | some (.pointer _),.pointer _,.pointer none=>some false
  | some (.func _ _ _),.func _ _ _,.nilFunc=>some false
  | some (.func _ _ _),.nilFunc,.func _ _ _=>some false
  | some (.func _ _ _),.nilFunc,.nilFunc=>some true
  | _,_,_=>none
def binV (P:Program) (op:BinOp) (t:TypeId) (xo yo:Operand) (x y:Value):Option Value :=
  if flat depth x && flat depth y then pureV P (do eqGuard op t xo yo x y;binOp op t x y)
  else
    match op with
    | .eql=>(eqNil P t x y).map .bool
    | .neq=>(eqNil P t x y).map fun b=>.bool (!b)
    | _=>none
/-- Numbers of 8 bits as a text. -/
def bytesOf:List Value→Option (List Int)
  | []=>some []
  | .int .u8 n::rest=>(bytesOf rest).map (n :: ·)
  | _=>none
def convV (P:Program) (H:Mem) (s d:TypeId) (x:Value):Option Value :=
  if flat depth x then pureV P (convert s d x) else
  match P.underlying s,P.underlying d,x with
  | some (.slice e),some .string,.slice (some a) len _ =>
    match P.underlying e with
    | some (.int .u8)=>((rd H a.block a.off len).bind bytesOf).map fun ns=>.string (ns.foldl (fun r n=>r.push (UInt8.ofNat n.toNat)) ByteArray.empty)
    | _=>none
  | _,_,_=>none
def opStep (E:Env) (T:Tr Value) (H:Mem) (o:Oper):Option (Re × Mem) :=
  match o.op with
  | .move x | .assign x=>some (.val (evalO T x),H)
  | .pick c a b =>
    match evalO T c with
    | .bool t=>some (.val (if t then evalO T a else evalO T b),H)
    | _=>none
  | .alloc t=>(tzero E.P t).map fun z=>(.val (addrOf H.n 0),H.new z.cells.toList 0)
  | .box _ x=>some (.val (addrOf H.n 0),H.new (evalO T x).cells.toList 0)
  | .build t ps=>(buildV E.P t (ps.toList.map fun p=>(p.1,evalO T p.2))).map fun v=>(.val v,H)
  | .buildSlice t len ps =>
    match elemT E.P t with
    | none=>none
    | some el =>
      match tsz E.P el,tzero E.P el with
      | some e,some z =>
        if len*e≤2 ^ 24∧len≤2 ^ 24 then
          match Instr.fill (fun i=>some (i*e,e)) ((Array.range (len*e)).map fun i=>(if len*e=0 then #[] else z.cells)[i % (if len*e=0 then #[] else z.cells).size]!) (ps.toList.map fun p=>(p.1,evalO T p.2)) with
          | some cs=>some (.val (.slice (some ⟨H.n,0,none⟩) len len),H.new cs.toList 0)
          | none=>none
        else none
      | _,_=>none
  | .load t a =>
    match evalO T a with
    | .pointer (some a)=>(loadV E.P H t a).map fun v=>(.val v,H)
    | _=>none
  | .store t a x =>
    match evalO T a with
    | .pointer (some a)=>(storeV E.P H t a (evalO T x)).map fun H'=>(.skip,H')
    | _=>none
  | .nilCheck x =>
    match evalO T x with
    | .pointer (some a)=>some (.val (.pointer (some a)),H)
    | .func (.func f) a b=>some (.val (.func (.func f) a b),H)
    | _=>none
  | .binOp op t x y _=>(binV E.P op t x y (evalO T x) (evalO T y)).map fun v=>(.val v,H)
  | .unOp op _ x=>if flat depth (evalO T x) then (pureV E.P (Op.unary op (evalO T x))).map fun v=>(.val v,H) else none
  | .convert s d x=>(convV E.P H s d (evalO T x)).map fun v=>(.val v,H)
  | .makeInterface t x =>
    match E.P.underlying t with
    | some (.interface _)=>none
    | some _=>some (.val (.iface t (evalO T x)),H)
    | none=>none
  | .makeFunc fn a b=>some (.val (.func fn (a.map (evalO T)) (b.map (evalO T))),H)
  | .makeMap t none=>some (.val (.map (some H.n)),H.newMap)
  | .makeSlice t l c =>
    match elemT E.P t,idx (evalO T l),idx (evalO T c) with
    | some el,some l,some c =>
      match tsz E.P el,tzero E.P el,tbytes E.P el with
      | some e,some z,some bytes =>
        if l≤c∧c≤mkRoom∧c*bytes≤mkRoom then
          some (.val (.slice (some ⟨H.n,0,none⟩) l c),H.new (zerosOf z.cells (c*e)) 0)
        else none
      | _,_,_=>none
    | _,_,_=>none
  | .slice t x lo hi mx=>(sliceV E.P H t (evalO T x) (lo.map (evalO T)) (hi.map (evalO T)) (mx.map (evalO T))).map fun v=>(.val v,H)
  | .fieldAddr s x f =>
    match E.P.underlying s,evalO T x with
    | some (.struct fs),.pointer (some a) =>
      match fs[f]? with
      | some fd =>
        match tsz E.P fd.type with
        | some k=>if k=0 then none else some (.val (addrOf a.block (a.off+fd.offset)),H)
        | none=>none
      | none=>none
    | _,_=>none
  | .field t x f =>
    match E.P.underlying t,evalO T x with
    | some (.struct fs),.agg cs =>
      match fs[f]? with
      | some fd=>(partV E.P fd.type cs fd.offset).map fun v=>(.val v,H)
      | none=>none
    | _,_=>none
  | .indexAddr t x i =>
    match E.P.underlying t,evalO T x,idx (evalO T i) with
    | some (.slice el),.slice (some a) len _,some i =>
      match tsz E.P el with
      | some e=>if i < len then some (.val (addrOf a.block (a.off+i*e)),H) else none
      | none=>none
    | some (.array len el),.pointer (some a),some i =>
      match tsz E.P el with
      | some e=>if i < len then some (.val (addrOf a.block (a.off+i*e)),H) else none
      | none=>none
    | _,_,_=>none
  | .index t x i =>
    match E.P.underlying t,evalO T x,idx (evalO T i) with
    | some (.array len el),.agg cs,some i =>
      match tsz E.P el with
      | some e=>if i < len then (partV E.P el cs (i*e)).map fun v=>(.val v,H) else none
      | none=>none
    | some .string,.string s,some i=>(s[i]?).map fun b=>(.val (.int .u8 b.toNat),H)
    | _,_,_=>none
  | .lookup t m k ok =>
    match E.P.underlying t with
    | some (.map kt el) =>
      match E.P.underlying kt,tzero E.P el with
      | some kd,some z =>
        if keyFlat kd (evalO T k) then
          match entriesV H (evalO T m) with
          | some es =>
            if es.all (fun e=>keyFlat kd e.key) then
              match Instr.findNow kd (evalO T k) es 0 with
              | some (some (_,v))=>some (.val (if ok then .tuple #[v,.bool true] else v),H)
              | some none=>some (.val (if ok then .tuple #[z,.bool false] else z),H)
              | none=>none
            else none
          | none=>none
        else none
      | _,_=>none
    | _=>none
  | .mapEntry t m k =>
    match E.P.underlying t,evalO T m with
    | some (.map kt el),.map (some r) =>
      match E.P.underlying kt,tzero E.P el,H.getMap r with
      | some kd,some z,some (es,c) =>
        if keyFlat kd (evalO T k) && es.all (fun e=>keyFlat kd e.key) then
          match Instr.findNow kd (evalO T k) es 0 with
          | some (some (i,v)) =>
            match es[i]? with
            | some e=>some (.val (.tuple #[v,goInt e.born]),H.putMap r es c)
            | none=>none
          | some none=>some (.val (.tuple #[z,goInt c]),H.putMap r (es++[⟨evalO T k,z,c⟩]) (c+1))
          | none=>none
        else none
      | _,_,_=>none
    | _,_=>none
  | .mapUpdate t m k x =>
    match E.P.underlying t,evalO T m with
    | some (.map kt _),.map (some r) =>
      match E.P.underlying kt,H.getMap r with
      | some kd,some (es,c) =>
        if keyFlat kd (evalO T k) && es.all (fun e=>keyFlat kd e.key) then
          match Instr.findNow kd (evalO T k) es 0 with
          | some (some (i,_))=>some (.skip,H.putMap r (es.modify i fun e=>{ e with val:=evalO T x }) c)
          | some none=>some (.skip,H.putMap r (es++[⟨evalO T k,evalO T x,c⟩]) (c+1))
          | none=>none
        else none
      | _,_=>none
    | _,_=>none
  | .entryStore _ m s x =>
    match evalO T m,idx (evalO T s) with
    | .map (some r),some born =>
      match H.getMap r with
      | some (es,c) =>
        match es.findIdx? (fun e=>e.born == born) with
        | some i=>some (.skip,H.putMap r (es.modify i fun e=>{ e with val:=evalO T x }) c)
        | none=>none
      | none=>none
    | _,_=>none
  | .extract x i =>
    match evalO T x with
    | .tuple vs=>(vs[i]?).map fun v=>(.val v,H)
    | _=>none
  | .call c =>
    match c.callee with
    | .builtin b=>(builtinV E.P H b c.argTypes o.type (c.args.map fun | .const _=>true | _=>false) (c.args.toList.map (evalO T))).map fun r=>(.val r.1,r.2)
    | .value f =>
      match evalO T f with
      | .func (.func g) first captured =>
        let args:=first++c.args.map (evalO T)++captured
        match E.P.funcs[g]? with
        | some fn =>
          if fn.body.isSome then some (.enter g args,H) else
          match E.X g with
          | some x=>if args.toList.all (flat depth) then (x args).map fun v=>(.val v,H) else none
          | none=>none
        | none=>none
      | _=>none
    | _=>none
  | _=>none
def putT (T:Tr Value) (d:Option Tmp) (v:Value):Tr Value :=
  match d with
  | some d=>T.set d v
  | none=>T
def yieldT (ops:Array Oper) (T:Tr Value) (j:Nat):Option Bool :=
  match (ops[j]?).bind (·.dst) with
  | some d =>
    match T.get d with
    | some (.bool b)=>some b
    | _=>none
  | none=>none
abbrev Call:=FuncId→Array Value→Mem→Option (Value × Mem)
def stepOne (E:Env) (call:Call) (ops:Array Oper) (o:Oper) (T:Tr Value) (H:Mem):Option (Tr Value × Mem) :=
  if Region.wanted o (yieldT ops T) then
    match opStep E T H o with
    | some (.val v,H')=>some (putT T o.dst v,H')
    | some (.skip,H')=>some (putT T o.dst undef,H')
    | some (.enter f args,H') =>
      match call f args H' with
      | some (v,H'')=>some (putT T o.dst v,H'')
      | none=>none
    | none=>none
  else some (putT T o.dst undef,H)
def evList (E:Env) (call:Call) (ops:Array Oper):List Oper→Tr Value→Mem→Option (Tr Value × Mem)
  | [],T,H=>some (T,H)
  | o::rest,T,H =>
    match stepOne E call ops o T H with
    | some (T',H')=>evList E call ops rest T' H'
    | none=>none
/-- Which operations wait for which, by bits. -/
def maskOf (acc:List Nat) (o:Oper):Nat:=o.after.toList.foldl (fun s e=>if Region.binds .any e then s ||| 2 ^ e.on ||| acc.getD e.on 0 else s) 0
def masks (ops:List Oper):List Nat:=ops.foldl (fun acc o=>acc++[maskOf acc o]) []
/-- It looks at no memory and makes none. -/
def inert (o:Oper):Bool :=
  match o.op with
  | .move _ | .assign _ | .pick _ _ _ | .extract _ _ | .makeFunc _ _ _ | .makeInterface _ _ | .nilCheck _ | .unOp _ _ _ | .binOp _ _ _ _ _ | .build _ _ | .field _ _ _ | .fieldAddr _ _ _ | .indexAddr _ _ _ | .index _ _ _=>true
  | _=>false
/-- All that touches memory waits for operation k, or it for that. -/
def barrierB (ops:List Oper) (k:Nat):Bool :=
  (List.range ops.length).all fun j=>j == k || inert (ops.getD j default) || ((masks ops).getD k 0).testBit j || ((masks ops).getD j 0).testBit k
/-- Each operation by itself writes nothing that was there, or is a barrier. -/
def evDraw (E:Env) (call:Call) (ops:Array Oper):List Oper→Nat→Tr Value→Mem→Option (Tr Value × Mem)
  | [],_,T,H=>some (T,H)
  | o::rest,k,T,H =>
    match stepOne E call ops o T { H with low:=H.n } with
    | some (T',H')=>if H.n≤H'.low∨barrierB ops.toList k=true then evDraw E call ops rest (k+1) T' { H' with low:=min H.low H'.low } else none
    | none=>none
inductive Ex where
  | norm
  | exit (id:Nat)
  | ret
def iter {S:Type} (f:S→Option (Ex × S)):Nat→S→Option (Ex × S)
  | 0,_=>none
  | n+1,s =>
    match f s with
    | some (.norm,s')=>iter f n s'
    | r=>r
abbrev St:=Tr Value × Mem
def evCode (E:Env) (call:Call) (n:Nat):Code→St→Option (Ex × St)
  | .skip,s=>some (.norm,s)
  | .region _ ops draw,s=>(if draw then evDraw E call ops ops.toList 0 s.1 s.2 else evList E call ops ops.toList s.1 s.2).map fun s'=>(.norm,s')
  | .seq a b,s =>
    match evCode E call n a s with
    | some (.norm,s')=>evCode E call n b s'
    | r=>r
  | .cond c x y,s =>
    match evalO s.1 c with
    | .bool true=>evCode E call n x s
    | .bool false=>evCode E call n y s
    | _=>none
  | .block id body,s =>
    match evCode E call n body s with
    | some (.exit i,s')=>if i=id then some (.norm,s') else some (.exit i,s')
    | r=>r
  | .loop body,s=>iter (evCode E call n body) n s
  | .exit id,s=>some (.exit id,s)
  | .ret,s=>some (.ret,s)
  | _,_=>none
def initT:Nat→List Value→Tr Value→Tr Value
  | _,[],T=>T
  | i,v::vs,T=>initT (i+1) vs (T.set i v)
def resV (P:Program) (T:Tr Value) (H:Mem):ResultVar→Option Value
  | .tmp t=>some ((T.get t).getD undef)
  | .cell a t =>
    match (T.get a).getD undef with
    | .pointer (some a)=>loadV P H t a
    | _=>none
def ressV (P:Program) (T:Tr Value) (H:Mem) (rs:List ResultVar):Option Value :=
  match rs.mapM (resV P T H) with
  | some [v]=>some v
  | some vs=>some (.tuple vs.toArray)
  | none=>none
def evCall (E:Env):Nat→Call
  | 0,_,_,_=>none
  | n+1,f,args,H =>
    match E.I f with
    | some g=>g args H
    | none =>
      if E.bad f then none else
      match E.P.funcs[f]? with
      | none=>none
      | some fn =>
        match fn.body with
        | none=>none
        | some c =>
          if fn.ntmps < args.size then none else
          match evCode E (evCall E n) n c (initT 0 args.toList .nil,H) with
          | some (.norm,T,H') | some (.ret,T,H')=>(ressV E.P T H' fn.results.toList).map fun v=>(v,H')
          | _=>none
end Go.Proofs.YtmndbhgbngkakaaDoor.E
end
section
/- The evaluator's memory and the model's: what holds between them. No condition. -/
namespace Go.Proofs.YtmndbhgbngkakaaDoor.E
open Go Go.RowKit
set_option linter.all false

namespace Tr
variable {α:Type}
theorem get_setF_same:∀ (f:Nat) (t:Tr α) (n:Nat) (x:α),n < f→(setF f t n x).get n=some x
 | 0,_,_,_,h=>by omega
 | f+1,.nil,n,x,h=>by
  unfold setF
  by_cases h0:n=0
  ·simp [h0,get]
  ·by_cases h1:n % 2=1
   ·simp only [h0,h1,if_true,if_false,get];exact get_setF_same f _ _ x (by omega)
   ·simp only [h0,h1,if_false,get];exact get_setF_same f _ _ x (by omega)
 | f+1,.node v l r,n,x,h=>by
  unfold setF
  by_cases h0:n=0
  ·simp [h0,get]
  ·by_cases h1:n % 2=1
   ·simp only [h0,h1,if_true,if_false,get];exact get_setF_same f _ _ x (by omega)
   ·simp only [h0,h1,if_false,get];exact get_setF_same f _ _ x (by omega)
theorem get_setF_ne:∀ (f:Nat) (t:Tr α) (n m:Nat) (x:α),n≠m→(setF f t n x).get m=t.get m
 | 0,_,_,_,_,h=>rfl
 | f+1,.nil,n,m,x,h=>by
  unfold setF
  by_cases h0:n=0
  ·have:m≠0:=by omega
   simp only [h0,if_true,get,this,if_false];split<;>rfl
  ·by_cases h1:n % 2=1
   ·simp only [h0,h1,if_true,if_false,get]
    by_cases m0:m=0
    ·simp [m0]
    ·by_cases m1:m % 2=1
     ·simp only [m0,m1,if_true,if_false];exact get_setF_ne f .nil _ _ x (by omega)
     ·simp only [m0,m1,if_false]
   ·simp only [h0,h1,if_false,get]
    by_cases m0:m=0
    ·simp [m0]
    ·by_cases m1:m % 2=1
     ·simp only [m0,m1,if_true,if_false]
     ·simp only [m0,m1,if_false];exact get_setF_ne f .nil _ _ x (by omega)
 | f+1,.node v l r,n,m,x,h=>by
  unfold setF
  by_cases h0:n=0
  ·have:m≠0:=by omega
   simp only [h0,if_true,get,this,if_false]
  ·by_cases h1:n % 2=1
   ·simp only [h0,h1,if_true,if_false,get]
    by_cases m0:m=0
    ·simp [m0]
    ·by_cases m1:m % 2=1
     ·simp only [m0,m1,if_true,if_false];exact get_setF_ne f l _ _ x (by omega)
     ·simp only [m0,m1,if_false]
   ·simp only [h0,h1,if_false,get]
    by_cases m0:m=0
    ·simp [m0]
    ·by_cases m1:m % 2=1
     ·simp only [m0,m1,if_true,if_false]
     ·simp only [m0,m1,if_false];exact get_setF_ne f r _ _ x (by omega)
theorem get_set (t:Tr α) (n m:Nat) (x:α):(t.set n x).get m=if n=m then some x else t.get m:=by
 unfold set
 split
 ·rename_i h;subst h;exact get_setF_same _ _ _ _ (by omega)
 ·rename_i h;exact get_setF_ne _ _ _ _ _ h
theorem get_set_same (t:Tr α) (n:Nat) (x:α):(t.set n x).get n=some x:=by rw [get_set,if_pos rfl]
theorem get_set_ne (t:Tr α) {n m:Nat} (x:α) (h:n≠m):(t.set n x).get m=t.get m:=by rw [get_set,if_neg h]
end Tr
/-- Where a row of ours lies in the model's memory. -/
structure MA where
 at_:Addr
 lim:Nat
 e:Nat
abbrev Mp:=Nat→Option MA
def MA.addr (m:MA) (off:Nat):Addr:=⟨m.at_.block,m.at_.off+off,none⟩
inductive VR (μ:Mp):Value→Value→Prop where
 | bool (b:Bool):VR μ (.bool b) (.bool b)
 | int (k:IntKind) (n:Int):VR μ (.int k n) (.int k n)
 | float (k:FloatKind) (n:Nat):VR μ (.float k n) (.float k n)
 | string (s:ByteArray):VR μ (.string s) (.string s)
 | nilFunc:VR μ .nilFunc .nilFunc
 | nilIface:VR μ .nilIface .nilIface
 | pnil:VR μ (.pointer none) (.pointer none)
 | mnil:VR μ (.map none) (.map none)
 | snil (n c:Nat):VR μ (.slice none n c) (.slice none n c)
 | ptr {a:Addr} {m:MA} (hs:a.spot=none) (h:μ a.block=some m):VR μ (.pointer (some a)) (.pointer (some (m.addr a.off)))
 | sliceE {a:Addr} {m:MA} {n c:Nat} (hs:a.spot=none) (hc:c < OPEN) (h:μ a.block=some m):VR μ (.slice (some a) n c) (.slice (some (m.addr a.off)) n c)
 | sliceO {a:Addr} {m:MA} {n c:Nat} (hs:a.spot=none) (h:μ a.block=some m) (hl:m.at_.off+a.off+c*m.e=m.lim) (hn:n≤c):VR μ (.slice (some a) n OPEN) (.slice (some (m.addr a.off)) n c)
 | sliceE0 {a:Addr} {A:Option Addr} (hs:a.spot=none):VR μ (.slice (some a) 0 0) (.slice A 0 0)
 | sliceO0 {a A:Addr} {m:MA} (hs:a.spot=none) (h:μ a.block=some m) (hl:m.at_.off+a.off=m.lim):VR μ (.slice (some a) 0 OPEN) (.slice (some A) 0 0)
 | sliceR {a:Addr} {m:MA} {n c:Nat} (hs:a.spot=none) (h:μ a.block=some m) (hn:n≤c):VR μ (.slice (some a) n RO) (.slice (some (m.addr a.off)) n c)
 | sliceR0 {a:Addr} {A:Option Addr} {c:Nat} (hs:a.spot=none):VR μ (.slice (some a) 0 RO) (.slice A 0 c)
 | sliceZ {a A:Addr} {c:Nat} (hs:a.spot=none):VR μ (.slice (some a) 0 ZO) (.slice (some A) 0 c)
 | map {r:Nat} {m:MA} (h:μ r=some m):VR μ (.map (some r)) (.map (some m.at_.block))
 | agg {xs ys:Array Value} (hn:xs.size=ys.size) (h:∀ (i:Nat) x y,xs[i]?=some x→ys[i]?=some y→VR μ x y):VR μ (.agg xs) (.agg ys)
 | tuple {xs ys:Array Value} (hn:xs.size=ys.size) (h:∀ (i:Nat) x y,xs[i]?=some x→ys[i]?=some y→VR μ x y):VR μ (.tuple xs) (.tuple ys)
 | func (fn:Fn) {xs ys xs' ys':Array Value} (hn:xs.size=ys.size) (h:∀ (i:Nat) x y,xs[i]?=some x→ys[i]?=some y→VR μ x y)
   (hn':xs'.size=ys'.size) (h':∀ (i:Nat) x y,xs'[i]?=some x→ys'[i]?=some y→VR μ x y):VR μ (.func fn xs xs') (.func fn ys ys')
 | iface (t:TypeId) {x y:Value} (h:VR μ x y):VR μ (.iface t x) (.iface t y)
def Ext (μ μ':Mp):Prop:=∀ i m,μ i=some m→μ' i=some m
theorem Ext.refl (μ:Mp):Ext μ μ:=fun _ _ h=>h
theorem Ext.trans {a b c:Mp} (h:Ext a b) (k:Ext b c):Ext a c:=fun i m e=>k i m (h i m e)
theorem VR.mono {μ μ':Mp} (h:Ext μ μ') {x y:Value} (r:VR μ x y):VR μ' x y:=by
 induction r with
 | bool b=>exact .bool b
 | int k n=>exact .int k n
 | float k n=>exact .float k n
 | string s=>exact .string s
 | nilFunc=>exact .nilFunc
 | nilIface=>exact .nilIface
 | pnil=>exact .pnil
 | mnil=>exact .mnil
 | snil n c=>exact .snil n c
 | ptr hs hm=>exact .ptr hs (h _ _ hm)
 | sliceE hs hc hm=>exact .sliceE hs hc (h _ _ hm)
 | sliceO hs hm hl hn=>exact .sliceO hs (h _ _ hm) hl hn
 | sliceE0 hs=>exact .sliceE0 hs
 | sliceO0 hs hm hl=>exact .sliceO0 hs (h _ _ hm) hl
 | sliceR hs hm hn=>exact .sliceR hs (h _ _ hm) hn
 | sliceR0 hs=>exact .sliceR0 hs
 | sliceZ hs=>exact .sliceZ hs
 | map hm=>exact .map (h _ _ hm)
 | agg hn _ ih=>exact .agg hn ih
 | tuple hn _ ih=>exact .tuple hn ih
 | func fn hn _ hn' _ ih ih'=>exact .func fn hn ih hn' ih'
 | iface t _ ih=>exact .iface t ih
/-- Rows of values. -/
def VRs (μ:Mp) (xs ys:List Value):Prop:=xs.length=ys.length∧∀ (i:Nat) x y,xs[i]?=some x→ys[i]?=some y→VR μ x y
theorem VRs.nil (μ:Mp):VRs μ [] []:=⟨rfl,fun i x y h=>by simp at h⟩
theorem VRs.cons {μ:Mp} {x y:Value} {xs ys:List Value} (h:VR μ x y) (t:VRs μ xs ys):VRs μ (x::xs) (y::ys):=by
 refine ⟨by simp [t.1],fun i a b ha hb=>?_⟩
 cases i with
 | zero=>simp at ha hb;subst ha;subst hb;exact h
 | succ i=>simp at ha hb;exact t.2 i a b ha hb
theorem VRs.of_cons {μ:Mp} {x:Value} {xs ys:List Value} (h:VRs μ (x::xs) ys):∃ y ys',ys=y::ys'∧VR μ x y∧VRs μ xs ys':=by
 cases ys with
 | nil=>have:=h.1;simp at this
 | cons y ys=>exact ⟨y,ys,rfl,h.2 0 x y rfl rfl,by have:=h.1;simpa using this,fun i a b ha hb=>h.2 (i+1) a b (by simpa using ha) (by simpa using hb)⟩
theorem VRs.of_nil {μ:Mp} {ys:List Value} (h:VRs μ [] ys):ys=[]:=by have:=h.1;simp at this;exact List.length_eq_zero_iff.1 this.symm
theorem VRs.mono {μ μ':Mp} (h:Ext μ μ') {xs ys:List Value} (r:VRs μ xs ys):VRs μ' xs ys:=⟨r.1,fun i x y a b=>(r.2 i x y a b).mono h⟩
theorem VRs.append {μ:Mp} {xs ys xs' ys':List Value} (h:VRs μ xs ys) (h':VRs μ xs' ys'):VRs μ (xs++xs') (ys++ys'):=by
 refine ⟨by simp [h.1,h'.1],fun i a b ha hb=>?_⟩
 rw [List.getElem?_append] at ha hb
 rw [← h.1] at hb
 split at ha
 ·rename_i hi;rw [if_pos hi] at hb;exact h.2 i a b ha hb
 ·rename_i hi;rw [if_neg hi] at hb;exact h'.2 _ a b ha hb
theorem VRs.take {μ:Mp} {xs ys:List Value} (h:VRs μ xs ys) (n:Nat):VRs μ (xs.take n) (ys.take n):=by
 refine ⟨by simp [h.1],fun i a b ha hb=>?_⟩
 rw [List.getElem?_take] at ha hb
 split at ha
 ·rename_i hi;rw [if_pos hi] at hb;exact h.2 i a b ha hb
 ·simp at ha
theorem VRs.drop {μ:Mp} {xs ys:List Value} (h:VRs μ xs ys) (n:Nat):VRs μ (xs.drop n) (ys.drop n):=by
 refine ⟨by simp [h.1],fun i a b ha hb=>?_⟩
 rw [List.getElem?_drop] at ha hb
 exact h.2 _ a b ha hb
/-- Arrays of values. -/
def VRa (μ:Mp) (xs ys:Array Value):Prop:=VRs μ xs.toList ys.toList
theorem VRa.size {μ:Mp} {xs ys:Array Value} (h:VRa μ xs ys):xs.size=ys.size:=by have:=h.1;simpa using this
theorem VRa.at {μ:Mp} {xs ys:Array Value} (h:VRa μ xs ys) (i:Nat) (x y:Value) (a:xs[i]?=some x) (b:ys[i]?=some y):VR μ x y:=h.2 i x y (by simpa using a) (by simpa using b)
theorem VRa.mk {μ:Mp} {xs ys:Array Value} (hn:xs.size=ys.size) (h:∀ (i:Nat) x y,xs[i]?=some x→ys[i]?=some y→VR μ x y):VRa μ xs ys :=
 ⟨by simpa using hn,fun i x y a b=>h i x y (by simpa using a) (by simpa using b)⟩
theorem VR.agg' {μ:Mp} {xs ys:Array Value} (h:VRa μ xs ys):VR μ (.agg xs) (.agg ys):=.agg h.size h.at
theorem VR.tuple' {μ:Mp} {xs ys:Array Value} (h:VRa μ xs ys):VR μ (.tuple xs) (.tuple ys):=.tuple h.size h.at
theorem VR.func' {μ:Mp} (fn:Fn) {xs ys xs' ys':Array Value} (h:VRa μ xs ys) (h':VRa μ xs' ys'):VR μ (.func fn xs xs') (.func fn ys ys'):=.func fn h.size h.at h'.size h'.at
theorem VR.of_agg {μ:Mp} {xs:Array Value} {y:Value} (h:VR μ (.agg xs) y):∃ ys,y=.agg ys∧VRa μ xs ys:=by cases h with | agg hn h=>exact ⟨_,rfl,.mk hn h⟩
theorem VR.of_tuple {μ:Mp} {xs:Array Value} {y:Value} (h:VR μ (.tuple xs) y):∃ ys,y=.tuple ys∧VRa μ xs ys:=by cases h with | tuple hn h=>exact ⟨_,rfl,.mk hn h⟩
theorem VR.undef (μ:Mp):VR μ undef undef:=.tuple rfl (fun i x y h=>by simp at h)
theorem VRs.ext {xs ys:List Value} (hn:xs.length=ys.length) (h:∀ (i:Nat) x y,xs[i]?=some x→ys[i]?=some y→x=y):xs=ys:=by
 apply List.ext_getElem hn
 intro i h1 h2
 exact h i _ _ (List.getElem?_eq_getElem h1) (List.getElem?_eq_getElem h2)
/-- A value with no address in it is itself on both sides. -/
theorem flat_eq {μ:Mp}:∀ (n:Nat) {x y:Value},flat n x=true→VR μ x y→y=x
 | n,x,y,hf,h=>by
  cases h with
  | ptr _ _=>cases n<;>simp [flat] at hf
  | sliceE _ _ _=>cases n<;>simp [flat] at hf
  | sliceO _ _ _ _=>cases n<;>simp [flat] at hf
  | sliceE0 _=>cases n<;>simp [flat] at hf
  | sliceO0 _ _ _=>cases n<;>simp [flat] at hf
  | sliceR _ _ _=>cases n<;>simp [flat] at hf
  | sliceR0 _=>cases n<;>simp [flat] at hf
  | sliceZ _=>cases n<;>simp [flat] at hf
  | map _=>cases n<;>simp [flat] at hf
  | agg hn h =>
   cases n with
   | zero=>simp [flat] at hf
   | succ n =>
    rename_i xs ys
    simp only [flat,List.all_eq_true] at hf
    congr 1
    refine (Array.ext' (VRs.ext (by simpa using hn) fun i a b ha hb=>?_)).symm
    exact (flat_eq n (hf a (List.mem_of_getElem? ha)) (h i a b (by simpa using ha) (by simpa using hb))).symm
  | tuple hn h =>
   cases n with
   | zero=>simp [flat] at hf
   | succ n =>
    rename_i xs ys
    simp only [flat,List.all_eq_true] at hf
    congr 1
    refine (Array.ext' (VRs.ext (by simpa using hn) fun i a b ha hb=>?_)).symm
    exact (flat_eq n (hf a (List.mem_of_getElem? ha)) (h i a b (by simpa using ha) (by simpa using hb))).symm
  | func fn hn h hn' h' =>
   cases n with
   | zero=>simp [flat] at hf
   | succ n =>
    rename_i xs ys xs' ys'
    simp only [flat,Bool.and_eq_true,List.all_eq_true] at hf
    have e1:ys=xs:=(Array.ext' (VRs.ext (by simpa using hn) fun i a b ha hb=>(flat_eq n (hf.1 a (List.mem_of_getElem? ha)) (h i a b (by simpa using ha) (by simpa using hb))).symm)).symm
    have e2:ys'=xs':=(Array.ext' (VRs.ext (by simpa using hn') fun i a b ha hb=>(flat_eq n (hf.2 a (List.mem_of_getElem? ha)) (h' i a b (by simpa using ha) (by simpa using hb))).symm)).symm
    rw [e1,e2]
  | iface t h =>
   cases n with
   | zero=>simp [flat] at hf
   | succ n=>simp only [flat] at hf;rw [flat_eq n hf h]
  | _=>rfl
theorem VR.of_flat (μ:Mp):∀ (n:Nat) {x:Value},flat n x=true→VR μ x x
 | n,x,hf=>by
  cases x with
  | bool b=>exact .bool b
  | int k n=>exact .int k n
  | float k n=>exact .float k n
  | string s=>exact .string s
  | nilFunc=>exact .nilFunc
  | nilIface=>exact .nilIface
  | pointer a=>cases a with | none=>exact .pnil | some a=>cases n<;>simp [flat] at hf
  | map a=>cases a with | none=>exact .mnil | some a=>cases n<;>simp [flat] at hf
  | slice a l c=>cases a with | none=>exact .snil l c | some a=>cases n<;>simp [flat] at hf
  | agg cs =>
   cases n with
   | zero=>simp [flat] at hf
   | succ n =>
    simp only [flat,List.all_eq_true] at hf
    exact .agg rfl fun i a b ha hb=>by rw [ha] at hb;cases hb;exact VR.of_flat μ n (hf a (Array.mem_toList_iff.2 (Array.mem_of_getElem? ha)))
  | tuple cs =>
   cases n with
   | zero=>simp [flat] at hf
   | succ n =>
    simp only [flat,List.all_eq_true] at hf
    exact .tuple rfl fun i a b ha hb=>by rw [ha] at hb;cases hb;exact VR.of_flat μ n (hf a (Array.mem_toList_iff.2 (Array.mem_of_getElem? ha)))
  | func fn a b =>
   cases n with
   | zero=>simp [flat] at hf
   | succ n =>
    simp only [flat,Bool.and_eq_true,List.all_eq_true] at hf
    exact .func fn rfl (fun i a b ha hb=>by rw [ha] at hb;cases hb;exact VR.of_flat μ n (hf.1 a (Array.mem_toList_iff.2 (Array.mem_of_getElem? ha))))
     rfl (fun i a b ha hb=>by rw [ha] at hb;cases hb;exact VR.of_flat μ n (hf.2 a (Array.mem_toList_iff.2 (Array.mem_of_getElem? ha))))
  | iface t v =>
   cases n with
   | zero=>simp [flat] at hf
   | succ n=>simp only [flat] at hf;exact .iface t (VR.of_flat μ n hf)
  | _=>cases n<;>simp [flat] at hf
theorem VR.cells {μ:Mp} {x y:Value} (h:VR μ x y):VRa μ x.cells y.cells:=by
 cases h with
 | agg hn h=>exact .mk hn h
 | _=>refine .mk rfl ?_;intro i a b ha hb;simp only [Value.cells] at ha hb;cases i with
  | zero=>simp at ha hb;subst ha;subst hb;first | exact .bool _ | exact .int _ _ | exact .float _ _ | exact .string _ | exact .nilFunc | exact .nilIface | exact .pnil | exact .mnil | exact .snil _ _ | (apply VR.ptr<;>assumption) | (apply VR.sliceE<;>assumption) | (apply VR.sliceO<;>assumption) | (apply VR.sliceE0<;>assumption) | (apply VR.sliceO0<;>assumption) | (apply VR.sliceR<;>assumption) | (apply VR.sliceR0<;>assumption) | (apply VR.sliceZ<;>assumption) | (apply VR.map;assumption) | (apply VR.tuple<;>assumption) | (apply VR.func<;>assumption) | (apply VR.iface;assumption)
  | succ i=>simp at ha
theorem VR.oneCell {μ:Mp} {x y:Value} (h:VR μ x y):y.oneCell'=x.oneCell':=by cases h<;>rfl
end Go.Proofs.YtmndbhgbngkakaaDoor.E
end
section
/- The evaluator's memory and the model's: what each step keeps. No condition. -/
namespace Go.Proofs.YtmndbhgbngkakaaDoor.E
open Go Go.RowKit
set_option linter.all false

def owner (H:Mem) (i:Nat):Option Nat :=
 match H.obs.get i with
 | some (.blk b)=>if b.ro then none else some b.fam
 | some (.map _ _)=>some i
 | none=>none
structure WF (H:Mem):Prop where
 lt:∀ i o,H.obs.get i=some o→i < H.n
 fam:∀ i b,H.obs.get i=some (.blk b)→b.ro=false→b.fam≤i∧b.gen≤H.gen b.fam∧(b.esz=0→b.fam=i)∧(b.esz≠0→∃ b',H.obs.get b.fam=some (.blk b')∧b'.esz≠0∧b'.ro=false)
 gen:∀ f,H.n≤f→H.gens.get f=none
/-- A row of ours in the model's memory. -/
structure Row (base:Nat) (μ:Mp) (H:Mem) (w:World) (m:MA) (b:Blk):Prop where
 spot:m.at_.spot=none
 e:m.e=b.esz
 room:m.at_.off+b.cells.length≤m.lim
 ro:b.ro=true→(w.heap[m.at_.block]?).isSome=true
 rw:b.ro=false→base≤m.at_.block∧m.at_.off+b.cells.length≤m.lim∧∃ (c:Array Value) (ty:TypeId),w.heap[m.at_.block]?=some (.cells c ty (0,0))∧c.size=m.lim
 cells:b.alive H=true→∀ (j:Nat) v,b.cells[j]?=some v→∃ v',w.cell? (m.addr j)=some v'∧VR μ v v'
structure MRow (base:Nat) (μ:Mp) (w:World) (m:MA) (es:List MapEntry) (c:Nat):Prop where
 base:base≤m.at_.block
 ex:∃ es':Array MapEntry,w.heap[m.at_.block]?=some (.map es' c)∧es.length=es'.size∧∀ (i:Nat) e e',es[i]?=some e→es'[i]?=some e'→VR μ e.key e'.key∧VR μ e.val e'.val∧e.born=e'.born
structure Rl (base:Nat) (μ:Mp) (H:Mem) (w:World):Prop where
 wf:WF H
 bd:base≤w.heap.size
 has:∀ i m,μ i=some m→∃ o,H.obs.get i=some o
 row:∀ i m b,μ i=some m→H.obs.get i=some (.blk b)→Row base μ H w m b
 map:∀ i m es c,μ i=some m→H.obs.get i=some (.map es c)→MRow base μ w m es c
 apart:∀ i j mi mj,μ i=some mi→μ j=some mj→mi.at_.block=mj.at_.block→owner H i=owner H j
/-- What a step has done. -/
structure Stp (base:Nat) (μ:Mp) (H:Mem) (w:World) (μ':Mp) (H':Mem) (w':World):Prop where
 rl:Rl base μ' H' w'
 ext:Ext μ μ'
 new:∀ i m,μ' i=some m→μ i=none→H.n≤i∧(w.heap.size≤m.at_.block∨∃ j mj,μ j=some mj∧mj.at_.block=m.at_.block∧owner H j=owner H' i)
 n:H.n≤H'.n
 own:∀ i,i < H.n→owner H' i=owner H i
 obs:∀ i,i < H.n→(∀ f,owner H i=some f→f < H'.low)→H'.obs.get i=H.obs.get i
 gens:∀ f,f < H.n→f < H'.low→H'.gens.get f=H.gens.get f
 low:H'.low≤H.low
 foot:∀ B,B < w.heap.size→(∀ i m,μ i=some m→m.at_.block=B→∀ f,owner H i=some f→f < H'.low)→w'.heap[B]?=w.heap[B]?
 os:w'.os=w.os
 tape:w'.tape=w.tape
 out:w'.output=w.output
 size:w.heap.size≤w'.heap.size
section
variable {base:Nat} {μ μ' μ'':Mp} {H H' H'':Mem} {w w' w'':World}
theorem Rl.lt (R:Rl base μ H w) {i:Nat} {m:MA} (h:μ i=some m):i < H.n:=by obtain ⟨o,ho⟩:=R.has i m h;exact R.wf.lt i o ho
theorem owner_lt (W:WF H) {i f:Nat} (h:owner H i=some f):f≤i∧i < H.n:=by
 unfold owner at h
 split at h
 ·rename_i b hb
  split at h
  ·cases h
  ·rename_i hr;simp at hr;cases h;exact ⟨(W.fam i b hb hr).1,W.lt _ _ hb⟩
 ·rename_i es c hm;cases h;exact ⟨Nat.le_refl _,W.lt _ _ hm⟩
 ·cases h
theorem Stp.refl (R:Rl base μ H w):Stp base μ H w μ H w :=
 ⟨R,.refl μ,(fun i m h h'=>by rw [h] at h';cases h'),Nat.le_refl _,(fun _ _=>rfl),(fun _ _ _=>rfl),(fun _ _ _=>rfl),Nat.le_refl _,(fun _ _ _=>rfl),rfl,rfl,rfl,Nat.le_refl _⟩
theorem Stp.trans (R:Rl base μ H w) (S:Stp base μ H w μ' H' w') (K:Stp base μ' H' w' μ'' H'' w''):Stp base μ H w μ'' H'' w'':=by
 refine ⟨K.rl,S.ext.trans K.ext,fun i m h h0=>?_,Nat.le_trans S.n K.n,fun i hi=>(K.own i (Nat.lt_of_lt_of_le hi S.n)).trans (S.own i hi),fun i hi hf=>?_,fun f hf hl=>?_,Nat.le_trans K.low S.low,fun B hB hf=>?_,
  K.os.trans S.os,K.tape.trans S.tape,K.out.trans S.out,Nat.le_trans S.size K.size⟩
 ·cases h1:μ' i with
  | some m1 =>
   have e:=K.ext i m1 h1
   rw [h] at e;cases e
   obtain ⟨a,b⟩:=S.new i m h1 h0
   exact ⟨a,b.imp id fun ⟨j,mj,hj,hb,ho⟩=>⟨j,mj,hj,hb,ho.trans (K.own i (S.rl.lt h1)).symm⟩⟩
  | none =>
   obtain ⟨a,b⟩:=K.new i m h h1
   refine ⟨Nat.le_trans S.n a,?_⟩
   rcases b with b | ⟨j,mj,hj,hb,ho⟩
   ·exact .inl (Nat.le_trans S.size b)
   ·cases h2:μ j with
    | some m2 =>
     have e:=S.ext j m2 h2
     rw [hj] at e;cases e
     exact .inr ⟨j,mj,h2,hb,by rw [← S.own j (R.lt h2)];exact ho⟩
    | none =>
     obtain ⟨a',b'⟩:=S.new j mj hj h2
     rcases b' with b' | ⟨k,mk,hk,hbk,hok⟩
     ·exact .inl (hb▸b')
     ·exact .inr ⟨k,mk,hk,hbk.trans hb,hok.trans ho⟩
 ·rw [K.obs i (Nat.lt_of_lt_of_le hi S.n) (fun f hf'=>hf f (by rw [← S.own i hi];exact hf')),S.obs i hi (fun f hf'=>Nat.lt_of_lt_of_le (hf f hf') K.low)]
 ·rw [K.gens f (Nat.lt_of_lt_of_le hf S.n) hl,S.gens f hf (Nat.lt_of_lt_of_le hl K.low)]
 ·rw [K.foot B (Nat.lt_of_lt_of_le hB S.size) (fun i m hm hb f ho=>?_),S.foot B hB (fun i m hm hb f ho=>Nat.lt_of_lt_of_le (hf i m hm hb f ho) K.low)]
  cases h1:μ i with
  | some m1 =>
   have e:=S.ext i m1 h1
   rw [hm] at e;cases e
   exact hf i m h1 hb f (by rw [← S.own i (R.lt h1)];exact ho)
  | none =>
   obtain ⟨a,b⟩:=S.new i m hm h1
   rcases b with b | ⟨j,mj,hj,hbj,ho'⟩
   ·omega
   ·exact hf j mj hj (hbj.trans hb) f (ho'.trans ho)
/-! ### New rows -/
def upd (μ:Mp) (i:Nat) (m:MA):Mp:=fun j=>if j=i then some m else μ j
theorem upd_same (μ:Mp) (i:Nat) (m:MA):upd μ i m i=some m:=if_pos rfl
theorem upd_ne (μ:Mp) {i j:Nat} (m:MA) (h:j≠i):upd μ i m j=μ j:=if_neg h
theorem Rl.ext_upd (R:Rl base μ H w) (m:MA):Ext μ (upd μ H.n m):=fun i m' h=>by rw [upd_ne μ m (fun e=>by have:=R.lt h;omega)];exact h
theorem heap_push_lt (w:World) (o:Obj) {k:Nat} (h:k < w.heap.size):(w.alloc o).heap[k]?=w.heap[k]?:=Below.heap_alloc w o k h
theorem heap_push_new (w:World) (o:Obj):(w.alloc o).heap[w.heap.size]?=some o:=by show (w.heap.push o)[w.heap.size]?=_;simp
/-- A row in a world of which the block is as it was. -/
theorem Row.keep {m:MA} {b:Blk} (r:Row base μ H w m b) (he:Ext μ μ') (ha:b.alive H'=true→b.alive H=true) (hb:w'.heap[m.at_.block]?=w.heap[m.at_.block]?):Row base μ' H' w' m b:=by
 refine ⟨r.spot,r.e,r.room,fun h=>by rw [hb];exact r.ro h,fun h=>?_,fun h j v hv=>?_⟩
 ·rw [hb];exact r.rw h
 ·obtain ⟨v',h1,h2⟩:=r.cells (ha h) j v hv
  exact ⟨v',by rw [← h1];exact World.cell?_of_block (w:=w) hb,h2.mono he⟩
theorem MRow.keep {m:MA} {es:List MapEntry} {c:Nat} (r:MRow base μ w m es c) (he:Ext μ μ') (hb:w'.heap[m.at_.block]?=w.heap[m.at_.block]?):MRow base μ' w' m es c:=by
 obtain ⟨es',h1,h2,h3⟩:=r.ex
 refine ⟨r.base,es',by rw [hb];exact h1,h2,fun i e e' a b=>?_⟩
 obtain ⟨x,y,z⟩:=h3 i e e' a b
 exact ⟨x.mono he,y.mono he,z⟩
/-- The block of a row that is mapped is there. -/
theorem Rl.blk_lt (R:Rl base μ H w) {i:Nat} {m:MA} (h:μ i=some m):m.at_.block < w.heap.size:=by
 obtain ⟨o,ho⟩:=R.has i m h
 cases o with
 | blk b =>
  have r:=R.row i m b h ho
  cases hr:b.ro with
  | true=>obtain ⟨o,ho⟩:=Option.isSome_iff_exists.1 (r.ro hr);exact (Array.getElem?_eq_some_iff.1 ho).1
  | false=>obtain ⟨_,_,c,ty,hc,_⟩:=r.rw hr;exact (Array.getElem?_eq_some_iff.1 hc).1
 | map es c=>obtain ⟨es',hc,_⟩:=(R.map i m es c h ho).ex;exact (Array.getElem?_eq_some_iff.1 hc).1
theorem WF.new (W:WF H) (cs:List Value) (e:Nat):WF (H.new cs e):=by
 have hget:∀ i,(H.new cs e).obs.get i=if H.n=i then some (.blk ⟨cs,e,H.n,0,false⟩) else H.obs.get i:=fun i=>Tr.get_set _ _ _ _
 refine ⟨fun i o h=>?_,fun i b h hr=>?_,fun f h=>W.gen f (Nat.le_of_succ_le h)⟩
 ·rw [hget] at h
  show i < H.n+1
  split at h
  ·omega
  ·have:=W.lt i o h;omega
 ·rw [hget] at h
  split at h
  ·rename_i hi
   cases h
   refine ⟨by simp [hi],by simp,by simp [hi],fun he=>⟨_,by rw [hget];exact if_pos rfl,he,rfl⟩⟩
  ·obtain ⟨a,b1,c,d⟩:=W.fam i b h hr
   refine ⟨a,b1,c,fun he=>?_⟩
   obtain ⟨b',hb',x⟩:=d he
   exact ⟨b',by rw [hget,if_neg (by have:=W.lt _ _ hb';omega)];exact hb',x⟩
theorem owner_of {H H':Mem} {i:Nat} (h:H'.obs.get i=H.obs.get i):owner H' i=owner H i:=by unfold owner;rw [h]
theorem owner_blk {H:Mem} {i:Nat} {b:Blk} (h:H.obs.get i=some (.blk b)):owner H i=if b.ro then none else some b.fam:=by unfold owner;rw [h]
theorem owner_map {H:Mem} {i:Nat} {es:List MapEntry} {c:Nat} (h:H.obs.get i=some (.map es c)):owner H i=some i:=by unfold owner;rw [h]
theorem owner_new (H:Mem) (cs:List Value) (e i:Nat):owner (H.new cs e) i=if H.n=i then some H.n else owner H i:=by
 have hget:(H.new cs e).obs.get i=if H.n=i then some (.blk ⟨cs,e,H.n,0,false⟩) else H.obs.get i:=Tr.get_set _ _ _ _
 split
 ·rename_i h;rw [if_pos h] at hget;rw [owner_blk hget];rfl
 ·rename_i h;rw [if_neg h] at hget;exact owner_of hget
/-- A new row, of which the model's may be longer. -/
theorem Rl.new (R:Rl base μ H w) {cs cs':List Value} (e:Nat) (ty:TypeId) (more:List Value) (hv:VRs μ cs cs') :
  Stp base μ H w (upd μ H.n ⟨⟨w.heap.size,0,none⟩,(cs'++more).length,e⟩) (H.new cs e) (w.alloc (.cells (cs'++more).toArray ty (0,0))):=by
 have hx:=R.ext_upd ⟨⟨w.heap.size,0,none⟩,(cs'++more).length,e⟩
 have hget:∀ i,(H.new cs e).obs.get i=if H.n=i then some (.blk ⟨cs,e,H.n,0,false⟩) else H.obs.get i:=fun i=>Tr.get_set _ _ _ _
 refine ⟨⟨R.wf.new cs e,by simp;have:=R.bd;omega,fun i m h=>?_,fun i m b h ho=>?_,fun i m es c h ho=>?_,fun i j mi mj hi hj hb=>?_⟩,hx,fun i m h h0=>?_,Nat.le_succ _,fun i hi=>?_,fun i hi _=>?_,fun f _ _=>rfl,Nat.le_refl _,fun B hB _=>heap_push_lt _ _ hB,rfl,rfl,rfl,by simp⟩
 ·by_cases hi:i=H.n
  ·subst hi;exact ⟨_,(hget _).trans (if_pos rfl)⟩
  ·rw [upd_ne μ _ hi] at h
   obtain ⟨o,ho⟩:=R.has i m h
   exact ⟨o,by rw [hget,if_neg (Ne.symm hi)];exact ho⟩
 ·by_cases hi:i=H.n
  ·subst hi
   rw [upd_same] at h;cases h
   rw [hget,if_pos rfl] at ho;cases ho
   refine ⟨rfl,rfl,by simp [hv.1],fun h=>by simp at h,fun _=>⟨R.bd,by simp [hv.1],_,ty,heap_push_new _ _,by simp⟩,fun _ j v hj=>?_⟩
   have hl:j < cs'.length:=by have:=(List.getElem?_eq_some_iff.1 hj).1;rw [← hv.1];exact this
   refine ⟨cs'[j],?_,(hv.2 j v _ hj (List.getElem?_eq_getElem hl)).mono hx⟩
   show (w.alloc _).cell? ⟨w.heap.size,0+j,none⟩=_
   rw [Nat.zero_add,World.cell?_alloc_new]
   simp [List.getElem?_append_left hl,hl]
  ·rw [upd_ne μ _ hi] at h
   rw [hget,if_neg (Ne.symm hi)] at ho
   exact (R.row i m b h ho).keep hx (fun h=>h) (heap_push_lt _ _ (R.blk_lt h))
 ·by_cases hi:i=H.n
  ·subst hi;rw [hget,if_pos rfl] at ho;cases ho
  ·rw [upd_ne μ _ hi] at h
   rw [hget,if_neg (Ne.symm hi)] at ho
   exact (R.map i m es c h ho).keep hx (heap_push_lt _ _ (R.blk_lt h))
 ·rw [owner_new,owner_new]
  by_cases h1:i=H.n
  ·by_cases h2:j=H.n
   ·rw [h1,h2]
   ·rw [h1,upd_same] at hi;cases hi
    rw [upd_ne μ _ h2] at hj
    have:=R.blk_lt hj
    simp at hb;omega
  ·by_cases h2:j=H.n
   ·rw [h2,upd_same] at hj;cases hj
    rw [upd_ne μ _ h1] at hi
    have:=R.blk_lt hi
    simp at hb;omega
   ·rw [if_neg (Ne.symm h1),if_neg (Ne.symm h2)]
    rw [upd_ne μ _ h1] at hi
    rw [upd_ne μ _ h2] at hj
    exact R.apart i j mi mj hi hj hb
 ·by_cases hi:i=H.n
  ·subst hi;rw [upd_same] at h;cases h;exact ⟨Nat.le_refl _,.inl (Nat.le_refl _)⟩
  ·rw [upd_ne μ _ hi,h0] at h;cases h
 ·rw [owner_new,if_neg (by omega)]
 ·rw [hget,if_neg (by omega)]
/-! ### A row is written -/
theorem live_some {i:Nat} {b:Blk} (h:H.live i=some b):H.obs.get i=some (.blk b)∧b.alive H=true:=by
 unfold Mem.live at h
 split at h
 ·rename_i b' hb
  split at h
  ·rename_i ha;cases h;exact ⟨hb,ha⟩
  ·cases h
 ·cases h
theorem live_of {i:Nat} {b:Blk} (h:H.obs.get i=some (.blk b)) (ha:b.alive H=true):H.live i=some b:=by unfold Mem.live;rw [h];simp [ha]
theorem alive_gen {b:Blk} (h:b.alive H=true) (hr:b.ro=false):b.gen=H.gen b.fam:=by simpa [Blk.alive,hr] using h
theorem WF.same_fam (W:WF H) {i j:Nat} {b c:Blk} (hi:H.obs.get i=some (.blk b)) (hj:H.obs.get j=some (.blk c)) (rb:b.ro=false) (rc:c.ro=false) (hf:c.fam=b.fam) (he:b.esz=0):j=i:=by
 obtain ⟨_,_,a,_⟩:=W.fam i b hi rb
 obtain ⟨_,_,x,y⟩:=W.fam j c hj rc
 by_cases h0:c.esz=0
 ·rw [← x h0,hf,a he]
 ·obtain ⟨b',hb',hne,_⟩:=y h0
  rw [hf,a he,hi] at hb'
  cases hb'
  exact absurd he hne
theorem put_get (H:Mem) (i:Nat) (b:Blk) (cs:List Value) (j:Nat):(H.put i b cs).obs.get j=if i=j then some (.blk { b with cells:=cs,gen:=if b.esz=0 then b.gen else H.gen b.fam+1 }) else H.obs.get j:=by
 unfold Mem.put;split<;>simp only [Tr.get_set]
theorem put_gen (H:Mem) (i:Nat) (b:Blk) (cs:List Value) (f:Nat):(H.put i b cs).gen f=if b.esz≠0∧b.fam=f then H.gen b.fam+1 else H.gen f:=by
 unfold Mem.put
 by_cases h:b.esz=0
 ·simp [h,Mem.gen]
 ·simp only [h,if_false,not_false_eq_true,true_and,ne_eq]
  by_cases hf:b.fam=f<;>simp [Mem.gen,Tr.get_set,hf]
theorem owner_put {i:Nat} {b:Blk} (h:H.obs.get i=some (.blk b)) (cs:List Value) (j:Nat):owner (H.put i b cs) j=owner H j:=by
 have hg:=put_get H i b cs j
 by_cases e:i=j
 ·subst e;rw [if_pos rfl] at hg;rw [owner_blk hg,owner_blk h]
 ·rw [if_neg e] at hg;exact owner_of hg
theorem WF.put (W:WF H) {i:Nat} {b:Blk} (h:H.obs.get i=some (.blk b)) (hr:b.ro=false) (ha:b.alive H=true) (cs:List Value):WF (H.put i b cs):=by
 have hn:(H.put i b cs).n=H.n:=by unfold Mem.put;split<;>rfl
 have hb:=W.fam i b h hr
 refine ⟨fun j o hj=>?_,fun j c hj hc=>?_,fun f hf=>?_⟩
 ·rw [put_get] at hj
  rw [hn]
  split at hj
  ·rename_i e;exact e▸W.lt i _ h
  ·exact W.lt j o hj
 ·rw [put_get] at hj
  have key:∀ f b',H.obs.get f=some (.blk b')→b'.esz≠0→b'.ro=false→∃ b'',(H.put i b cs).obs.get f=some (.blk b'')∧b''.esz≠0∧b''.ro=false:=fun f b' hf he hr'=>by
   rw [put_get]
   split
   ·rename_i e;subst e;rw [h] at hf;cases hf;exact ⟨_,rfl,he,hr'⟩
   ·exact ⟨b',hf,he,hr'⟩
  split at hj
  ·rename_i e
   subst e
   cases hj
   refine ⟨hb.1,?_,hb.2.2.1,fun he=>?_⟩
   ·rw [put_gen]
    by_cases h0:b.esz=0
    ·simp [h0];exact hb.2.1
    ·simp [h0]
   ·obtain ⟨b',h1,h2,h3⟩:=hb.2.2.2 he;exact key _ b' h1 h2 h3
  ·obtain ⟨a1,a2,a3,a4⟩:=W.fam j c hj hc
   refine ⟨a1,?_,a3,fun he=>?_⟩
   ·rw [put_gen]
    split
    ·rename_i hh;rw [← hh.2] at a2;omega
    ·exact a2
   ·obtain ⟨b',h1,h2,h3⟩:=a4 he;exact key _ b' h1 h2 h3
 ·rw [hn] at hf
  unfold Mem.put
  split
  ·exact W.gen f hf
  ·show (H.gens.set b.fam _).get f=none
   rw [Tr.get_set,if_neg (by have:=W.lt i _ h;omega)]
   exact W.gen f hf
theorem Rl.put (R:Rl base μ H w) {i:Nat} {m:MA} {b:Blk} (hm:μ i=some m) (hl:H.live i=some b) (hr:b.ro=false) {cs:List Value} (hn:cs.length=b.cells.length)
  {c:Array Value} {ty:TypeId} (hc:w.heap[m.at_.block]?=some (.cells c ty (0,0))) {c':Array Value} (hs:c'.size=c.size)
  (hv:∀ (j:Nat) v,cs[j]?=some v→∃ v',c'[m.at_.off+j]?=some v'∧VR μ v v') :
  Stp base μ H w μ (H.put i b cs) (w.setRow m.at_.block c'):=by
 obtain ⟨ho,ha⟩:=live_some hl
 have hi:=R.row i m b hm ho
 have hown:owner H i=some b.fam:=by rw [owner_blk ho,hr];rfl
 have hnn:(H.put i b cs).n=H.n:=by unfold Mem.put;split<;>rfl
 have hlow:(H.put i b cs).low=min H.low b.fam:=by unfold Mem.put;split<;>rfl
 have hsame:(w.setRow m.at_.block c').heap[m.at_.block]?=some (.cells c' ty (0,0)):=setRow_heap w _ _ _ _ _ hc
 refine ⟨⟨R.wf.put ho hr ha cs,by rw [setRow_size];exact R.bd,fun j mj h=>?_,fun j mj bj h hj=>?_,fun j mj es cl h hj=>?_,fun j k mj mk h1 h2 hb=>?_⟩,.refl μ,(fun j mj h h0=>by rw [h] at h0;cases h0),
  by rw [hnn];exact Nat.le_refl _,fun j hj=>owner_put ho cs j,fun j hj hf=>?_,fun f hf hfl=>?_,by rw [hlow];omega,fun B hB hf=>?_,setRow_os _ _ _,setRow_tape _ _ _,setRow_output _ _ _,by rw [setRow_size];exact Nat.le_refl _⟩
 ·obtain ⟨o,hoj⟩:=R.has j mj h
  rw [put_get]
  split
  ·exact ⟨_,rfl⟩
  ·exact ⟨o,hoj⟩
 ·rw [put_get] at hj
  by_cases e:i=j
  ·subst e
   rw [if_pos rfl] at hj
   cases hj
   rw [hm] at h;cases h
   obtain ⟨x1,x2,c0,ty0,x3,x4⟩:=hi.rw hr
   rw [hc] at x3;cases x3
   refine ⟨hi.spot,hi.e,by simpa [hn] using x2,fun hh=>absurd hh (by simp [hr]),fun _=>⟨x1,by simpa [hn] using x2,c',ty,hsame,by rw [hs,x4]⟩,fun _ q v hq=>?_⟩
   obtain ⟨v',h1,h2⟩:=hv q v hq
   exact ⟨v',by show World.cell? _ ⟨m.at_.block,m.at_.off+q,none⟩=_;rw [cell_setRow_same w _ _ _ _ _ _ hc];exact h1,h2⟩
  ·rw [if_neg e] at hj
   have r:=R.row j mj bj h hj
   by_cases hB:mj.at_.block=m.at_.block
   ·have hoo:=R.apart j i mj m h hm hB
    rw [hown,owner_blk hj] at hoo
    have hrj:bj.ro=false:=by cases hx:bj.ro with | false=>rfl | true=>simp [hx] at hoo
    simp only [hrj,Bool.false_eq_true,if_false,Option.some.injEq] at hoo
    have he:b.esz≠0:=fun h0=>e (R.wf.same_fam ho hj hr hrj hoo h0).symm
    obtain ⟨x1,x2,c0,ty0,x3,x4⟩:=r.rw hrj
    rw [hB,hc] at x3;cases x3
    refine ⟨r.spot,r.e,r.room,fun h=>absurd h (by simp [hrj]),fun _=>⟨x1,x2,c',ty,by rw [hB];exact hsame,by rw [hs,x4]⟩,fun hal=>?_⟩
    have g1:=alive_gen hal hrj
    have g2:=(R.wf.fam j bj hj hrj).2.1
    rw [put_gen,if_pos ⟨he,hoo.symm⟩] at g1
    rw [hoo] at g2
    omega
   ·exact r.keep (.refl μ) (fun hal=>by
     cases hrj:bj.ro with
     | true=>simp [Blk.alive,hrj]
     | false =>
      have g:=alive_gen hal hrj
      rw [put_gen] at g
      split at g
      ·rename_i hh
       have:=(R.wf.fam j bj hj hrj).2.1
       rw [← hh.2] at this
       omega
      ·simp [Blk.alive,hrj,g]) (setRow_other w _ _ _ hB)
 ·rw [put_get] at hj
  by_cases e:i=j
  ·subst e;rw [if_pos rfl] at hj;cases hj
  ·rw [if_neg e] at hj
   refine (R.map j mj es cl h hj).keep (.refl μ) (setRow_other w _ _ _ fun hB=>?_)
   obtain ⟨es',hx,_⟩:=(R.map j mj es cl h hj).ex
   rw [hB,hc] at hx
   cases hx
 ·rw [owner_put ho,owner_put ho];exact R.apart j k mj mk h1 h2 hb
 ·rw [put_get,if_neg]
  intro e
  subst e
  have:=hf b.fam hown
  rw [hlow] at this
  omega
 ·rw [hlow] at hfl
  unfold Mem.put
  split
  ·rfl
  ·exact Tr.get_set_ne _ _ (by omega)
 ·refine setRow_other w _ _ _ fun e=>?_
  have:=hf i m hm e.symm b.fam hown
  rw [hlow] at this
  omega
/-! ### A row grows -/
theorem grow_get (H:Mem) (i:Nat) (b:Blk) (keep:Bool) (cs:List Value) (j:Nat):(H.grow i b keep cs).obs.get j =
  if H.n=j then some (.blk ⟨cs,b.esz,b.fam,H.gen b.fam+1,false⟩) else if keep=true∧i=j then some (.blk { b with gen:=H.gen b.fam+1 }) else H.obs.get j:=by
 unfold Mem.grow
 simp only [Tr.get_set]
 split
 ·rfl
 ·cases keep
  ·simp
  ·simp [Tr.get_set]
theorem grow_gen (H:Mem) (i:Nat) (b:Blk) (keep:Bool) (cs:List Value) (f:Nat):(H.grow i b keep cs).gen f=if b.fam=f then H.gen b.fam+1 else H.gen f:=by
 unfold Mem.grow Mem.gen
 simp only [Tr.get_set]
 split<;>rfl
theorem owner_grow {i:Nat} {b:Blk} (h:H.obs.get i=some (.blk b)) (hr:b.ro=false) (keep:Bool) (cs:List Value) (j:Nat):owner (H.grow i b keep cs) j=if H.n=j then some b.fam else owner H j:=by
 have hg:=grow_get H i b keep cs j
 by_cases e:H.n=j
 ·rw [if_pos e] at hg;rw [owner_blk hg,if_pos e];rfl
 ·rw [if_neg e] at hg
  rw [if_neg e]
  by_cases k:keep=true∧i=j
  ·rw [if_pos k] at hg;rw [owner_blk hg,← k.2,owner_blk h]
  ·rw [if_neg k] at hg;exact owner_of hg
theorem WF.grow (W:WF H) {i:Nat} {b:Blk} (h:H.obs.get i=some (.blk b)) (hr:b.ro=false) (he:b.esz≠0) (keep:Bool) (cs:List Value):WF (H.grow i b keep cs):=by
 have hb:=W.fam i b h hr
 have hi:=W.lt i _ h
 have key:∀ f b',H.obs.get f=some (.blk b')→b'.esz≠0→b'.ro=false→∃ b'',(H.grow i b keep cs).obs.get f=some (.blk b'')∧b''.esz≠0∧b''.ro=false:=fun f b' hf he hr'=>by
  rw [grow_get,if_neg (by have:=W.lt _ _ hf;omega)]
  split
  ·rename_i e;rw [← e.2,h] at hf;cases hf;exact ⟨_,rfl,he,hr'⟩
  ·exact ⟨b',hf,he,hr'⟩
 refine ⟨fun j o hj=>?_,fun j c hj hc=>?_,fun f hf=>?_⟩
 ·show j < H.n+1
  rw [grow_get] at hj
  split at hj
  ·omega
  ·split at hj
   ·omega
   ·have:=W.lt j o hj;omega
 ·rw [grow_get] at hj
  split at hj
  ·rename_i e
   cases hj
   refine ⟨by show b.fam≤j;omega,by rw [grow_gen];simp,fun h0=>absurd h0 he,fun _=>?_⟩
   obtain ⟨b',h1,h2,h3⟩:=hb.2.2.2 he;exact key _ b' h1 h2 h3
  ·split at hj
   ·rename_i _ e
    cases hj
    refine ⟨e.2▸hb.1,by rw [grow_gen];simp,fun h0=>absurd h0 he,fun _=>?_⟩
    obtain ⟨b',h1,h2,h3⟩:=hb.2.2.2 he;exact key _ b' h1 h2 h3
   ·obtain ⟨a1,a2,a3,a4⟩:=W.fam j c hj hc
    refine ⟨a1,?_,a3,fun he=>?_⟩
    ·rw [grow_gen]
     split
     ·rename_i hh;rw [← hh] at a2;omega
     ·exact a2
    ·obtain ⟨b',h1,h2,h3⟩:=a4 he;exact key _ b' h1 h2 h3
 ·have hf:H.n+1≤f:=hf
  show (H.gens.set b.fam _).get f=none
  rw [Tr.get_set,if_neg (by omega)]
  exact W.gen f (by omega)
/-- The row's own block may have been written beyond what it holds; the new row lies there, or in a new block. -/
theorem Rl.grow (R:Rl base μ H w) {i:Nat} {m:MA} {b:Blk} (hm:μ i=some m) (hl:H.live i=some b) (hr:b.ro=false) (he:b.esz≠0) (keep:Bool) {cs:List Value}
  {c:Array Value} {ty:TypeId} (hc:w.heap[m.at_.block]?=some (.cells c ty (0,0))) {c':Array Value} (hs:c'.size=c.size)
  (hw:∀ k,k < w.heap.size→k≠m.at_.block→w'.heap[k]?=w.heap[k]?) (hw':w'.heap[m.at_.block]?=some (.cells c' ty (0,0))) (hsz:w.heap.size≤w'.heap.size) (hos:w'.os=w.os) (htp:w'.tape=w.tape) (hout:w'.output=w.output)
  (hkeep:keep=true→∀ (j:Nat) v,b.cells[j]?=some v→∃ v',c'[m.at_.off+j]?=some v'∧VR μ v v')
  {mn:MA} (ns:mn.at_.spot=none) (ne:mn.e=b.esz) {cn:Array Value} {tn:TypeId} (nc:w'.heap[mn.at_.block]?=some (.cells cn tn (0,0))) (nl:cn.size=mn.lim) (nf:mn.at_.off+cs.length≤mn.lim)
  (nb:mn.at_.block=m.at_.block∨w.heap.size≤mn.at_.block) (hv:∀ (j:Nat) v,cs[j]?=some v→∃ v',cn[mn.at_.off+j]?=some v'∧VR μ v v') :
  Stp base μ H w (upd μ H.n mn) (H.grow i b keep cs) w':=by
 obtain ⟨ho,ha⟩:=live_some hl
 have hi:=R.row i m b hm ho
 have hiB:=R.blk_lt hm
 have hil:=R.lt hm
 have hown:owner H i=some b.fam:=by rw [owner_blk ho,hr];rfl
 have hx:=R.ext_upd mn
 have hlow:(H.grow i b keep cs).low=min H.low b.fam:=rfl
 have hbb:base≤mn.at_.block:=by
  obtain ⟨x1,_⟩:=hi.rw hr
  have:=R.bd
  rcases nb with e | e
  ·rw [e];exact x1
  ·omega
 refine ⟨⟨R.wf.grow ho hr he keep cs,Nat.le_trans R.bd hsz,fun j mj h=>?_,fun j mj bj h hj=>?_,fun j mj es cl h hj=>?_,fun j k mj mk h1 h2 hb=>?_⟩,hx,fun j mj h h0=>?_,
  Nat.le_succ _,fun j hj=>by rw [owner_grow ho hr,if_neg (by omega)],fun j hj hf=>?_,fun f hf hfl=>?_,by rw [hlow];omega,fun B hB hf=>?_,hos,htp,hout,hsz⟩
 ·rw [grow_get]
  split
  ·exact ⟨_,rfl⟩
  ·rename_i e
   rw [upd_ne μ _ (Ne.symm e)] at h
   obtain ⟨o,hoj⟩:=R.has j mj h
   split
   ·exact ⟨_,rfl⟩
   ·exact ⟨o,hoj⟩
 ·by_cases e:H.n=j
  ·subst e
   rw [upd_same] at h;cases h
   rw [grow_get,if_pos rfl] at hj;cases hj
   refine ⟨ns,ne,nf,fun h=>by simp at h,fun _=>⟨hbb,nf,cn,tn,nc,nl⟩,fun _ q v hq=>?_⟩
   obtain ⟨v',h1,h2⟩:=hv q v hq
   exact ⟨v',by show World.cell? _ ⟨_,_,none⟩=_;simp only [World.cell?,nc];simpa using h1,h2.mono hx⟩
  ·rw [upd_ne μ _ (Ne.symm e)] at h
   rw [grow_get,if_neg e] at hj
   by_cases k:keep=true∧i=j
   ·rw [if_pos k] at hj
    obtain ⟨k1,rfl⟩:=k
    cases hj
    rw [hm] at h;cases h
    obtain ⟨x1,x2,c0,ty0,x3,x4⟩:=hi.rw hr
    rw [hc] at x3;cases x3
    refine ⟨hi.spot,hi.e,hi.room,fun hh=>absurd hh (by simp [hr]),fun _=>⟨x1,x2,c',ty,hw',by rw [hs,x4]⟩,fun _ q v hq=>?_⟩
    obtain ⟨v',h1,h2⟩:=hkeep k1 q v hq
    exact ⟨v',by show World.cell? _ ⟨_,_,none⟩=_;simp only [World.cell?,hw'];simpa using h1,h2.mono hx⟩
   ·rw [if_neg k] at hj
    have r:=R.row j mj bj h hj
    by_cases hB:mj.at_.block=m.at_.block
    ·have hoo:=R.apart j i mj m h hm hB
     rw [hown,owner_blk hj] at hoo
     have hrj:bj.ro=false:=by cases hx:bj.ro with | false=>rfl | true=>simp [hx] at hoo
     simp only [hrj,Bool.false_eq_true,if_false,Option.some.injEq] at hoo
     obtain ⟨x1,x2,c0,ty0,x3,x4⟩:=r.rw hrj
     rw [hB,hc] at x3;cases x3
     refine ⟨r.spot,r.e,r.room,fun h=>absurd h (by simp [hrj]),fun _=>⟨x1,x2,c',ty,by rw [hB];exact hw',by rw [hs,x4]⟩,fun hal=>?_⟩
     have g1:=alive_gen hal hrj
     have g2:=(R.wf.fam j bj hj hrj).2.1
     rw [grow_gen,if_pos hoo.symm] at g1
     rw [hoo] at g2
     omega
    ·exact r.keep hx (fun hal=>by
      cases hrj:bj.ro with
      | true=>simp [Blk.alive,hrj]
      | false =>
       have g:=alive_gen hal hrj
       rw [grow_gen] at g
       split at g
       ·rename_i hh
        have:=(R.wf.fam j bj hj hrj).2.1
        rw [← hh] at this
        omega
       ·simp [Blk.alive,hrj,g]) (hw _ (R.blk_lt h) hB)
 ·by_cases e:H.n=j
  ·subst e;rw [grow_get,if_pos rfl] at hj;cases hj
  ·rw [upd_ne μ _ (Ne.symm e)] at h
   rw [grow_get,if_neg e] at hj
   by_cases k:keep=true∧i=j
   ·rw [if_pos k] at hj;cases hj
   ·rw [if_neg k] at hj
    refine (R.map j mj es cl h hj).keep hx (hw _ (R.blk_lt h) fun hB=>?_)
    obtain ⟨es',hx,_⟩:=(R.map j mj es cl h hj).ex
    rw [hB,hc] at hx
    cases hx
 ·rw [owner_grow ho hr,owner_grow ho hr]
  have old:∀ q mq,μ q=some mq→mq.at_.block=mn.at_.block→owner H q=some b.fam:=fun q mq hq hb=>by
   rcases nb with e | e
   ·rw [← hown];exact R.apart q i mq m hq hm (hb.trans e)
   ·have:=R.blk_lt hq;omega
  by_cases h1':H.n=j
  ·by_cases h2':H.n=k
   ·rw [if_pos h1',if_pos h2']
   ·rw [if_pos h1',if_neg h2']
    subst h1'
    rw [upd_same] at h1;cases h1
    rw [upd_ne μ _ (Ne.symm h2')] at h2
    exact (old k mk h2 hb.symm).symm
  ·by_cases h2':H.n=k
   ·rw [if_neg h1',if_pos h2']
    subst h2'
    rw [upd_same] at h2;cases h2
    rw [upd_ne μ _ (Ne.symm h1')] at h1
    exact old j mj h1 hb
   ·rw [if_neg h1',if_neg h2']
    rw [upd_ne μ _ (Ne.symm h1')] at h1
    rw [upd_ne μ _ (Ne.symm h2')] at h2
    exact R.apart j k mj mk h1 h2 hb
 ·by_cases e:j=H.n
  ·subst e
   rw [upd_same] at h;cases h
   refine ⟨Nat.le_refl _,?_⟩
   rcases nb with nb | nb
   ·exact .inr ⟨i,m,hm,nb.symm,by rw [owner_grow ho hr,if_pos rfl,hown]⟩
   ·exact .inl nb
  ·rw [upd_ne μ _ e,h0] at h;cases h
 ·rw [grow_get,if_neg (by omega),if_neg]
  rintro ⟨_,e⟩
  subst e
  have:=hf b.fam hown
  rw [hlow] at this
  omega
 ·rw [hlow] at hfl
  exact Tr.get_set_ne _ _ (by omega)
 ·refine hw B hB fun e=>?_
  have:=hf i m hm e.symm b.fam hown
  rw [hlow] at this
  omega
/-! ### Maps -/
theorem owner_newMap (H:Mem) (i:Nat):owner H.newMap i=if H.n=i then some H.n else owner H i:=by
 have hget:H.newMap.obs.get i=if H.n=i then some (.map [] 0) else H.obs.get i:=Tr.get_set _ _ _ _
 split
 ·rename_i h;rw [if_pos h] at hget;rw [owner_map hget,h]
 ·rename_i h;rw [if_neg h] at hget;exact owner_of hget
theorem WF.newMap (W:WF H):WF H.newMap:=by
 have hget:∀ i,H.newMap.obs.get i=if H.n=i then some (.map [] 0) else H.obs.get i:=fun i=>Tr.get_set _ _ _ _
 refine ⟨fun i o h=>?_,fun i b h hr=>?_,fun f h=>W.gen f (Nat.le_of_succ_le h)⟩
 ·rw [hget] at h
  show i < H.n+1
  split at h
  ·omega
  ·have:=W.lt i o h;omega
 ·rw [hget] at h
  split at h
  ·cases h
  ·obtain ⟨a,b1,c,d⟩:=W.fam i b h hr
   refine ⟨a,b1,c,fun he=>?_⟩
   obtain ⟨b',hb',x⟩:=d he
   exact ⟨b',by rw [hget,if_neg (by have:=W.lt _ _ hb';omega)];exact hb',x⟩
theorem Rl.newMap (R:Rl base μ H w):Stp base μ H w (upd μ H.n ⟨⟨w.heap.size,0,none⟩,0,0⟩) H.newMap (w.alloc (.map #[] 0)):=by
 have hx:=R.ext_upd ⟨⟨w.heap.size,0,none⟩,0,0⟩
 have hget:∀ i,H.newMap.obs.get i=if H.n=i then some (.map [] 0) else H.obs.get i:=fun i=>Tr.get_set _ _ _ _
 refine ⟨⟨R.wf.newMap,by simp;have:=R.bd;omega,fun i m h=>?_,fun i m b h ho=>?_,fun i m es c h ho=>?_,fun i j mi mj hi hj hb=>?_⟩,hx,fun i m h h0=>?_,Nat.le_succ _,fun i hi=>?_,fun i hi _=>?_,fun f _ _=>rfl,Nat.le_refl _,fun B hB _=>heap_push_lt _ _ hB,rfl,rfl,rfl,by simp⟩
 ·by_cases hi:i=H.n
  ·subst hi;exact ⟨_,(hget _).trans (if_pos rfl)⟩
  ·rw [upd_ne μ _ hi] at h
   obtain ⟨o,ho⟩:=R.has i m h
   exact ⟨o,by rw [hget,if_neg (Ne.symm hi)];exact ho⟩
 ·by_cases hi:i=H.n
  ·subst hi;rw [hget,if_pos rfl] at ho;cases ho
  ·rw [upd_ne μ _ hi] at h
   rw [hget,if_neg (Ne.symm hi)] at ho
   exact (R.row i m b h ho).keep hx (fun h=>h) (heap_push_lt _ _ (R.blk_lt h))
 ·by_cases hi:i=H.n
  ·subst hi
   rw [upd_same] at h;cases h
   rw [hget,if_pos rfl] at ho;cases ho
   exact ⟨R.bd,#[],heap_push_new _ _,rfl,fun i e e' a=>by simp at a⟩
  ·rw [upd_ne μ _ hi] at h
   rw [hget,if_neg (Ne.symm hi)] at ho
   exact (R.map i m es c h ho).keep hx (heap_push_lt _ _ (R.blk_lt h))
 ·rw [owner_newMap,owner_newMap]
  by_cases h1:i=H.n
  ·by_cases h2:j=H.n
   ·rw [h1,h2]
   ·rw [h1,upd_same] at hi;cases hi
    rw [upd_ne μ _ h2] at hj
    have:=R.blk_lt hj
    simp at hb;omega
  ·by_cases h2:j=H.n
   ·rw [h2,upd_same] at hj;cases hj
    rw [upd_ne μ _ h1] at hi
    have:=R.blk_lt hi
    simp at hb;omega
   ·rw [if_neg (Ne.symm h1),if_neg (Ne.symm h2)]
    rw [upd_ne μ _ h1] at hi
    rw [upd_ne μ _ h2] at hj
    exact R.apart i j mi mj hi hj hb
 ·by_cases hi:i=H.n
  ·subst hi;rw [upd_same] at h;cases h;exact ⟨Nat.le_refl _,.inl (Nat.le_refl _)⟩
  ·rw [upd_ne μ _ hi,h0] at h;cases h
 ·rw [owner_newMap,if_neg (by omega)]
 ·rw [hget,if_neg (by omega)]
theorem putMap_get (H:Mem) (r:Nat) (es:List MapEntry) (c j:Nat):(H.putMap r es c).obs.get j=if r=j then some (.map es c) else H.obs.get j:=Tr.get_set _ _ _ _
theorem getMap_some {r c:Nat} {es:List MapEntry} (h:H.getMap r=some (es,c)):H.obs.get r=some (.map es c):=by
 unfold Mem.getMap at h
 split at h
 ·rename_i ho;cases h;exact ho
 ·cases h
theorem Rl.putMap (R:Rl base μ H w) {r c0 c:Nat} {es0 es:List MapEntry} {m:MA} (hm:μ r=some m) (ho:H.obs.get r=some (.map es0 c0)) {es':Array MapEntry}
  (hlen:es.length=es'.size) (hv:∀ (i:Nat) e e',es[i]?=some e→es'[i]?=some e'→VR μ e.key e'.key∧VR μ e.val e'.val∧e.born=e'.born)
  (hh:w'.heap=w.heap.setIfInBounds m.at_.block (.map es' c)) (hos:w'.os=w.os) (htp:w'.tape=w.tape) (hout:w'.output=w.output) :
  Stp base μ H w μ (H.putMap r es c) w':=by
 have hown:owner H r=some r:=owner_map ho
 have hlow:(H.putMap r es c).low=min H.low r:=rfl
 have how:∀ j,owner (H.putMap r es c) j=owner H j:=fun j=>by
  have hg:=putMap_get H r es c j
  by_cases e:r=j
  ·subst e;rw [if_pos rfl] at hg;rw [owner_map hg,hown]
  ·rw [if_neg e] at hg;exact owner_of hg
 have hB:=R.blk_lt hm
 have hoth:∀ k,k≠m.at_.block→w'.heap[k]?=w.heap[k]?:=fun k hk=>by rw [hh,Array.getElem?_setIfInBounds,if_neg (Ne.symm hk)]
 have hsz:w'.heap.size=w.heap.size:=by rw [hh];simp
 have hal:∀ b:Blk,b.alive (H.putMap r es c)=b.alive H:=fun b=>rfl
 have ne:∀ j mj,μ j=some mj→j≠r→mj.at_.block≠m.at_.block:=fun j mj hj hne e=>by
  have h1:=R.apart j r mj m hj hm e
  rw [hown] at h1
  unfold owner at h1
  split at h1
  ·rename_i b hb
   split at h1
   ·cases h1
   ·rename_i hr
    simp at hr h1
    obtain ⟨x1,x2,x3,x4⟩:=R.wf.fam j b hb hr
    by_cases h0:b.esz=0
    ·exact hne (by rw [← x3 h0,h1])
    ·obtain ⟨b',hb',_⟩:=x4 h0
     rw [h1,ho] at hb';cases hb'
  ·cases h1;exact hne rfl
  ·cases h1
 refine ⟨⟨⟨fun i o h=>?_,fun i b h hr=>?_,R.wf.gen⟩,by rw [hsz];exact R.bd,fun i mi h=>?_,fun i mi b h hi=>?_,fun i mi es2 c2 h hi=>?_,fun i j mi mj h1 h2 hb=>by rw [how,how];exact R.apart i j mi mj h1 h2 hb⟩,
  .refl μ,(fun i mi h h0=>by rw [h] at h0;cases h0),Nat.le_refl _,fun i _=>how i,fun i hi hf=>?_,fun f _ _=>rfl,by rw [hlow];omega,fun B hB hf=>?_,hos,htp,hout,by rw [hsz];exact Nat.le_refl _⟩
 ·rw [putMap_get] at h
  show i < H.n
  split at h
  ·rename_i e;subst e;exact R.wf.lt _ _ ho
  ·exact R.wf.lt i o h
 ·rw [putMap_get] at h
  split at h
  ·cases h
  ·obtain ⟨x1,x2,x3,x4⟩:=R.wf.fam i b h hr
   refine ⟨x1,x2,x3,fun he=>?_⟩
   obtain ⟨b',hb',y⟩:=x4 he
   exact ⟨b',by rw [putMap_get,if_neg (fun e=>by rw [← e,ho] at hb';cases hb')];exact hb',y⟩
 ·rw [putMap_get]
  split
  ·exact ⟨_,rfl⟩
  ·exact R.has i mi h
 ·rw [putMap_get] at hi
  split at hi
  ·cases hi
  ·rename_i e
   exact (R.row i mi b h hi).keep (.refl μ) (fun x=>x) (hoth _ (ne i mi h (Ne.symm e)))
 ·rw [putMap_get] at hi
  split at hi
  ·rename_i e
   subst e
   cases hi
   rw [hm] at h;cases h
   exact ⟨(R.map r m es0 c0 hm ho).base,es',by rw [hh,Array.getElem?_setIfInBounds,if_pos rfl,if_pos hB],hlen,hv⟩
  ·rename_i e
   exact (R.map i mi es2 c2 h hi).keep (.refl μ) (hoth _ (ne i mi h (Ne.symm e)))
 ·rw [putMap_get,if_neg]
  intro e
  subst e
  have:=hf r hown
  rw [hlow] at this
  omega
 ·refine hoth B fun e=>?_
  have:=hf r m hm e.symm r hown
  rw [hlow] at this
  omega
end
end Go.Proofs.YtmndbhgbngkakaaDoor.E
end
section
/- The evaluator's operations and the model's. No condition. -/
namespace Go.Proofs.YtmndbhgbngkakaaDoor.E
open Go Go.RowKit
set_option linter.all false

section
variable {base:Nat} {μ:Mp} {H H':Mem} {w:World} {P:Program}
theorem addr_add (m:MA) (o j:Nat):(m.addr o).add j=m.addr (o+j):=by
 unfold MA.addr Addr.add
 split
 ·rename_i h;subst h;rfl
 ·simp [Nat.add_assoc]
theorem run_isAgg' {t:TypeId} {d:TypeDesc} (h:P.underlying t=some d) (w:World):(isAgg t).run P w=.ok (isAggD d) w:=by
 simp only [isAgg,Sem.run_bind,run_underlying h,Result.andThen_ok]
 cases d<;>rfl
theorem run_size' {t:TypeId} {k:Nat} (h:tsz P t=some k) (w:World):(sizeOf t).run P w=.ok k w:=by
 unfold tsz at h
 cases hi:P.info? t with
 | none=>simp [hi] at h
 | some i=>simp [hi] at h;simp [sizeOf,typeInfo,hi,h]
theorem run_zero' {t:TypeId} {z:Value} (h:tzero P t=some z) (w:World):(zeroValue t).run P w=.ok z w∧flat depth z=true:=by
 unfold tzero at h
 cases hi:P.info? t with
 | none=>simp [hi] at h
 | some i =>
  simp only [hi,Option.bind_some] at h
  split at h
  ·rename_i z' hz
   split at h
   ·rename_i hf;cases h;exact ⟨by simp [zeroValue,typeInfo,hi,hz],hf⟩
   ·cases h
  ·cases h
/-- Cells that are read. -/
theorem rd_some {i off k:Nat} {cs:List Value} (h:rd H i off k=some cs):∃ b,H.live i=some b∧off+k≤b.cells.length∧cs=(b.cells.drop off).take k:=by
 unfold rd at h
 split at h
 ·rename_i b hb
  split at h
  ·rename_i hl;cases h;exact ⟨b,hb,hl,rfl⟩
  ·cases h
 ·cases h
theorem rd_ok (R:Rl base μ H w) {i off k:Nat} {m:MA} {cs:List Value} (hm:μ i=some m) (h:rd H i off k=some cs) :
  ∃ cs',VRs μ cs cs'∧cs.length=k∧∀ (j:Nat) v,cs'[j]?=some v→w.cell? ((m.addr off).add j)=some v:=by
 obtain ⟨b,hb,hl,rfl⟩:=rd_some h
 obtain ⟨ho,ha⟩:=live_some hb
 have r:=R.row i m b hm ho
 have hk:((b.cells.drop off).take k).length=k:=by simp;omega
 refine ⟨(List.range k).map fun j=>(w.cell? (m.addr (off+j))).getD undef,⟨by simp;omega,fun j x y hx hy=>?_⟩,hk,fun j v hv=>?_⟩
 ·rw [List.getElem?_map] at hy
  rw [List.getElem?_take] at hx
  split at hx
  ·rename_i hj
   rw [List.getElem?_drop] at hx
   obtain ⟨v',h1,h2⟩:=r.cells ha _ x hx
   rw [List.getElem?_range hj] at hy
   simp [h1] at hy
   exact hy▸h2
  ·cases hx
 ·rw [List.getElem?_map] at hv
  rw [addr_add]
  cases hj:(List.range k)[j]? with
  | none=>simp [hj] at hv
  | some q =>
   have hq:j < k:=by have:=(List.getElem?_eq_some_iff.1 hj).1;simpa using this
   rw [List.getElem?_range hq] at hj;cases hj
   rw [List.getElem?_range hq] at hv
   obtain ⟨v',h1,h2⟩:=r.cells ha (off+j) _ (List.getElem?_eq_getElem (by omega))
   simp [h1] at hv
   rw [h1,hv]
theorem loadCells_ok (R:Rl base μ H w) {i off k:Nat} {m:MA} {cs:List Value} (hm:μ i=some m) (h:rd H i off k=some cs) :
  ∃ cs',VRs μ cs cs'∧(loadCells (m.addr off) k).run P w=.ok cs'.toArray w:=by
 obtain ⟨cs',h1,h2,h3⟩:=rd_ok R hm h
 refine ⟨cs',h1,?_⟩
 have:=run_loadCells_list (P:=P) w (m.addr off) cs' h3
 rwa [← h1.1,h2] at this
theorem loadV_ok (R:Rl base μ H w) {t:TypeId} {a:Addr} {m:MA} {v:Value} (hm:μ a.block=some m) (h:loadV P H t a=some v) :
  ∃ v',(loadVar t (m.addr a.off)).run P w=.ok v' w∧VR μ v v':=by
 unfold loadV at h
 cases hu:P.underlying t with
 | none=>simp [hu] at h
 | some d =>
  simp only [hu,Option.map_some] at h
  cases hd:isAggD d with
  | true =>
   rw [hd] at h
   cases hs:tsz P t with
   | none=>simp [hs] at h
   | some k =>
    simp only [hs] at h
    cases hr:rd H a.block a.off k with
    | none=>simp [hr] at h
    | some cs =>
     simp [hr] at h;subst h
     obtain ⟨cs',h1,h2⟩:=loadCells_ok (P:=P) R hm hr
     refine ⟨.agg cs'.toArray,?_,.agg' ⟨by simpa using h1.1,fun i x y a b=>h1.2 i x y (by simpa using a) (by simpa using b)⟩⟩
     simp [loadVar,run_isAgg' hu,hd,run_size' hs,h2]
  | false =>
   rw [hd] at h
   simp only at h
   split at h
   ·rename_i x hr
    cases h
    obtain ⟨cs',h1,h2,h3⟩:=rd_ok R hm hr
    obtain ⟨y,ys,rfl,hv,_⟩:=h1.of_cons
    have hc:=h3 0 y rfl
    rw [addr_add,Nat.add_zero] at hc
    exact ⟨y,by simp [loadVar,run_isAgg' hu,hd,hc],hv⟩
   ·cases h
theorem splice_length (l vs:List Value) (off:Nat) (h:off+vs.length≤l.length):(splice l off vs).length=l.length:=by simp [splice];omega
theorem splice_get (l vs:List Value) (off j:Nat) (h:off+vs.length≤l.length):(splice l off vs)[j]?=if j < off then l[j]? else if j < off+vs.length then vs[j - off]? else l[j]?:=by
 unfold splice
 have ht:(l.take off).length=off:=by simp;omega
 by_cases h1:j < off
 ·rw [if_pos h1,List.append_assoc,List.getElem?_append_left (by omega),List.getElem?_take,if_pos h1]
 ·rw [if_neg h1]
  by_cases h2:j < off+vs.length
  ·rw [if_pos h2,List.append_assoc,List.getElem?_append_right (by omega),ht,List.getElem?_append_left (by omega)]
  ·rw [if_neg h2,List.getElem?_append_right (by simp;omega),List.getElem?_drop]
   congr 1
   simp;omega
theorem wr_some {i off:Nat} {vs:List Value} (h:wr H i off vs=some H'):∃ b,H.live i=some b∧b.ro=false∧off+vs.length≤b.cells.length∧(∀ v∈vs,v.oneCell'=true)∧H'=H.put i b (splice b.cells off vs):=by
 unfold wr at h
 split at h
 ·rename_i b hb
  split at h
  ·rename_i hl;cases h;exact ⟨b,hb,hl.1,hl.2.1,by simpa using hl.2.2,rfl⟩
  ·cases h
 ·cases h
theorem oneCells {vs vs':List Value} (h:VRs μ vs vs') (h1:∀ v∈vs,v.oneCell'=true):∀ v∈vs',v.oneCell'=true:=fun v hv=>by
 obtain ⟨j,hj⟩:=List.mem_iff_getElem?.1 hv
 have hl:=(List.getElem?_eq_some_iff.1 hj).1
 have:=h.2 j _ v (List.getElem?_eq_getElem (by rw [h.1];exact hl)) hj
 rw [this.oneCell]
 exact h1 _ (List.getElem_mem _)
/-- Cells that are written. -/
theorem wr_ok (R:Rl base μ H w) {i off:Nat} {m:MA} {vs vs':List Value} (hm:μ i=some m) (hv:VRs μ vs vs') (h:wr H i off vs=some H') :
  ∃ w',(storeCells (m.addr off) vs').run P w=.ok () w'∧Stp base μ H w μ H' w':=by
 obtain ⟨b,hb,hr,hl,h1,rfl⟩:=wr_some h
 obtain ⟨ho,ha⟩:=live_some hb
 have r:=R.row i m b hm ho
 obtain ⟨x1,x2,c,ty,x3,x4⟩:=r.rw hr
 have hst:=run_storeCells_at P m.at_.block (m.at_.off+off) ty vs' 0 c w x3 (by rw [x4,← hv.1];omega) (oneCells hv h1)
 refine ⟨_,hst,R.put hm hb hr (splice_length _ _ _ hl) x3 ?_ fun j v hj=>?_⟩
 ·simp;rw [← hv.1];omega
 ·have hd:=splice_get c.toList vs' (m.at_.off+off) (m.at_.off+j) (by rw [← hv.1];simp;omega)
  rw [splice_get _ _ _ _ hl] at hj
  have e:(c.toList.take (m.at_.off+off+0)++vs'++c.toList.drop (m.at_.off+off+0+vs'.length)).toArray[m.at_.off+j]?=(splice c.toList (m.at_.off+off) vs')[m.at_.off+j]?:=by simp [splice]
  rw [e,hd]
  have old:∀ v,b.cells[j]?=some v→∃ v',c.toList[m.at_.off+j]?=some v'∧VR μ v v':=fun v hv=>by
   obtain ⟨v',a1,a2⟩:=r.cells ha j v hv
   refine ⟨v',?_,a2⟩
   simpa [MA.addr,World.cell?,x3] using a1
  by_cases c1:j < off
  ·rw [if_pos c1] at hj;rw [if_pos (by omega)];exact old v hj
  ·rw [if_neg c1] at hj;rw [if_neg (by omega)]
   by_cases c2:j < off+vs.length
   ·rw [if_pos c2] at hj;rw [if_pos (by rw [← hv.1];omega)]
    have hl':j - off < vs'.length:=by rw [← hv.1];omega
    refine ⟨vs'[j - off],?_,hv.2 _ v _ hj (List.getElem?_eq_getElem hl')⟩
    rw [show m.at_.off+j - (m.at_.off+off)=j - off by omega]
    exact List.getElem?_eq_getElem hl'
   ·rw [if_neg c2] at hj;rw [if_neg (by rw [← hv.1];omega)];exact old v hj
theorem storeV_ok (R:Rl base μ H w) {t:TypeId} {a:Addr} {m:MA} {v v':Value} (hm:μ a.block=some m) (hv:VR μ v v') (h:storeV P H t a v=some H') :
  ∃ w',(storeVar t (m.addr a.off) v').run P w=.ok () w'∧Stp base μ H w μ H' w':=by
 unfold storeV at h
 split at h
 ·rename_i hs
  obtain ⟨w',h1,h2⟩:=wr_ok (P:=P) R hm hv.cells h
  refine ⟨w',?_,h2⟩
  have hsz:=hv.cells.size
  simp [storeVar,run_size' hs,hsz,h1]
 ·cases h
/-! ### Operands -/
structure ActR (μ:Mp) (T:Tr Value) (a:Act):Prop where
 tm:∀ t,VR μ ((T.get t).getD undef) (a.tmps.getD t undef)
theorem ActR.mono {μ μ':Mp} {T:Tr Value} {a:Act} (h:Ext μ μ') (A:ActR μ T a):ActR μ' T a:=⟨fun t=>(A.tm t).mono h⟩
theorem ActR.put {T:Tr Value} {a:Act} (A:ActR μ T a) {d:Option Tmp} (hd:∀ t,d=some t→t < a.tmps.size) {v v':Value} (hv:VR μ v v'):ActR μ (putT T d v) (a.put d v'):=by
 cases d with
 | none=>exact A
 | some d =>
  refine ⟨fun t=>?_⟩
  simp only [putT,Act.put,Tr.get_set]
  by_cases e:d=t
  ·subst e
   have:=hd d rfl
   simp [Array.getD_eq_getD_getElem?,this,hv]
  ·rw [if_neg e]
   have:(a.tmps.setIfInBounds d v').getD t undef=a.tmps.getD t undef:=by simp [Array.getD_eq_getD_getElem?,Array.getElem?_setIfInBounds,e]
   rw [this];exact A.tm t
def okO:Operand→Bool
 | .tmp _=>true
 | .const v=>flat depth v
 | .global _=>false
 | .func _=>true
theorem evalO_ok {T:Tr Value} {a:Act} (A:ActR μ T a) {x:Operand} (h:okO x=true):VR μ (evalO T x) (a.eval x):=by
 cases x with
 | tmp t=>exact A.tm t
 | const v=>exact VR.of_flat μ depth h
 | global g=>simp [okO] at h
 | func f=>exact .func' _ ⟨rfl,fun i x y h=>by simp at h⟩ ⟨rfl,fun i x y h=>by simp at h⟩
theorem pureRun_ok {α:Type} (P:Program):∀ (s:Sem α) (r:α),pureRun P s=some r→∀ w,s.run P w=.ok r w
 | .pure a,r,h,w=>by simp [pureRun] at h;subst h;rfl
 | .program k,r,h,w=>by simp only [pureRun] at h;exact pureRun_ok P (k P) r h w
 | .mark m k,r,h,w=>by simp only [pureRun] at h;exact pureRun_ok P k r h w
 | .load _ _ _,_,h,_=>by simp [pureRun] at h
 | .store _ _ _ _,_,h,_=>by simp [pureRun] at h
 | .new _ _,_,h,_=>by simp [pureRun] at h
 | .shape _ _,_,h,_=>by simp [pureRun] at h
 | .freeze _ _ _,_,h,_=>by simp [pureRun] at h
 | .frozen _ _,_,h,_=>by simp [pureRun] at h
 | .getObj _ _,_,h,_=>by simp [pureRun] at h
 | .setObj _ _ _,_,h,_=>by simp [pureRun] at h
 | .choose _ _,_,h,_=>by simp [pureRun] at h
 | .sys _ _,_,h,_=>by simp [pureRun] at h
 | .halt _,_,h,_=>by simp [pureRun] at h
theorem pureV_ok {s:Sem Value} {v:Value} (h:pureV P s=some v) (w:World):s.run P w=.ok v w∧flat depth v=true:=by
 unfold pureV at h
 split at h
 ·rename_i v' hv
  split at h
  ·rename_i hf;cases h;exact ⟨pureRun_ok P _ _ hv w,hf⟩
  ·cases h
 ·cases h
end
end Go.Proofs.YtmndbhgbngkakaaDoor.E
end
section
/- The evaluator's operations and the model's: literals, slices, append. No condition. -/
namespace Go.Proofs.YtmndbhgbngkakaaDoor.E
open Go Go.RowKit
set_option linter.all false

section
variable {base:Nat} {μ:Mp} {H H':Mem} {w:World} {P:Program}
theorem VRa.set {xs ys:Array Value} (h:VRa μ xs ys) (i:Nat) {x y:Value} (hv:VR μ x y):VRa μ (xs.setIfInBounds i x) (ys.setIfInBounds i y):=by
 refine .mk (by simp [h.size]) fun j a b ha hb=>?_
 rw [Array.getElem?_setIfInBounds] at ha hb
 by_cases e:i=j
 ·subst e
  by_cases hi:i < xs.size
  ·rw [if_pos rfl,if_pos hi] at ha
   rw [if_pos rfl,if_pos (by rw [← h.size];exact hi)] at hb
   cases ha;cases hb;exact hv
  ·rw [if_pos rfl,if_neg hi] at ha;cases ha
 ·rw [if_neg e] at ha hb
  exact h.at j a b ha hb
theorem foldset (off:Nat):∀ (l l':List Value) (k:Nat) (cs cs':Array Value),VRs μ l l'→VRa μ cs cs' →
  VRa μ ((l.zipIdx k).foldl (fun cs p=>cs.setIfInBounds (off+p.2) p.1) cs) ((l'.zipIdx k).foldl (fun cs p=>cs.setIfInBounds (off+p.2) p.1) cs')
 | [],l',k,cs,cs',h,hc=>by rw [h.of_nil];exact hc
 | v::l,l',k,cs,cs',h,hc=>by
  obtain ⟨v',l'',rfl,hv,ht⟩:=h.of_cons
  simp only [List.zipIdx_cons,List.foldl_cons]
  exact foldset off l l'' (k+1) _ _ ht (hc.set _ hv)
theorem fill_ok (place:Nat→Option (Nat × Nat)):∀ (ps ps':List (Nat × Value)) (cs cs':Array Value) (out:Array Value),ps.map (·.1)=ps'.map (·.1)→VRs μ (ps.map (·.2)) (ps'.map (·.2))→VRa μ cs cs' →
  Instr.fill place cs ps=some out→∃ out',Instr.fill place cs' ps'=some out'∧VRa μ out out'
 | [],ps',cs,cs',out,h1,h2,hc,h=>by
  have:ps'=[]:=by cases ps' with | nil=>rfl | cons a b=>simp at h1
  subst this
  simp [Instr.fill] at h
  subst h
  exact ⟨cs',rfl,hc⟩
 | (i,v)::ps,ps',cs,cs',out,h1,h2,hc,h=>by
  cases ps' with
  | nil=>simp at h1
  | cons p' ps' =>
   obtain ⟨i',v'⟩:=p'
   simp only [List.map_cons,List.cons.injEq] at h1
   obtain ⟨rfl,h1⟩:=h1
   obtain ⟨x,y,hxy,hv,ht⟩:=h2.of_cons
   simp only [List.map_cons,List.cons.injEq] at hxy
   obtain ⟨rfl,rfl⟩:=hxy
   simp only [Instr.fill] at h ⊢
   cases hp:place i with
   | none=>simp [hp] at h
   | some os =>
    obtain ⟨off,size⟩:=os
    simp only [hp] at h ⊢
    have hs:=hv.cells.size
    rw [← hs,← hc.size]
    split at h
    ·cases h
    ·rename_i hcond
     rw [if_neg hcond]
     have e:∀ (c:Array Value) (u:Value),(u.cells.zipIdx.foldl (fun cs (x:Value × Nat)=>cs.setIfInBounds (off+x.2) x.1) c)=(u.cells.toList.zipIdx.foldl (fun cs (x:Value × Nat)=>cs.setIfInBounds (off+x.2) x.1) c):=fun c u=>by
      rw [← Array.foldl_toList];simp
     have hf:VRa μ (v.cells.zipIdx.foldl (fun cs (x:Value × Nat)=>cs.setIfInBounds (off+x.2) x.1) cs) (v'.cells.zipIdx.foldl (fun cs (x:Value × Nat)=>cs.setIfInBounds (off+x.2) x.1) cs'):=by
      rw [e,e];exact foldset off _ _ 0 _ _ hv.cells hc
     exact fill_ok place ps ps' _ _ out h1 ht hf h
theorem run_places:∀ (fs:List Field) (pl:List (Nat × Nat)),places P fs=some pl→∀ w,(fs.mapM (fun f=>do pure (f.offset,← sizeOf f.type):Field→Sem (Nat × Nat))).run P w=.ok pl w
 | [],pl,h,w=>by simp [places] at h;subst h;rfl
 | f::fs,pl,h,w=>by
  unfold places at h
  rw [List.mapM_cons] at h
  cases h1:tsz P f.type with
  | none=>simp [h1] at h
  | some s =>
   cases h2:fs.mapM (fun f=>(tsz P f.type).map fun s=>(f.offset,s)) with
   | none=>simp [h1,h2] at h
   | some pl' =>
    simp [h1,h2] at h
    subst h
    have ih:=run_places fs pl' h2 w
    simp only [List.mapM_cons,Sem.run_bind,run_size' h1,Result.andThen_ok,Sem.run_pure,ih]
theorem buildV_ok {t:TypeId} {ps ps':List (Nat × Value)} {v:Value} (h1:ps.map (·.1)=ps'.map (·.1)) (h2:VRs μ (ps.map (·.2)) (ps'.map (·.2))) (h:buildV P t ps=some v) :
  ∃ v',(Instr.build t ps'.toArray).run P w=.ok v' w∧VR μ v v':=by
 unfold buildV at h
 split at h
 ·rename_i z fields hz hu
  split at h
  ·rename_i pl hpl
   obtain ⟨hzr,hzf⟩:=run_zero' hz w
   cases hf:Instr.fill (pl[·]?) z.cells ps with
   | none=>simp [hf] at h
   | some out =>
    simp [hf] at h;subst h
    obtain ⟨out',h3,h4⟩:=fill_ok (pl[·]?) ps ps' _ _ out h1 h2 (VR.of_flat μ depth hzf).cells hf
    refine ⟨.agg out',?_,.agg' h4⟩
    have hp:=run_places fields.toList pl hpl w
    simp only [Instr.build,Sem.run_bind,hzr,Result.andThen_ok,run_underlying hu,Array.mapM_eq_mapM_toList,Sem.run_map,hp]
    simp [h3]
  ·cases h
 ·rename_i z n e hz hu
  obtain ⟨hzr,hzf⟩:=run_zero' hz w
  split at h
  ·rename_i s hs
   cases hf:Instr.fill (fun i=>some (i*s,s)) z.cells ps with
   | none=>simp [hf] at h
   | some out =>
    simp [hf] at h;subst h
    obtain ⟨out',h3,h4⟩:=fill_ok (fun i=>some (i*s,s)) ps ps' _ _ out h1 h2 (VR.of_flat μ depth hzf).cells hf
    refine ⟨.agg out',?_,.agg' h4⟩
    simp [Instr.build,hzr,run_underlying hu,run_size' hs,h3]
  ·cases h
 ·cases h
theorem partV_ok {t:TypeId} {cs cs':Array Value} {off:Nat} {v:Value} (hc:VRa μ cs cs') (h:partV P t cs off=some v):∃ v',(part t cs' off).run P w=.ok v' w∧VR μ v v':=by
 unfold partV at h
 cases hu:P.underlying t with
 | none=>simp [hu] at h
 | some d =>
  simp only [hu,Option.map_some] at h
  cases hd:isAggD d with
  | true =>
   rw [hd] at h
   cases hs:tsz P t with
   | none=>simp [hs] at h
   | some k =>
    simp [hs] at h;subst h
    refine ⟨_,by simp [part,run_isAgg' hu,hd,run_size' hs];rfl,.agg' ?_⟩
    have:=(hc.drop off).take k
    unfold VRa
    simpa [Array.toList_extract,List.extract_eq_take_drop] using this
  | false =>
   rw [hd] at h
   simp only at h
   have hl:off < cs'.size:=by rw [← hc.size];exact (Array.getElem?_eq_some_iff.1 h).1
   exact ⟨cs'[off],by simp [part,run_isAgg' hu,hd,hl],hc.at off _ _ h (Array.getElem?_eq_getElem hl)⟩
end
end Go.Proofs.YtmndbhgbngkakaaDoor.E
end
section
/- The evaluator's operations and the model's: slices, append and the like. No condition. -/
namespace Go.Proofs.YtmndbhgbngkakaaDoor.E
open Go Go.RowKit
set_option linter.all false

section
variable {base:Nat} {μ:Mp} {H H':Mem} {w:World} {P:Program}
theorem idx_eq {v v':Value} {n:Nat} (h:idx v=some n) (r:VR μ v v'):v'=v:=by
 cases r with
 | int k n=>rfl
 | _=>simp [idx] at h
theorem idx_int {v:Value} {n:Nat} (h:idx v=some n):∃ k,v=.int k n:=by
 cases v with
 | int k i =>
  simp only [idx] at h
  split at h
  ·rename_i h0;cases h;exact ⟨k,by congr 1;omega⟩
  ·cases h
 | _=>simp [idx] at h
theorem sliceBound_ok {v:Value} {n y:Nat} {code:BoundsCode} (h:idx v=some n) (hn:n≤y):(Instr.sliceBound v y code).run P w=.ok n w:=by
 obtain ⟨k,rfl⟩:=idx_int h
 simp [Instr.sliceBound,asIntOf,hn]
theorem bounds_some {len cap l hh:Nat} {lo hi mx:Option Value} {m:Option Nat} (h:bounds len cap lo hi mx=some (l,hh,m)) :
  (mx=none∧m=none∨∃ v n,mx=some v∧idx v=some n∧m=some n)∧(hi=none∧mx=none∧hh=len∨∃ v,hi=some v∧idx v=some hh) ∧
  (lo=none∧l=0∨∃ v,lo=some v∧idx v=some l)∧l≤hh∧hh≤m.getD cap∧m.getD 0≤cap:=by
 unfold bounds at h
 split at h
 ·cases h
 ·rename_i m' hm
  split at h
  ·cases h
  ·rename_i h' hh'
   split at h
   ·cases h
   ·rename_i l' hl
    split at h
    ·rename_i hc
     simp only [Option.some.injEq,Prod.mk.injEq] at h
     obtain ⟨rfl,rfl,rfl⟩:=h
     have hm1:(mx=none∧m'=none∨∃ v n,mx=some v∧idx v=some n∧m'=some n):=by
      cases mx with
      | none=>simp at hm;exact .inl ⟨rfl,hm.symm⟩
      | some v =>
       cases hv:idx v with
       | none=>simp [hv] at hm
       | some n=>simp [hv] at hm;exact .inr ⟨v,n,rfl,hv,hm.symm⟩
     refine ⟨hm1,?_,?_,hc⟩
     ·cases hi with
      | none =>
       rcases hm1 with ⟨a,b⟩ | ⟨v,n,a,b,c⟩
       ·subst b;simp at hh';exact .inl ⟨rfl,a,hh'.symm⟩
       ·subst c;simp at hh'
      | some v=>exact .inr ⟨v,rfl,hh'⟩
     ·cases lo with
      | none=>simp at hl;exact .inl ⟨rfl,hl.symm⟩
      | some v=>exact .inr ⟨v,rfl,hl⟩
    ·cases h
/-- The bounds, in the model. -/
theorem bounds_ok {isS:Bool} {len cap cap' l hh:Nat} {lo hi mx:Option Value} {m:Option Nat} (h:bounds len cap lo hi mx=some (l,hh,m)) (hc:cap≤cap') :
  (Instr.sliceBounds isS len cap' lo hi mx).run P w=.ok (l,hh,m.getD cap') w:=by
 obtain ⟨h1,h2,h3,h4,h5,h6⟩:=bounds_some h
 have hlo:∀ u,lo=some u→idx u=some l→∀ c,(Instr.sliceBound u hh c).run P w=.ok l w:=fun u _ hu c=>sliceBound_ok hu h4
 rcases h1 with ⟨rfl,rfl⟩ | ⟨v,n,rfl,hv,rfl⟩
 ·simp only [Option.getD_none] at h5 ⊢
  have hhi:∀ u,hi=some u→idx u=some hh→∀ c,(Instr.sliceBound u cap' c).run P w=.ok hh w:=fun u _ hu c=>sliceBound_ok hu (by omega)
  rcases h2 with ⟨rfl,_,rfl⟩ | ⟨v2,rfl,hv2⟩<;>rcases h3 with ⟨rfl,rfl⟩ | ⟨u,rfl,hu⟩
  ·simp [Instr.sliceBounds]
  ·simp [Instr.sliceBounds,hlo u rfl hu]
  ·simp [Instr.sliceBounds,hhi v2 rfl hv2]
  ·simp [Instr.sliceBounds,hhi v2 rfl hv2,hlo u rfl hu]
 ·simp only [Option.getD_some] at h5 h6 ⊢
  have hmx:∀ c,(Instr.sliceBound v cap' c).run P w=.ok n w:=fun c=>sliceBound_ok hv (by omega)
  have hhi:∀ u,hi=some u→idx u=some hh→∀ c,(Instr.sliceBound u n c).run P w=.ok hh w:=fun u _ hu c=>sliceBound_ok hu (by omega)
  rcases h2 with ⟨_,hc,_⟩ | ⟨v2,rfl,hv2⟩
  ·cases hc
  ·rcases h3 with ⟨rfl,rfl⟩ | ⟨u,rfl,hu⟩
   ·simp [Instr.sliceBounds,hmx,hhi v2 rfl hv2]
   ·simp [Instr.sliceBounds,hmx,hhi v2 rfl hv2,hlo u rfl hu]
/-- Options of values. -/
def OVR (μ:Mp):Option Value→Option Value→Prop
 | none,none=>True
 | some v,some v'=>VR μ v v'
 | _,_=>False
theorem OVR.eq {o o':Option Value} (h:OVR μ o o') (hi:o=none∨∃ v n,o=some v∧idx v=some n):o'=o:=by
 cases o with
 | none=>cases o' with | none=>rfl | some v=>exact h.elim
 | some v =>
  rcases hi with hi | ⟨v',n,hv,hn⟩
  ·cases hi
  ·cases hv
   cases o' with
   | none=>exact h.elim
   | some u=>rw [idx_eq hn h]
theorem bounds_eq {len cap l hh:Nat} {lo hi mx lo' hi' mx':Option Value} {m:Option Nat} (h:bounds len cap lo hi mx=some (l,hh,m)) (h1:OVR μ lo lo') (h2:OVR μ hi hi') (h3:OVR μ mx mx'):lo'=lo∧hi'=hi∧mx'=mx:=by
 obtain ⟨a,b,c,_⟩:=bounds_some h
 refine ⟨h1.eq ?_,h2.eq ?_,h3.eq ?_⟩
 ·rcases c with ⟨c,_⟩ | ⟨v,c,d⟩
  ·exact .inl c
  ·exact .inr ⟨v,_,c,d⟩
 ·rcases b with ⟨c,_⟩ | ⟨v,c,d⟩
  ·exact .inl c
  ·exact .inr ⟨v,_,c,d⟩
 ·rcases a with ⟨c,_⟩ | ⟨v,n,c,d,_⟩
  ·exact .inl c
  ·exact .inr ⟨v,n,c,d⟩
theorem room_lt:maxRoom < OPEN:=by decide
theorem mkroom_lt:mkRoom < OPEN:=by decide
theorem VR.slice_open {a:Addr} {n:Nat} {y:Value} (h:VR μ (.slice (some a) n OPEN) y):a.spot=none∧∃ m,μ a.block=some m∧((∃ c,y=.slice (some (m.addr a.off)) n c∧m.at_.off+a.off+c*m.e=m.lim∧n≤c)∨(∃ A,y=.slice (some A) 0 0∧n=0∧m.at_.off+a.off=m.lim)):=by
 generalize hc:OPEN=c at h
 cases h with
 | sliceE hs hc' hm=>rw [← hc] at hc';exact absurd hc' (Nat.lt_irrefl _)
 | sliceO hs hm hl hn=>exact ⟨hs,_,hm,.inl ⟨_,rfl,hl,hn⟩⟩
 | sliceE0 hs=>exact absurd hc (by decide)
 | sliceO0 hs hm hl=>exact ⟨hs,_,hm,.inr ⟨_,rfl,rfl,hl⟩⟩
 | sliceR hs hm hn=>exact absurd hc (by decide)
 | sliceR0 hs=>exact absurd hc (by decide)
 | sliceZ hs=>exact absurd hc (by decide)
theorem VR.slice_ro {a:Addr} {n:Nat} {y:Value} (h:VR μ (.slice (some a) n RO) y):a.spot=none∧((∃ m c,μ a.block=some m∧y=.slice (some (m.addr a.off)) n c∧n≤c)∨(∃ A c,y=.slice A 0 c∧n=0)):=by
 generalize hc:RO=c at h
 cases h with
 | sliceE hs hc' hm=>rw [← hc] at hc';exact absurd hc' (by decide)
 | sliceO hs hm hl hn=>exact absurd hc (by decide)
 | sliceE0 hs=>exact absurd hc (by decide)
 | sliceO0 hs hm hl=>exact absurd hc (by decide)
 | sliceR hs hm hn=>exact ⟨hs,.inl ⟨_,_,hm,rfl,hn⟩⟩
 | sliceR0 hs=>exact ⟨hs,.inr ⟨_,_,rfl,rfl⟩⟩
 | sliceZ hs=>exact absurd hc (by decide)
theorem VR.slice_exact {a:Addr} {n c:Nat} {y:Value} (hc:c≠OPEN) (hr:c≠RO) (hz:c≠ZO) (h:VR μ (.slice (some a) n c) y):a.spot=none∧c < OPEN∧((∃ m,μ a.block=some m∧y=.slice (some (m.addr a.off)) n c)∨(∃ A,y=.slice A 0 0∧n=0∧c=0)):=by
 cases h with
 | sliceE hs hc' hm=>exact ⟨hs,hc',.inl ⟨_,hm,rfl⟩⟩
 | sliceO hs hm hl hn=>exact absurd rfl hc
 | sliceE0 hs=>exact ⟨hs,by decide,.inr ⟨_,rfl,rfl,rfl⟩⟩
 | sliceO0 hs hm hl=>exact absurd rfl hc
 | sliceR hs hm hn=>exact absurd rfl hr
 | sliceR0 hs=>exact absurd rfl hr
 | sliceZ hs=>exact absurd rfl hz
theorem VR.slice_nil {n c:Nat} {y:Value} (h:VR μ (.slice none n c) y):y=.slice none n c:=by cases h;rfl
theorem VR.ptr_some {a:Addr} {y:Value} (h:VR μ (.pointer (some a)) y):a.spot=none∧∃ m,μ a.block=some m∧y=.pointer (some (m.addr a.off)):=by cases h with | ptr hs h=>exact ⟨hs,_,h,rfl⟩
theorem VR.str {s:ByteArray} {y:Value} (h:VR μ (.string s) y):y=.string s:=by cases h;rfl
theorem VR.int' {k:IntKind} {n:Int} {y:Value} (h:VR μ (.int k n) y):y=.int k n:=by cases h;rfl
theorem VR.bool' {b:Bool} {y:Value} (h:VR μ (.bool b) y):y=.bool b:=by cases h;rfl
theorem VR.fn {fn:Fn} {a b:Array Value} {y:Value} (h:VR μ (.func fn a b) y):∃ a' b',y=.func fn a' b'∧VRa μ a a'∧VRa μ b b':=by cases h with | func _ hn h hn' h'=>exact ⟨_,_,rfl,.mk hn h,.mk hn' h'⟩
theorem sliceV_ok (R:Rl base μ H w) {t:TypeId} {x x' v:Value} {lo hi mx lo' hi' mx':Option Value} (hx:VR μ x x') (h1:OVR μ lo lo') (h2:OVR μ hi hi') (h3:OVR μ mx mx') (h:sliceV P H t x lo hi mx=some v) :
  ∃ v',(Instr.sliceAt t x' lo' hi' mx').run P w=.ok v' w∧VR μ v v':=by
 unfold sliceV at h
 split at h
 ·rename_i hu
  cases hx
  split at h
  ·cases h
  ·rename_i s _ hmx
   split at h
   ·rename_i l hh m hb
    cases h
    obtain ⟨rfl,rfl,_⟩:=bounds_eq (mx':=none) hb h1 h2 trivial
    have hmx':mx'=none:=by
     cases mx with
     | none=>cases mx' with | none=>rfl | some _=>exact h3.elim
     | some _=>simp at hmx
    subst hmx'
    have hr:=bounds_ok (P:=P) (w:=w) (isS:=false) hb (Nat.le_refl _)
    exact ⟨_,by simp [Instr.sliceAt,run_underlying hu,Instr.slice,hr],.string _⟩
   ·cases h
 ·rename_i e bs len cap hu
  split at h
  ·cases h
  ·rename_i z hz
   by_cases hnzo:cap=ZO
   ·rw [if_pos hnzo] at h;cases h
   rw [if_neg hnzo] at h
   by_cases hnro:cap=RO
   ·rw [if_pos hnro] at h
    subst hnro
    split at h
    ·cases h
    ·rename_i a
     obtain ⟨hs,hy⟩:=hx.slice_ro
     obtain ⟨A,n',c,rfl,hnc,hn0⟩:∃ A n' c,x'=.slice A n' c∧n'≤c∧n'=len:=by
      rcases hy with ⟨m,c,_,rfl,hn⟩ | ⟨A,c,rfl,hn⟩
      ·exact ⟨_,_,_,rfl,hn,rfl⟩
      ·exact ⟨_,_,_,rfl,Nat.zero_le _,hn.symm⟩
     subst hn0
     split at h
     ·rename_i l hh hbd
      cases h
      obtain ⟨rfl,rfl,rfl⟩:=bounds_eq hbd h1 h2 h3
      have hr:=bounds_ok (P:=P) (w:=w) (isS:=true) hbd hnc
      obtain ⟨_,_,_,q1,q2,_⟩:=bounds_some hbd
      simp only [Option.getD_none] at q2 hr
      refine ⟨.slice (if c=l then A else A.map (·.add (l*z))) (hh - l) (c - l),?_,?_⟩
      ·cases A<;>simp [Instr.sliceAt,run_underlying hu,Instr.slice,hr,run_size' hz]
      ·by_cases h0:hh - l=0
       ·rw [h0];exact .sliceR0 (a:=⟨a.block,a.off+l*z,none⟩) rfl
       ·rcases hy with ⟨m,c',hm,he,hn⟩ | ⟨_,_,_,hn⟩
        ·cases he
         rw [if_neg (by omega)]
         simp only [Option.map_some,addr_add]
         exact .sliceR (a:=⟨a.block,a.off+l*z,none⟩) rfl hm (by omega)
        ·omega
     ·rename_i hbd
      cases h
      obtain ⟨rfl,rfl,rfl⟩:=bounds_eq hbd h1 h2 h3
      have hr:=bounds_ok (P:=P) (w:=w) (isS:=true) hbd hnc
      simp only [Option.getD_some] at hr
      refine ⟨.slice A 0 0,?_,.sliceE0 hs⟩
      cases A<;>simp [Instr.sliceAt,run_underlying hu,Instr.slice,hr,run_size' hz]
     ·cases h
   rw [if_neg hnro] at h
   split at h
   ·rename_i hc
    subst hc
    split at h
    ·cases h
    ·rename_i a
     obtain ⟨hs,m,hm,hy⟩:=hx.slice_open
     split at h
     ·cases h
     ·rename_i b hb
      obtain ⟨ho,ha⟩:=live_some hb
      have r:=R.row a.block m b hm ho
      split at h
      ·rename_i hc
       obtain ⟨hbe,hz0,hoff⟩:=hc
       have hroom:=r.room
       have hme:m.e=z:=by rw [r.e,hbe]
       have hdiv:(b.cells.length - a.off) / z*z≤b.cells.length - a.off:=Nat.div_mul_le_self _ _
       rcases hy with ⟨c,rfl,hl,hn⟩ | ⟨A,rfl,rfl,hl⟩
       ·have hcap:(b.cells.length - a.off) / z≤c:=by
         rw [hme] at hl
         refine Nat.le_of_mul_le_mul_right (c:=z) ?_ hz0
         omega
        split at h
        ·rename_i l hh hbd
         cases h
         obtain ⟨rfl,rfl,rfl⟩:=bounds_eq hbd h1 h2 h3
         have hr:=bounds_ok (P:=P) (w:=w) (isS:=true) hbd hcap
         obtain ⟨_,_,_,q1,q2,_⟩:=bounds_some hbd
         simp only [Option.getD_none] at q2 hr
         refine ⟨.slice (if c=l then some (m.addr a.off) else some ((m.addr a.off).add (l*z))) (hh - l) (c - l),by simp [Instr.sliceAt,run_underlying hu,Instr.slice,hr,run_size' hz],?_⟩
         rw [addr_add]
         split
         ·rename_i e1
          have:hh - l=0:=by omega
          rw [this,show c - l=0 by omega]
          exact .sliceO0 (a:=⟨a.block,a.off+l*z,none⟩) rfl hm (by rw [hme,e1] at hl;simp;omega)
         ·refine .sliceO (a:=⟨a.block,a.off+l*z,none⟩) rfl hm ?_ (by omega)
          rw [hme] at hl ⊢
          rw [Nat.sub_mul]
          have:l*z≤c*z:=Nat.mul_le_mul_right _ (by omega)
          simp;omega
        ·rename_i l hh mm hbd
         split at h
         ·rename_i hmr
          cases h
          obtain ⟨rfl,rfl,rfl⟩:=bounds_eq hbd h1 h2 h3
          have hr:=bounds_ok (P:=P) (w:=w) (isS:=true) hbd hcap
          simp only [Option.getD_some] at hr
          refine ⟨.slice (if mm=l then some (m.addr a.off) else some ((m.addr a.off).add (l*z))) (hh - l) (mm - l),by simp [Instr.sliceAt,run_underlying hu,Instr.slice,hr,run_size' hz],?_⟩
          have hlt:mm - l < OPEN:=by have:=room_lt;omega
          rw [addr_add]
          split
          ·exact .sliceE hs hlt hm
          ·exact .sliceE (a:=⟨a.block,a.off+l*z,none⟩) rfl hlt hm
         ·cases h
        ·cases h
       ·have hq:b.cells.length - a.off=0:=by omega
        rw [hq,Nat.zero_div] at h
        split at h
        ·rename_i l hh hbd
         cases h
         obtain ⟨rfl,rfl,rfl⟩:=bounds_eq hbd h1 h2 h3
         have hr:=bounds_ok (P:=P) (w:=w) (isS:=true) hbd (Nat.le_refl _)
         obtain ⟨_,_,_,q1,q2,_⟩:=bounds_some hbd
         simp only [Option.getD_none] at q2 hr
         obtain rfl:hh=0:=by omega
         obtain rfl:l=0:=by omega
         refine ⟨.slice (some A) 0 0,by simp [Instr.sliceAt,run_underlying hu,Instr.slice,hr,run_size' hz],?_⟩
         exact .sliceO0 (a:=⟨a.block,a.off+0*z,none⟩) rfl hm (by simp;omega)
        ·rename_i l hh mm hbd
         split at h
         ·cases h
          obtain ⟨rfl,rfl,rfl⟩:=bounds_eq hbd h1 h2 h3
          have hr:=bounds_ok (P:=P) (w:=w) (isS:=true) hbd (Nat.le_refl _)
          obtain ⟨_,_,_,q1,q2,q3⟩:=bounds_some hbd
          simp only [Option.getD_some] at q2 q3 hr
          obtain rfl:mm=0:=by omega
          obtain rfl:hh=0:=by omega
          obtain rfl:l=0:=by omega
          refine ⟨.slice (some A) 0 0,by simp [Instr.sliceAt,run_underlying hu,Instr.slice,hr,run_size' hz],?_⟩
          simp only [if_true]
          exact .sliceE0 hs
         ·cases h
        ·cases h
      ·cases h
   ·rename_i hc
    split at h
    ·rename_i l hh m hbd
     cases h
     obtain ⟨rfl,rfl,rfl⟩:=bounds_eq hbd h1 h2 h3
     obtain ⟨_,_,_,q1,q2,q3⟩:=bounds_some hbd
     have hr:=bounds_ok (P:=P) (w:=w) (isS:=true) hbd (Nat.le_refl _)
     cases bs with
     | none =>
      rw [hx.slice_nil]
      exact ⟨_,by simp [Instr.sliceAt,run_underlying hu,Instr.slice,hr,run_size' hz];rfl,by split<;>exact .snil _ _⟩
     | some a =>
      obtain ⟨hs,hlt,hy⟩:=hx.slice_exact hc hnro hnzo
      rcases hy with ⟨mA,hm,rfl⟩ | ⟨A,rfl,rfl,rfl⟩
      ·refine ⟨.slice (if m.getD cap=l then some (mA.addr a.off) else some ((mA.addr a.off).add (l*z))) (hh - l) (m.getD cap - l),by simp [Instr.sliceAt,run_underlying hu,Instr.slice,hr,run_size' hz],?_⟩
       have hlt':m.getD cap - l < OPEN:=by
        cases m with
        | none=>simp;omega
        | some mm=>simp at q3 ⊢;omega
       rw [addr_add]
       split
       ·exact .sliceE hs hlt' hm
       ·exact .sliceE (a:=⟨a.block,a.off+l*z,none⟩) rfl hlt' hm
      ·have hm0:m.getD 0=0:=by cases m with | none=>rfl | some mm=>simp at q3 ⊢;omega
       rw [hm0] at q2 hr ⊢
       obtain rfl:hh=0:=by omega
       obtain rfl:l=0:=by omega
       refine ⟨.slice A 0 0,by cases A<;>simp [Instr.sliceAt,run_underlying hu,Instr.slice,hr,run_size' hz],?_⟩
       simp only [if_true]
       exact .sliceE0 hs
    ·cases h
 ·rename_i n e a hu
  obtain ⟨hs,m,hm,rfl⟩:=hx.ptr_some
  split at h
  ·rename_i z l hh mm hz hbd
   split at h
   ·rename_i hn
    cases h
    obtain ⟨rfl,rfl,rfl⟩:=bounds_eq hbd h1 h2 h3
    obtain ⟨_,_,_,q1,q2,q3⟩:=bounds_some hbd
    have hr:=bounds_ok (P:=P) (w:=w) (isS:=false) hbd (Nat.le_refl _)
    refine ⟨.slice (some (if mm.getD n=l then m.addr a.off else (m.addr a.off).add (l*z))) (hh - l) (mm.getD n - l),by simp [Instr.sliceAt,run_underlying hu,Instr.sureAddr,hr,run_size' hz],?_⟩
    have hlt':mm.getD n - l < OPEN:=by
     have:=room_lt
     cases mm with
     | none=>simp;omega
     | some m'=>simp at q3 ⊢;omega
    rw [addr_add]
    split
    ·exact .sliceE hs hlt' hm
    ·exact .sliceE (a:=⟨a.block,a.off+l*z,none⟩) rfl hlt' hm
   ·cases h
  ·cases h
 ·cases h
end
end Go.Proofs.YtmndbhgbngkakaaDoor.E
end
section
/- The evaluator's operations and the model's: append, copy, clear, len. No condition. -/
namespace Go.Proofs.YtmndbhgbngkakaaDoor.E
open Go Go.RowKit
set_option linter.all false

section
variable {base:Nat} {μ:Mp} {H H':Mem} {w:World} {P:Program}
theorem Rl.heap (R:Rl base μ H w) {w1:World} (h:w1.heap=w.heap):Rl base μ H w1 :=
 ⟨R.wf,by rw [h];exact R.bd,R.has,fun i m b a c=>(R.row i m b a c).keep (.refl μ) (fun x=>x) (by rw [h]),fun i m es c a b=>(R.map i m es c a b).keep (.refl μ) (by rw [h]),R.apart⟩
theorem Rl.drew (R:Rl base μ H w):Stp base μ H w μ H w.drew :=
 ⟨R.heap rfl,.refl μ,(fun i m h h'=>by rw [h] at h';cases h'),Nat.le_refl _,(fun _ _=>rfl),(fun _ _ _=>rfl),(fun _ _ _=>rfl),Nat.le_refl _,(fun _ _ _=>rfl),rfl,rfl,rfl,Nat.le_refl _⟩
theorem lenV_ok {x x':Value} {n:Nat} (hx:VR μ x x') (h:lenV x=some n):∀ w:World,(Builtin.lenOf x').run P w=.ok n w:=by
 intro w
 cases hx<;>simp [lenV] at h<;>subst h<;>rfl
theorem VRs.of_flats {cs:List Value} (h:∀ v∈cs,flat depth v=true):VRs μ cs cs :=
 ⟨rfl,fun i x y a b=>by rw [a] at b;cases b;exact VR.of_flat μ depth (h x (List.mem_of_getElem? a))⟩
theorem firstV_ok (R:Rl base μ H w) {e n l:Nat} {x x':Value} {cs:List Value} (hx:VR μ x x') (hl:lenV x=some l) (hn:n≤l) (h:firstV H e n x=some cs) :
  ∃ cs',VRs μ cs cs'∧∀ w1:World,w1.heap=w.heap→(Builtin.firstCells e n x').run P w1=.ok cs'.toArray w1:=by
 unfold firstV at h
 split at h
 ·rename_i a n' c
  by_cases h0:n*e=0
  ·rw [if_pos h0] at h;cases h
   refine ⟨[],.nil μ,fun w1 _=>?_⟩
   have:∃ A l' c',x'=.slice A l' c':=by cases hx<;>exact ⟨_,_,_,rfl⟩
   obtain ⟨A,l',c',rfl⟩:=this
   cases A<;>simp [Builtin.firstCells,h0,loadCells,loadCellsFrom]
  ·rw [if_neg h0] at h
   simp [lenV] at hl;subst hl
   have hn0:n'≠0:=fun e0=>h0 (by rw [show n=0 by omega,Nat.zero_mul])
   have:∃ m c',μ a.block=some m∧x'=.slice (some (m.addr a.off)) n' c':=by
    cases hx with
    | sliceE hs hc hm=>exact ⟨_,_,hm,rfl⟩
    | sliceO hs hm hl hn=>exact ⟨_,_,hm,rfl⟩
    | sliceE0 hs=>exact absurd rfl hn0
    | sliceO0 hs hm hl=>exact absurd rfl hn0
    | sliceR hs hm hn=>exact ⟨_,_,hm,rfl⟩
    | sliceR0 hs=>exact absurd rfl hn0
    | sliceZ hs=>exact absurd rfl hn0
   obtain ⟨m,c',hm,rfl⟩:=this
   obtain ⟨cs',h1,h2,h3⟩:=rd_ok R hm h
   refine ⟨cs',h1,fun w1 hw=>?_⟩
   have h3':∀ (j:Nat) v,cs'[j]?=some v→w1.cell? ((m.addr a.off).add j)=some v:=fun j v hv=>by
    rw [← h3 j v hv];unfold World.cell?;rw [hw]
   have:=run_loadCells_list (P:=P) w1 (m.addr a.off) cs' h3'
   rw [← h1.1,h2] at this
   simp [Builtin.firstCells,this]
 ·cases h
  rw [hx.slice_nil]
  exact ⟨[],.nil μ,fun w1 _=>by simp [Builtin.firstCells]⟩
 ·rename_i s
  cases h
  rw [hx.str]
  refine ⟨((s.extract 0 n).data.map fun b=>Value.int .u8 b.toNat).toList,VRs.of_flats (fun v hv=>?_),fun w1 _=>by simp only [Builtin.firstCells,Sem.run_pure,Array.toArray_toList]⟩
  rw [Array.mem_toList_iff,Array.mem_map] at hv
  obtain ⟨b,_,rfl⟩:=hv
  rfl
 ·cases h
theorem zerosOf_flat {z:Value} (hz:flat depth z=true) (n:Nat):∀ v∈zerosOf z.cells n,flat depth v=true:=by
 intro v hv
 have hc:∀ u∈z.cells.toList,flat depth u=true:=fun u hu=>by
  have hr:=VR.of_flat (fun _=>none) depth hz
  cases z with
  | agg cs =>
   simp only [Value.cells] at hu
   simp only [depth,flat,List.all_eq_true] at hz
   have:=hz u hu
   have h5:∀ k v,flat k v=true→flat (k+1) v=true:=by
    intro k
    induction k with
    | zero=>intro v hv;cases v with
     | pointer a=>cases a<;>simp_all [flat]
     | map a=>cases a<;>simp_all [flat]
     | slice a _ _=>cases a<;>simp_all [flat]
     | _=>simp_all [flat]
    | succ k ih=>intro v hv;cases v with
     | pointer a=>cases a<;>simp_all [flat]
     | map a=>cases a<;>simp_all [flat]
     | slice a _ _=>cases a<;>simp_all [flat]
     | agg cs=>simp only [flat,List.all_eq_true] at hv ⊢;exact fun u hu=>ih u (hv u hu)
     | tuple cs=>simp only [flat,List.all_eq_true] at hv ⊢;exact fun u hu=>ih u (hv u hu)
     | iface t v=>simp only [flat] at hv ⊢;exact ih v hv
     | func f a b=>simp only [flat,List.all_eq_true,Bool.and_eq_true] at hv ⊢;exact ⟨fun u hu=>ih u (hv.1 u hu),fun u hu=>ih u (hv.2 u hu)⟩
     | _=>simp_all [flat]
   exact h5 5 u this
  | _=>simp only [Value.cells,List.mem_singleton] at hu;subst hu;exact hz
 simp only [zerosOf,Array.toList_map,List.mem_map,Array.mem_toList_iff,Array.mem_range] at hv
 obtain ⟨i,_,rfl⟩:=hv
 by_cases hlt:i % z.cells.size < z.cells.size
 ·rw [getElem!_pos z.cells _ hlt]
  exact hc _ (Array.mem_toList_iff.2 (Array.getElem_mem hlt))
 ·rw [getElem!_neg z.cells _ hlt]
  rfl
theorem storeCells_nil (a:Addr) (w:World):(storeCells a []).run P w=.ok () w:=rfl
theorem VR.slice_cases {bs:Option Addr} {n c:Nat} {y:Value} (h:VR μ (.slice bs n c) y):∃ bs' c',y=.slice bs' n c':=by
 cases h with
 | snil=>exact ⟨_,_,rfl⟩
 | sliceE=>exact ⟨_,_,rfl⟩
 | sliceO=>exact ⟨_,_,rfl⟩
 | sliceE0=>exact ⟨_,_,rfl⟩
 | sliceO0=>exact ⟨_,_,rfl⟩
 | sliceR=>exact ⟨_,_,rfl⟩
 | sliceR0=>exact ⟨_,_,rfl⟩
 | sliceZ=>exact ⟨_,_,rfl⟩
/-- What append does to memory. -/
theorem appendV_ok (R:Rl base μ H w) {e bytes k:Nat} {s s' v:Value} {new new':List Value} (el:TypeId) (more:Nat→List Value) (hs:VR μ s s') (hv:VRs μ new new') (h:appendV H e bytes s new k=some (v,H')) :
  ∃ bs n c,s'=.slice bs n c∧(n+k)*bytes≤maxRoom∧bytes≤65536∧n+k≤maxRoom∧0 < e ∧
   (n+k≤c→∃ w' μ',(match bs with | some a=>(storeCells (a.add (n*e)) new').run P w=.ok () w' | none=>w'=w)∧Stp base μ H w μ' H' w'∧VR μ' v (.slice bs (n+k) c)) ∧
   (c < n+k→∃ old',(∀ w1:World,w1.heap=w.heap→(Builtin.firstCells e n s').run P w1=.ok old'.toArray w1)∧∀ nc,n+k≤nc→(more nc).length=(nc - (n+k))*e →
    ∃ μ',Stp base μ H w μ' H' (w.drew.alloc (.cells (old'++new'++more nc).toArray el))∧VR μ' v (.slice (some ⟨w.heap.size,0,none⟩) (n+k) nc)):=by
 unfold appendV at h
 split at h
 ·rename_i bs n cap
  split at h
  ·rename_i hroom
   obtain ⟨⟨r1,r2,r3⟩,he,hnl,hone⟩:=hroom
   have hnl':new'.length=k*e:=by rw [← hv.1];exact hnl
   -- where all goes to a new row of a new family
   have fresh:∀ (old old':List Value),VRs μ old old'→old.length=n*e→(v,H')=(.slice (some ⟨H.n,0,none⟩) (n+k) OPEN,H.new (old++new) e)→∀ nc,n+k≤nc→(more nc).length=(nc - (n+k))*e →
     ∃ μ',Stp base μ H w μ' H' (w.drew.alloc (.cells (old'++new'++more nc).toArray el))∧VR μ' v (.slice (some ⟨w.heap.size,0,none⟩) (n+k) nc):=by
    intro old old' ho hol hq nc hnc hmore
    simp only [Prod.mk.injEq] at hq
    obtain ⟨rfl,rfl⟩:=hq
    have S:=(R.heap (w1:=w.drew) rfl).new e el (more nc) (ho.append hv)
    refine ⟨_,Stp.trans R R.drew S,?_⟩
    have:=VR.sliceO (μ:=upd μ H.n ⟨⟨w.drew.heap.size,0,none⟩,(old'++new'++more nc).length,e⟩) (a:=⟨H.n,0,none⟩) (n:=n+k) (c:=nc) rfl (upd_same μ H.n _)
     (by
      have l1:old'.length=n*e:=by rw [← ho.1];exact hol
      simp only [List.length_append,l1,hnl',hmore,Nat.zero_add]
      rw [← Nat.add_mul,← Nat.add_mul];congr 1;omega) hnc
    exact this
   by_cases hnzo:cap=ZO
   ·rw [if_pos hnzo] at h;cases h
   rw [if_neg hnzo] at h
   by_cases hnro:cap=RO
   ·rw [if_pos hnro] at h
    subst hnro
    by_cases hk:k=0
    ·subst hk
     rw [if_pos rfl] at h
     simp only [Option.some.injEq,Prod.mk.injEq] at h
     obtain ⟨rfl,rfl⟩:=h
     have hnew:new'=[]:=List.length_eq_zero_iff.1 (by rw [hnl'];simp)
     subst hnew
     have:∃ bs' c',s'=.slice bs' n c'∧n≤c':=by
      cases bs with
      | none=>rw [hs.slice_nil];exact ⟨_,_,rfl,by have:=(show maxRoom < RO by decide);omega⟩
      | some a =>
       obtain ⟨_,hy⟩:=hs.slice_ro
       rcases hy with ⟨m,c,_,rfl,hn⟩ | ⟨A,c,rfl,hn⟩
       ·exact ⟨_,_,rfl,hn⟩
       ·subst hn;exact ⟨_,_,rfl,Nat.zero_le _⟩
     obtain ⟨bs',c',rfl,hnc⟩:=this
     refine ⟨bs',n,c',rfl,r1,r2,r3,he,fun _=>⟨w,μ,?_,.refl R,hs⟩,fun hlt=>by omega⟩
     cases bs' with
     | none=>rfl
     | some A=>exact storeCells_nil _ _
    ·rw [if_neg hk] at h
     cases h
   rw [if_neg hnro] at h
   split at h
   ·rename_i hopen
    subst hopen
    split at h
    ·cases h
    ·rename_i a
     obtain ⟨hsp,m,hm,hy⟩:=hs.slice_open
     split at h
     ·cases h
     ·rename_i b hb
      obtain ⟨ho,ha⟩:=live_some hb
      have r:=R.row a.block m b hm ho
      split at h
      ·rename_i hc
       obtain ⟨hbe,hro,hoff⟩:=hc
       obtain ⟨x1,x2,c0,ty,x3,x4⟩:=r.rw hro
       have hme:m.e=e:=by rw [r.e,hbe]
       by_cases hk:k=0
       ·subst hk
        rw [if_pos rfl] at h
        simp only [Option.some.injEq,Prod.mk.injEq] at h
        obtain ⟨rfl,rfl⟩:=h
        have hnew:new'=[]:=List.length_eq_zero_iff.1 (by rw [hnl'];simp)
        subst hnew
        obtain ⟨bs',c',rfl⟩:=hs.slice_cases
        refine ⟨bs',n,c',rfl,r1,r2,r3,he,fun _=>⟨w,μ,?_,.refl R,hs⟩,fun hlt=>?_⟩
        ·cases bs' with
         | none=>rfl
         | some A=>exact storeCells_nil _ _
        ·exfalso
         rcases hy with ⟨c,hh,_,hle⟩ | ⟨A,hh,hn0,_⟩
         ·cases hh;omega
         ·cases hh;omega
       ·rw [if_neg hk] at h
        split at h
        ·rename_i hfit
         cases hwr:wr H a.block (a.off+n*e) new with
         | none=>simp [hwr] at h
         | some H1 =>
          simp [hwr] at h
          obtain ⟨rfl,rfl⟩:=h
          rcases hy with ⟨c,rfl,hl,hle⟩ | ⟨A,rfl,hn0,hl⟩
          ·refine ⟨_,_,_,rfl,r1,r2,r3,he,fun _=>?_,fun hlt=>?_⟩
           ·obtain ⟨w',h1,h2⟩:=wr_ok (P:=P) R hm hv hwr
            refine ⟨w',μ,?_,h2,?_⟩
            ·simp only [addr_add];exact h1
            ·refine .sliceO hsp hm hl (by assumption)
           ·exfalso
            rw [hme] at hl
            have:(n+k)*e≤c*e:=by rw [Nat.add_mul,← hnl];omega
            have:=Nat.le_of_mul_le_mul_right this he
            omega
          ·exfalso
           subst hn0
           have:0 < k*e:=Nat.mul_pos (by omega) he
           omega
        ·rename_i hfit
         simp only [Option.some.injEq,Prod.mk.injEq] at h
         obtain ⟨rfl,rfl⟩:=h
         -- what is there already
         have hrd:rd H a.block a.off (n*e)=some ((b.cells.drop a.off).take (n*e)):=by unfold rd;rw [hb];simp [hoff]
         obtain ⟨old',o1,o2,o3⟩:=rd_ok R hm hrd
         have ol:old'.length=n*e:=by rw [← o1.1];exact o2
         have hez:b.esz≠0:=by omega
         have own:∀ (j:Nat) v,b.cells[j]?=some v→∃ v',c0[m.at_.off+j]?=some v'∧VR μ v v':=fun j v hj=>by
          obtain ⟨v',q1,q2⟩:=r.cells ha j v hj
          exact ⟨v',by simpa [MA.addr,World.cell?,x3] using q1,q2⟩
         have copy:∀ nc,n+k≤nc→(more nc).length=(nc - (n+k))*e →
           ∃ μ',Stp base μ H w μ' (H.grow a.block b (a.off+n*e == b.cells.length) ((b.cells.drop a.off).take (n*e)++new)) (w.drew.alloc (.cells (old'++new'++more nc).toArray el))∧VR μ' (.slice (some ⟨H.n,0,none⟩) (n+k) OPEN) (.slice (some ⟨w.heap.size,0,none⟩) (n+k) nc):=by
          intro nc hnc hmore
          have hnw:(w.drew.alloc (.cells (old'++new'++more nc).toArray el)).heap[w.heap.size]?=some (.cells (old'++new'++more nc).toArray el (0,0)):=heap_push_new w.drew _
          have hlt:=R.blk_lt hm
          have S:=R.grow (w':=w.drew.alloc (.cells (old'++new'++more nc).toArray el)) hm hb hro hez (a.off+n*e == b.cells.length) (cs:=(b.cells.drop a.off).take (n*e)++new) x3 (c':=c0) rfl
           (fun q hq _=>heap_push_lt w.drew _ hq) ((heap_push_lt w.drew _ hlt).trans x3) (by simp) rfl rfl rfl (fun _=>own)
           (mn:=⟨⟨w.heap.size,0,none⟩,(old'++new'++more nc).length,e⟩) rfl hbe.symm hnw (by simp) (by simp [← o1.1,← hv.1]) (.inr (Nat.le_refl _)) (fun j v hj=>?_)
          ·refine ⟨_,S,?_⟩
           refine .sliceO (a:=⟨H.n,0,none⟩) (c:=nc) rfl (upd_same μ H.n _) ?_ hnc
           simp only [List.length_append,ol,hnl',hmore,Nat.zero_add]
           rw [← Nat.add_mul,← Nat.add_mul];congr 1;omega
          ·have hjl:j < (old'++new').length:=by
            have:=(List.getElem?_eq_some_iff.1 hj).1
            rw [← (o1.append hv).1];exact this
           refine ⟨(old'++new')[j],?_,(o1.append hv).2 j v _ hj (List.getElem?_eq_getElem hjl)⟩
           show (old'++new'++more nc).toArray[0+j]?=_
           rw [List.getElem?_toArray,Nat.zero_add,List.getElem?_append_left hjl]
           exact List.getElem?_eq_getElem hjl
         rcases hy with ⟨c,rfl,hl,hle⟩ | ⟨A,rfl,hn0,hl⟩
         ·refine ⟨_,_,_,rfl,r1,r2,r3,he,fun hfit'=>?_,fun hlt=>?_⟩
          ·-- in place, beyond what is known
           rw [hme] at hl
           have hin:m.at_.off+(a.off+n*e)+new'.length≤c0.size:=by
            have:(n+k)*e≤c*e:=Nat.mul_le_mul_right _ hfit'
            rw [Nat.add_mul] at this
            rw [x4,hnl'];omega
           have hst:=run_storeCells_at P m.at_.block (m.at_.off+(a.off+n*e)) ty new' 0 c0 w x3 (by simpa using hin) (oneCells hv (by simpa using hone))
           simp only [Nat.add_zero] at hst
           have hsp':(c0.toList.take (m.at_.off+(a.off+n*e))++new'++c0.toList.drop (m.at_.off+(a.off+n*e)+new'.length))=splice c0.toList (m.at_.off+(a.off+n*e)) new':=rfl
           rw [hsp'] at hst
           have hget:∀ j,(splice c0.toList (m.at_.off+(a.off+n*e)) new').toArray[j]?=if j < m.at_.off+(a.off+n*e) then c0[j]? else if j < m.at_.off+(a.off+n*e)+new'.length then new'[j - (m.at_.off+(a.off+n*e))]? else c0[j]?:=fun j=>by
            rw [List.getElem?_toArray,splice_get _ _ _ _ (by simpa using hin)];simp
           have S:=R.grow (w':=w.setRow m.at_.block (splice c0.toList (m.at_.off+(a.off+n*e)) new').toArray) hm hb hro hez (a.off+n*e == b.cells.length) (cs:=(b.cells.drop a.off).take (n*e)++new) x3
            (c':=(splice c0.toList (m.at_.off+(a.off+n*e)) new').toArray) (by rw [List.size_toArray,splice_length _ _ _ (by simpa using hin)];simp)
            (fun q hq hne=>setRow_other w _ _ _ hne) (setRow_heap w _ _ _ _ _ x3) (by simp) rfl rfl rfl (fun hkeep j v hj=>?_)
            (mn:=⟨m.addr a.off,m.lim,e⟩) rfl hbe.symm (cn:=(splice c0.toList (m.at_.off+(a.off+n*e)) new').toArray) (tn:=ty) (setRow_heap w _ _ _ _ _ x3) (by simp [splice_length _ _ _ (show m.at_.off+(a.off+n*e)+new'.length≤c0.toList.length by simpa using hin)];exact x4)
            (by simp [MA.addr];rw [x4] at hin;rw [hnl'] at hin;rw [hnl];omega) (.inl rfl) (fun j v hj=>?_)
           ·refine ⟨_,_,?_,S,?_⟩
            ·simp only [addr_add];exact hst
            ·refine .sliceO (a:=⟨H.n,0,none⟩) (m:=⟨m.addr a.off,m.lim,e⟩) (c:=c) rfl (upd_same μ H.n _) ?_ hfit'
             simp [MA.addr];omega
           ·have hjl:=(List.getElem?_eq_some_iff.1 hj).1
            have hk':a.off+n*e=b.cells.length:=by simpa using hkeep
            obtain ⟨v',q1,q2⟩:=own j v hj
            exact ⟨v',by rw [hget,if_pos (by omega)];exact q1,q2⟩
           ·simp only [MA.addr]
            rw [hget]
            have hlen:((b.cells.drop a.off).take (n*e)).length=n*e:=o2
            by_cases hj1:j < n*e
            ·rw [if_pos (by omega)]
             rw [List.getElem?_append_left (by omega),List.getElem?_take,if_pos hj1,List.getElem?_drop] at hj
             obtain ⟨v',q1,q2⟩:=own _ v hj
             exact ⟨v',by rw [← q1];congr 1;omega,q2⟩
            ·rw [if_neg (by omega)]
             rw [List.getElem?_append_right (by omega),hlen] at hj
             have hj2:=(List.getElem?_eq_some_iff.1 hj).1
             have hj3:j - n*e < new'.length:=by rw [← hv.1];exact hj2
             rw [if_pos (by omega)]
             refine ⟨new'[j - n*e],?_,hv.2 _ v _ hj (List.getElem?_eq_getElem hj3)⟩
             rw [show m.at_.off+a.off+j - (m.at_.off+(a.off+n*e))=j - n*e by omega]
             exact List.getElem?_eq_getElem hj3
          ·refine ⟨old',fun w1 hw=>?_,copy⟩
           have o3':∀ (j:Nat) v,old'[j]?=some v→w1.cell? ((m.addr a.off).add j)=some v:=fun j v hv=>by
            rw [← o3 j v hv];unfold World.cell?;rw [hw]
           have:=run_loadCells_list (P:=P) w1 (m.addr a.off) old' o3'
           rw [ol] at this
           simp [Builtin.firstCells,this]
         ·subst hn0
          refine ⟨_,_,_,rfl,r1,r2,r3,he,fun hfit'=>?_,fun hlt=>⟨old',fun w1 hw=>?_,copy⟩⟩
          ·omega
          ·have:old'=[]:=List.length_eq_zero_iff.1 (by rw [ol];simp)
           subst this
           simp [Builtin.firstCells,loadCells,loadCellsFrom]
      ·cases h
   ·rename_i hopen
    split at h
    ·rename_i hfit
     by_cases hk:k=0
     ·subst hk
      rw [if_pos rfl] at h
      simp only [Option.some.injEq,Prod.mk.injEq] at h
      obtain ⟨rfl,rfl⟩:=h
      have hnew:new'=[]:=List.length_eq_zero_iff.1 (by rw [hnl'];simp)
      subst hnew
      obtain ⟨bs',c',rfl⟩:=hs.slice_cases
      have hcc:c'=cap:=by
       cases bs with
       | none=>have:=hs.slice_nil;cases this;rfl
       | some a =>
        obtain ⟨_,_,hy⟩:=hs.slice_exact hopen hnro hnzo
        rcases hy with ⟨m,hm,hy⟩ | ⟨A,hy,_,h0⟩
        ·cases hy;rfl
        ·cases hy;exact h0.symm
      refine ⟨bs',n,c',rfl,r1,r2,r3,he,fun _=>⟨w,μ,?_,.refl R,hs⟩,fun hlt=>by omega⟩
      cases bs' with
      | none=>rfl
      | some A=>exact storeCells_nil _ _
     ·rw [if_neg hk] at h
      split at h
      ·cases h
      ·rename_i a
       obtain ⟨hsp,hlt,hy⟩:=hs.slice_exact hopen hnro hnzo
       cases hwr:wr H a.block (a.off+n*e) new with
       | none=>simp [hwr] at h
       | some H1 =>
        simp [hwr] at h
        obtain ⟨rfl,rfl⟩:=h
        rcases hy with ⟨m,hm,rfl⟩ | ⟨A,rfl,h0,h1⟩
        ·refine ⟨_,_,_,rfl,r1,r2,r3,he,fun _=>?_,fun hlt=>by omega⟩
         obtain ⟨w',h1,h2⟩:=wr_ok (P:=P) R hm hv hwr
         refine ⟨w',μ,?_,h2,.sliceE hsp hlt hm⟩
         simp only [addr_add];exact h1
        ·omega
    ·rename_i hfit
     split at h
     ·cases h
     ·rename_i old hold
      simp only [Option.some.injEq] at h
      split at hold
      ·split at hold
       ·rename_i hn0
        cases hold
        subst hn0
        have:=hs.slice_nil
        subst this
        refine ⟨_,_,_,rfl,r1,r2,r3,he,fun hfit'=>absurd hfit' hfit,fun hlt=>⟨[],fun w1 _=>by simp [Builtin.firstCells],fresh [] [] (.nil μ) (by simp) h.symm⟩⟩
       ·cases hold
      ·rename_i a
       obtain ⟨hsp,hlt,hy⟩:=hs.slice_exact hopen hnro hnzo
       rcases hy with ⟨m,hm,rfl⟩ | ⟨A,rfl,h0,h1⟩
       ·obtain ⟨old',o1,o2,o3⟩:=rd_ok R hm hold
        have ol:old'.length=n*e:=by rw [← o1.1];exact o2
        refine ⟨_,_,_,rfl,r1,r2,r3,he,fun hfit'=>absurd hfit' hfit,fun hlt=>⟨old',fun w1 hw=>?_,fresh old old' o1 o2 h.symm⟩⟩
        have o3':∀ (j:Nat) v,old'[j]?=some v→w1.cell? ((m.addr a.off).add j)=some v:=fun j v hv=>by
         rw [← o3 j v hv];unfold World.cell?;rw [hw]
        have:=run_loadCells_list (P:=P) w1 (m.addr a.off) old' o3'
        rw [ol] at this
        simp [Builtin.firstCells,this]
       ·subst h0;subst h1
        obtain ⟨_,_,_,e0⟩:=rd_some hold
        simp at e0
        subst e0
        refine ⟨_,_,_,rfl,r1,r2,r3,he,fun hfit'=>absurd hfit' hfit,fun hlt=>⟨[],fun w1 hw=>?_,fresh [] [] (.nil μ) (by simp) h.symm⟩⟩
        cases A<;>simp [Builtin.firstCells,loadCells,loadCellsFrom]
  ·cases h
 ·cases h
end
end Go.Proofs.YtmndbhgbngkakaaDoor.E
end
section
/- The evaluator's operations and the model's: the builtins. No condition. -/
namespace Go.Proofs.YtmndbhgbngkakaaDoor.E
open Go Go.RowKit
set_option linter.all false

section
variable {base:Nat} {μ:Mp} {H H':Mem} {w:World} {P:Program}
theorem elemT_some {t e:TypeId} (h:elemT P t=some e):P.underlying t=some (.slice e):=by
  unfold elemT at h
  split at h
  · rename_i e' hu;cases h;exact hu
  · cases h
/-- append, once its second argument is told. -/
def appCore (size:Nat) (elem:TypeId) (zeros:Bool) (base:Option Addr) (sLen sCap n:Nat) (s x:Value) (appended:Sem (Array Value)):Sem Value:=do
  let need:=sLen+n
  if need≤sCap then
    let new ← appended
    if let some a:=base then storeCells (a.add (sLen*size)) new.toList
    pure (.slice base need sCap)
  else
    if (need : Int) > IntKind.i64.max ∧ (zeros ∨ (← typeInfo elem).bytes = 0) then runtimePanic (.error "growslice: len out of range")
    if Builtin.nextslicecap need sCap * (← typeInfo elem).bytes > 2 ^ 48 then (if zeros then runtimePanic (.error "growslice: len out of range") else do
      if !(← Builtin.mayShare size sLen n base x) then mark .noRoom
      unsupported (.resourceLimit "append: a slice or a string whose bytes no memory bears"))
    let newCap ← choose (.appendCap need sCap elem)
    askRoom (newCap*(← typeInfo elem).bytes)
    let old ← Builtin.firstCells size sLen s
    let new ← appended
    let rest:=Builtin.zeroCells (← zeroValue elem).cells (newCap - need)
    pure (.slice (some (← newRow elem (old++new++rest))) need newCap)
theorem append_plain {ts:Array TypeId} {ty el t0 t1:TypeId} {d1:TypeDesc} {e:Nat} {base:Option Addr} {n c k:Nat} {x:Value} (h0:ts[0]?=some t0) (hu0:P.underlying t0=some (.slice el))
    (h1:ts[1]?=some t1) (hu1:P.underlying t1=some d1) (hi:isIntD d1=false) (he:tsz P el=some e) (hl:(Builtin.lenOf x).run P w=.ok k w) :
    (Builtin.append_ ts ty #[.slice base n c,x]).run P w=(appCore e el false base n c k (.slice base n c) x (Builtin.firstCells e k x)).run P w:=by
  cases d1<;>first
    | (simp [isIntD] at hi;done)
    | (simp only [Builtin.append_,h0,h1,Sem.run_bind,run_underlying hu0,run_underlying hu1,run_size' he,Result.andThen_ok,Sem.run_pure,List.getElem?_toArray,List.getElem?_cons_zero,List.getElem?_cons_succ,hl,Bool.false_eq_true,if_false,appCore,Bool.not_false,if_true,false_or]
       cases base<;>rfl)
theorem append_zeros {ts:Array TypeId} {ty el t0 t1:TypeId} {d1:TypeDesc} {e:Nat} {base:Option Addr} {n c k:Nat} {kk:IntKind} {inf:TypeInfo} (h0:ts[0]?=some t0) (hu0:P.underlying t0=some (.slice el))
    (h1:ts[1]?=some t1) (hu1:P.underlying t1=some d1) (hi:isIntD d1=true) (he:tsz P el=some e) (hti:(typeInfo el).run P w=.ok inf w) (hk:k≤maxRoom) (hkb:k*inf.bytes≤maxRoom) :
    (Builtin.append_ ts ty #[.slice base n c,.int kk k]).run P w=(appCore e el true base n c k (.slice base n c) (.int kk k) (if k*e=0 then pure #[] else do pure (Builtin.zeroCells (← zeroValue el).cells k))).run P w:=by
  have hmr:maxRoom=140737488355328:=rfl
  obtain ⟨dk,rfl⟩:∃ dk,d1=.int dk:=by cases d1<;>first | exact ⟨_,rfl⟩ | simp [isIntD] at hi
  have hw:IntKind.i64.wrap (k:Int)=k:=IntWalk.i64_in _ (by omega)
  have hb2:¬ ((k:Int)*inf.bytes > 2 ^ 48):=by
    rw [← Int.natCast_mul]
    generalize k*inf.bytes=q at hkb
    omega
  have hneg:¬ ((k:Int) < 0):=by omega
  simp only [Builtin.append_,h0,h1,Sem.run_bind,run_underlying hu0,run_underlying hu1,run_size' he,Result.andThen_ok,Sem.run_pure,List.getElem?_toArray,List.getElem?_cons_zero,List.getElem?_cons_succ,if_true,asInt,asIntOf,hw,hneg,if_false,hti,hb2,Int.toNat_natCast,Bool.not_true,Bool.false_eq_true,appCore,if_true]
  cases base<;>rfl
theorem append_tail (R:Rl base μ H w) {el:TypeId} {e bytes k:Nat} {z s s' x' v:Value} {new new':List Value} {zeros:Bool} {app:Sem (Array Value)} (he:tsz P el=some e) (hb:tbytes P el=some bytes) (hz:tzero P el=some z) (hze:z.cells.size=e) (hs:VR μ s s') (hv:VRs μ new new')
    (happ:∀ w1:World,w1.heap=w.heap→app.run P w1=.ok new'.toArray w1)
    (h:appendV H e bytes s new k=some (v,H')) :
    ∃ bs n c,s'=.slice bs n c∧∃ μ' v' w',(appCore e el zeros bs n c k s' x' app).run P w=.ok v' w'∧Stp base μ H w μ' H' w'∧VR μ' v v':=by
  obtain ⟨bs,n,c,rfl⟩:∃ bs n c,s=.slice bs n c:=by
    cases s with
    | slice bs n c=>exact ⟨bs,n,c,rfl⟩
    | _=>simp [appendV] at h
  have hzr':∀ w,(zeroValue el).run P w=.ok z w:=fun w=>(run_zero' hz w).1
  obtain ⟨inf,hin⟩:∃ i,P.info? el=some i:=by
    unfold tsz at he
    cases hi:P.info? el with
    | none=>simp [hi] at he
    | some i=>exact ⟨i,rfl⟩
  have hti:∀ w,(typeInfo el).run P w=.ok inf w:=fun w=>by simp [typeInfo,hin]
  have hby:inf.bytes=bytes:=by unfold tbytes at hb;simpa [hin] using hb
  obtain ⟨bs',n',c',hs',r1,r2,r3,he0,hroom,hgrow⟩:=appendV_ok (P:=P) R el (fun nc=>(Builtin.zeroCells z.cells (nc - (n+k))).toList) hs hv h
  obtain ⟨bs2,c2,hs2⟩:=hs.slice_cases
  rw [hs'] at hs2
  simp only [Value.slice.injEq] at hs2
  obtain ⟨rfl,hnn,rfl⟩:=hs2
  subst hnn
  subst hs'
  refine ⟨bs',n',c',rfl,?_⟩
  have hmr:maxRoom=140737488355328:=rfl
  by_cases hfit:n'+k≤c'
  · obtain ⟨w',μ',hst,S,hr⟩:=hroom hfit
    refine ⟨μ',_,w',?_,S,hr⟩
    cases bs' with
    | none =>
      subst hst
      simp only [appCore,hfit,if_true,Sem.run_bind,happ _ rfl,Result.andThen_ok,Sem.run_pure]
    | some a =>
      simp only at hst
      simp only [appCore,hfit,if_true,Sem.run_bind,happ _ rfl,Result.andThen_ok,Sem.run_pure,hst]
  · obtain ⟨old',ho,hnew⟩:=hgrow (by omega)
    obtain ⟨nc,hnc,hcut⟩:∃ nc,n'+k≤nc∧(Question.appendCap (n'+k) c' el).cut (w.tape w.drawn (.appendCap (n'+k) c' el))=nc:=⟨_,by simp [Question.cut],rfl⟩
    obtain ⟨μ',S,hr⟩:=hnew nc hnc (by simp [Builtin.zeroCells,hze])
    refine ⟨μ',_,_,?_,S,hr⟩
    have hmax:¬ (((n'+k:Nat):Int) > IntKind.i64.max):=by
      simp [IntKind.max,IntKind.signed,IntKind.bits];omega
    have hgs:¬ (Builtin.nextslicecap (n'+k) c'*inf.bytes > 2 ^ 48):=by
      have:=growslice_fits (need:=n'+k) (old:=c') (bytes:=inf.bytes) (by omega) (by rw [hby];omega)
      omega
    have hch:(choose (.appendCap (n'+k) c' el)).run P w=.ok nc w.drew:=by
      rw [run_choose];simp [Question.forced,hcut]
    simp only [appCore,hfit,if_false,Sem.run_bind,hti,Result.andThen_ok,hmax,false_and,hgs,hch,run_askRoom,ho w.drew rfl,happ w.drew rfl,hzr',newRow,run_newObj_alloc,Sem.run_pure]
    congr 2
    congr 1
    apply Array.ext'
    simp
end
end Go.Proofs.YtmndbhgbngkakaaDoor.E
end
section
/- The evaluator's operations and the model's: all builtins. No condition. -/
namespace Go.Proofs.YtmndbhgbngkakaaDoor.E
open Go Go.RowKit
set_option linter.all false

section
variable {base:Nat} {μ:Mp} {H H':Mem} {w:World} {P:Program}
/-- What a builtin, or any operation with a value, comes to. -/
def GoesV (base:Nat) (μ:Mp) (H:Mem) (w:World) (v:Value) (H':Mem) (r:Result Value):Prop:=∃ μ' v' w',r=.ok v' w'∧Stp base μ H w μ' H' w'∧VR μ' v v'
theorem GoesV.same (R:Rl base μ H w) {v v':Value} {r:Result Value} (h:r=.ok v' w) (hv:VR μ v v'):GoesV base μ H w v H r:=⟨μ,v',w,h,.refl R,hv⟩
theorem flats_eq {xs ys:List Value} (h:VRs μ xs ys) (hf:xs.all (flat depth)=true):ys=xs:=by
 rw [List.all_eq_true] at hf
 exact (VRs.ext h.1 fun i a b ha hb=>(flat_eq depth (hf a (List.mem_of_getElem? ha)) (h.2 i a b ha hb)).symm).symm
theorem zeroCells_eq (z:Array Value) (k:Nat):Builtin.zeroCells z k=(zerosOf z (k*z.size)).toArray:=by unfold Builtin.zeroCells zerosOf;rw [Array.toArray_toList]
theorem copy_ok (R:Rl base μ H w) {ts:Array TypeId} {ty el t0:TypeId} {e dl dc sl:Nat} {bs:Option Addr} {d' s s' v:Value} {cs:List Value} (h0:ts[0]?=some t0) (hu0:P.underlying t0=some (.slice el)) (he:tsz P el=some e)
  (h:(match bs with | some a=>if cs=[] then some (goInt (Nat.min sl dl),H) else (wr H a.block a.off cs).map fun H'=>(goInt (Nat.min sl dl),H') | none=>some (goInt (Nat.min sl dl),H))=some (v,H'))
  (hd:VR μ (.slice bs dl dc) d') (hs:VR μ s s') (hl:lenV s=some sl) (hf:firstV H e (Nat.min sl dl) s=some cs) :
  GoesV base μ H w v H' ((Builtin.copy_ ts ty #[d',s']).run P w):=by
 obtain ⟨bs',c',rfl⟩:=hd.slice_cases
 obtain ⟨cs',q1,q2⟩:=firstV_ok (P:=P) R hs hl (Nat.min_le_left _ _) hf
 have hl':=lenV_ok (P:=P) hs hl w
 have hq:=q2 w rfl
 have run:(Builtin.copy_ ts ty #[.slice bs' dl c',s']).run P w=(match bs' with | some a=>((storeCells a cs').run P w).andThen fun _ w'=>.ok (goInt (Nat.min sl dl)) w' | none=>.ok (goInt (Nat.min sl dl)) w):=by
  simp only [Builtin.copy_,h0,List.getElem?_toArray,List.getElem?_cons_zero,List.getElem?_cons_succ,Sem.run_bind,run_underlying hu0,Result.andThen_ok,hl',run_size' he,hq]
  cases bs'<;>simp
 rw [run]
 cases bs with
 | none =>
  have:=hd.slice_nil
  simp only [Value.slice.injEq] at this
  obtain ⟨rfl,_⟩:=this
  simp only [Option.some.injEq,Prod.mk.injEq] at h
  obtain ⟨rfl,rfl⟩:=h
  exact .same R rfl (.int _ _)
 | some a =>
  by_cases hn:cs=[]
  ·subst hn
   have:cs'=[]:=q1.of_nil
   subst this
   simp only [if_true,Option.some.injEq,Prod.mk.injEq] at h
   obtain ⟨rfl,rfl⟩:=h
   exact .same R (by cases bs'<;>simp [storeCells]<;>rfl) (.int _ _)
  ·simp only [hn,if_false] at h
   cases hw:wr H a.block a.off cs with
   | none=>simp [hw] at h
   | some H1 =>
    simp [hw] at h
    obtain ⟨rfl,rfl⟩:=h
    have hdl:dl≠0:=by
     intro e0
     subst e0
     have hm0:Nat.min sl 0=0:=Nat.min_zero sl
     rw [hm0] at hf
     have:cs=[]:=by
      unfold firstV at hf
      split at hf
      ·simp at hf;first | exact hf | exact hf.symm
      ·simp at hf;first | exact hf | exact hf.symm
      ·rename_i s;simp at hf;first | exact hf | exact hf.symm
      ·cases hf
     exact hn this
    have:∃ m,μ a.block=some m∧bs'=some (m.addr a.off):=by
     generalize dl=q at hd hdl
     generalize dc=q2 at hd
     cases hd with
     | sliceE hs hc hm=>exact ⟨_,hm,rfl⟩
     | sliceO hs hm hl hn=>exact ⟨_,hm,rfl⟩
     | sliceE0 hs=>exact absurd rfl hdl
     | sliceO0 hs hm hl=>exact absurd rfl hdl
     | sliceR hs hm hn=>exact ⟨_,hm,rfl⟩
     | sliceR0 hs=>exact absurd rfl hdl
     | sliceZ hs=>exact absurd rfl hdl
    obtain ⟨m,hm,rfl⟩:=this
    obtain ⟨w',a1,a2⟩:=wr_ok (P:=P) R hm q1 hw
    exact ⟨μ,goInt (Nat.min sl dl),w',by simp [a1],a2,.int _ _⟩
theorem clear_ok (R:Rl base μ H w) {ts:Array TypeId} {ty el t0:TypeId} {n c:Nat} {a:Addr} {x' z:Value} (h0:ts[0]?=some t0) (hu0:P.underlying t0=some (.slice el)) (hx:VR μ (.slice (some a) n c) x')
  (hn:n≠0) (hz:tzero P el=some z) (h:wr H a.block a.off (zerosOf z.cells (n*z.cells.size))=some H') :
  GoesV base μ H w (.tuple #[]) H' ((Builtin.clear_ ts ty #[x']).run P w):=by
 have:∃ m c',μ a.block=some m∧x'=.slice (some (m.addr a.off)) n c':=by
  generalize c=q2 at hx
  cases hx with
  | sliceE hs hc hm=>exact ⟨_,_,hm,rfl⟩
  | sliceO hs hm hl hn=>exact ⟨_,_,hm,rfl⟩
  | sliceE0 hs=>exact absurd rfl hn
  | sliceO0 hs hm hl=>exact absurd rfl hn
  | sliceR hs hm hn=>exact ⟨_,_,hm,rfl⟩
  | sliceR0 hs=>exact absurd rfl hn
  | sliceZ hs=>exact absurd rfl hn
 obtain ⟨m,c',hm,rfl⟩:=this
 obtain ⟨hzr,hzf⟩:=run_zero' hz w
 obtain ⟨w',a1,a2⟩:=wr_ok (P:=P) R hm (VRs.of_flats (zerosOf_flat hzf _)) h
 refine ⟨μ,_,w',?_,a2,.tuple rfl (fun i x y h=>by simp at h)⟩
 have e:(Builtin.zeroCells z.cells n).toList=zerosOf z.cells (n*z.cells.size):=rfl
 obtain ⟨k,rfl⟩:∃ k,n=k+1:=⟨n - 1,by omega⟩
 simp only [Builtin.clear_,h0,List.getElem?_toArray,List.getElem?_cons_zero,Sem.run_bind,run_underlying hu0,Result.andThen_ok,hzr,e,a1,Sem.run_pure]
theorem builtinV_ok (R:Rl base μ H w) {b:Builtin} {ts:Array TypeId} {ty:TypeId} {consts:Array Bool} {args args':List Value} {v:Value} (ha:VRs μ args args') (h:builtinV P H b ts ty consts args=some (v,H')) :
  ∃ μ' v' w',(builtin b ts ty consts args'.toArray).run P w=.ok (.value v') w'∧Stp base μ H w μ' H' w'∧VR μ' v v':=by
 -- len, cap: by the value; append, copy, clear: above; min, max: flat
 have lift:∀ {s:Sem Value},GoesV base μ H w v H' (s.run P w)→∃ μ' v' w',(do pure (.value (← s)):Sem Next).run P w=.ok (.value v') w'∧Stp base μ H w μ' H' w'∧VR μ' v v':=by
  intro s ⟨μ',v',w',a,b,c⟩
  exact ⟨μ',v',w',by simp [a],b,c⟩
 unfold builtinV at h
 split at h
 ·-- len
  rename_i x
  obtain ⟨x',_,rfl,hx,ht⟩:=ha.of_cons
  rw [ht.of_nil]
  refine lift (s:=Builtin.len_ ts ty #[x']) ?_
  cases h0:ts[0]? with
  | none=>simp [h0] at h
  | some t0 =>
   simp only [h0,Option.bind_some] at h
   split at h
   ·rename_i s hu
    cases h
    rw [hx.str]
    exact .same R (by simp [Builtin.len_,h0,run_underlying hu,goInt]) (.int _ _)
   ·rename_i e bs n c hu
    cases h
    obtain ⟨bs',c',rfl⟩:=hx.slice_cases
    exact .same R (by simp [Builtin.len_,h0,run_underlying hu,goInt]) (.int _ _)
   ·rename_i k e hu
    cases h
    cases hx
    exact .same R (by simp [Builtin.len_,h0,run_underlying hu,goInt]) (.int _ _)
   ·rename_i k e r hu
    cases hx with
    | map hm =>
     rename_i m
     cases hg:H.getMap r with
     | none=>simp [hg] at h
     | some p =>
      obtain ⟨es,cl⟩:=p
      simp [hg] at h
      obtain ⟨rfl,rfl⟩:=h
      have ho:H.obs.get r=some (.map es cl):=by
       unfold Mem.getMap at hg
       split at hg
       ·rename_i ho;cases hg;exact ho
       ·cases hg
      obtain ⟨es',h1,h2,h3⟩:=(R.map r m es cl hm ho).ex
      refine .same R (v':=goInt es'.size) ?_ (by rw [h2];exact .int _ _)
      simp [Builtin.len_,h0,run_underlying hu,getObj,Sem.run,h1,goInt]
   ·cases h
 ·-- cap
  rename_i x
  obtain ⟨x',_,rfl,hx,ht⟩:=ha.of_cons
  rw [ht.of_nil]
  refine lift (s:=Builtin.cap_ ts ty #[x']) ?_
  cases h0:ts[0]? with
  | none=>simp [h0] at h
  | some t0 =>
   simp only [h0,Option.bind_some] at h
   split at h
   ·rename_i e bs n c hu
    split at h
    ·cases h
    ·rename_i hc
     cases h
     have:∃ bs',x'=.slice bs' n c:=by
      cases bs with
      | none=>exact ⟨_,hx.slice_nil⟩
      | some a =>
       obtain ⟨_,_,hy⟩:=hx.slice_exact (fun e=>hc (.inl e)) (fun e=>hc (.inr (.inl e))) (fun e=>hc (.inr (.inr e)))
       rcases hy with ⟨m,hm,rfl⟩ | ⟨A,rfl,rfl,rfl⟩
       ·exact ⟨_,rfl⟩
       ·exact ⟨_,rfl⟩
     obtain ⟨bs',rfl⟩:=this
     exact .same R (by simp [Builtin.cap_,h0,run_underlying hu,goInt]) (.int _ _)
   ·cases h
 ·-- append
  rename_i s x
  obtain ⟨s',_,rfl,hs,ht⟩:=ha.of_cons
  obtain ⟨x',_,rfl,hx,ht'⟩:=ht.of_cons
  rw [ht'.of_nil]
  refine lift (s:=Builtin.append_ ts ty #[s',x']) ?_
  split at h
  ·rename_i el zs he0 hz0
   cases h0:ts[0]? with
   | none=>simp [h0] at he0
   | some t0 =>
    simp only [h0,Option.bind_some] at he0
    have hu0:=elemT_some he0
    cases h1:ts[1]? with
    | none=>simp [h1] at hz0
    | some t1 =>
     simp only [h1,Option.bind_some] at hz0
     cases hu1:P.underlying t1 with
     | none=>simp [hu1] at hz0
     | some d1 =>
      simp only [hu1,Option.map_some,Option.some.injEq] at hz0
      subst hz0
      split at h
      ·rename_i e bytes z he hb hz
       split at h
       ·cases h
       ·rename_i hze
        have hze:z.cells.size=e:=Classical.byContradiction hze
        split at h
        ·rename_i hi
         split at h
         ·rename_i k hk
          split at h
          ·rename_i hkr
           obtain ⟨kk,rfl⟩:=idx_int hk
           rw [hx.int']
           obtain ⟨inf,hin⟩:∃ i,P.info? el=some i:=by
            unfold tsz at he
            cases hi:P.info? el with
            | none=>simp [hi] at he
            | some i=>exact ⟨i,rfl⟩
           have hti:∀ w,(typeInfo el).run P w=.ok inf w:=fun w=>by simp [typeInfo,hin]
           have hby:inf.bytes=bytes:=by unfold tbytes at hb;simpa [hin] using hb
           obtain ⟨bs,n,c,rfl,μ',v',w',q1,q2,q3⟩:=append_tail (P:=P) (x':=.int kk k) (zeros:=true) (app:=if k*e=0 then pure #[] else do pure (Builtin.zeroCells (← zeroValue el).cells k)) R he hb hz hze hs
            (VRs.of_flats (zerosOf_flat (run_zero' hz w).2 (k*e))) (fun w1 _=>by
             split
             ·rename_i h0';simp [zerosOf,h0']
             ·simp only [Sem.run_bind,(run_zero' hz w1).1,Result.andThen_ok,Sem.run_pure,zeroCells_eq,hze]) h
           exact ⟨μ',v',w',by rw [append_zeros h0 hu0 h1 hu1 hi he (hti w) hkr.1 (by rw [hby];exact hkr.2)];exact q1,q2,q3⟩
          ·cases h
         ·cases h
        ·rename_i hi
         have hi:isIntD d1=false:=by simpa using hi
         split at h
         ·rename_i k hk
          split at h
          ·rename_i new hnew
           obtain ⟨new',n1,n2⟩:=firstV_ok (P:=P) R hx hk (Nat.le_refl _) hnew
           obtain ⟨bs,n,c,rfl,μ',v',w',q1,q2,q3⟩:=append_tail (P:=P) (x':=x') (zeros:=false) (app:=Builtin.firstCells e k x') R he hb hz hze hs n1 n2 h
           exact ⟨μ',v',w',by rw [append_plain h0 hu0 h1 hu1 hi he (lenV_ok hx hk w)];exact q1,q2,q3⟩
          ·cases h
         ·cases h
      ·cases h
  ·cases h
 ·-- copy
  rename_i d s
  obtain ⟨d',_,rfl,hd,ht⟩:=ha.of_cons
  obtain ⟨s',_,rfl,hs,ht'⟩:=ht.of_cons
  rw [ht'.of_nil]
  refine lift (s:=Builtin.copy_ ts ty #[d',s']) ?_
  split at h
  ·rename_i el bs dl dc sl he0 hsl
   cases h0:ts[0]? with
   | none=>simp [h0] at he0
   | some t0 =>
    simp only [h0,Option.bind_some] at he0
    split at h
    ·rename_i e he
     split at h
     ·rename_i cs hf
      exact copy_ok R h0 (elemT_some he0) he h hd hs hsl hf
     ·cases h
    ·cases h
  ·cases h
 ·-- clear
  rename_i x
  obtain ⟨x',_,rfl,hx,ht⟩:=ha.of_cons
  rw [ht.of_nil]
  refine lift (s:=Builtin.clear_ ts ty #[x']) ?_
  split at h
  ·rename_i el n c he0
   cases h
   rw [hx.slice_nil]
   cases h0:ts[0]? with
   | none=>simp [h0] at he0
   | some t0 =>
    simp only [h0,Option.bind_some] at he0
    exact .same R (by simp [Builtin.clear_,h0,run_underlying (elemT_some he0)]) (.tuple rfl (fun i x y h=>by simp at h))
  ·rename_i el a n c he0
   cases h0:ts[0]? with
   | none=>simp [h0] at he0
   | some t0 =>
    simp only [h0,Option.bind_some] at he0
    split at h
    ·rename_i hn
     cases h
     subst hn
     obtain ⟨bs',c',rfl⟩:=hx.slice_cases
     exact .same R (by cases bs'<;>simp [Builtin.clear_,h0,run_underlying (elemT_some he0)]) (.tuple rfl (fun i x y h=>by simp at h))
    ·rename_i hn
     split at h
     ·rename_i z hz
      cases hw:wr H a.block a.off (zerosOf z.cells (n*z.cells.size)) with
      | none=>simp [hw] at h
      | some H1 =>
       simp [hw] at h
       obtain ⟨rfl,rfl⟩:=h
       exact clear_ok R h0 (elemT_some he0) hx hn hz hw
     ·cases h
  ·cases h
 ·-- min
  split at h
  ·rename_i hf
   rw [flats_eq ha hf]
   cases hp:pureV P (Builtin.min_ ts ty args.toArray) with
   | none=>simp [hp] at h
   | some r =>
    simp [hp] at h
    obtain ⟨rfl,rfl⟩:=h
    exact lift (s:=Builtin.min_ ts ty args.toArray) (.same R (pureV_ok hp w).1 (VR.of_flat μ depth (pureV_ok hp w).2))
  ·cases h
 ·split at h
  ·rename_i hf
   rw [flats_eq ha hf]
   cases hp:pureV P (Builtin.max_ ts ty args.toArray) with
   | none=>simp [hp] at h
   | some r =>
    simp [hp] at h
    obtain ⟨rfl,rfl⟩:=h
    exact lift (s:=Builtin.max_ ts ty args.toArray) (.same R (pureV_ok hp w).1 (VR.of_flat μ depth (pureV_ok hp w).2))
  ·cases h
 ·cases h
end
end Go.Proofs.YtmndbhgbngkakaaDoor.E
end
