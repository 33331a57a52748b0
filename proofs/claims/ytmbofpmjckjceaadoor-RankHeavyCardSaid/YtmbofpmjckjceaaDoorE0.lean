/- A plain evaluator of translated Go code, over a memory of its own. Definitions only; no condition. -/
import Derived.Orders
import Derived.Below
import Derived.Laws.CopyRow
import Derived.Laws.Cells
import Derived.Laws.Entries
namespace Go.Proofs.YtmbofpmjckjceaaDoor.E
open Go
set_option linter.unusedVariables false
/-- A table by numbers. -/
inductive Tr (α : Type) where
  | nil
  | node (v : Option α) (l r : Tr α)
namespace Tr
variable {α : Type}
def get : Tr α → Nat → Option α
  | .nil, _ => none
  | .node v l r, n => if n = 0 then v else if n % 2 = 1 then l.get (n / 2) else r.get (n / 2 - 1)
def setF : Nat → Tr α → Nat → α → Tr α
  | 0, t, _, _ => t
  | f + 1, .nil, n, x => if n = 0 then .node (some x) .nil .nil else if n % 2 = 1 then .node none (setF f .nil (n / 2) x) .nil else .node none .nil (setF f .nil (n / 2 - 1) x)
  | f + 1, .node v l r, n, x => if n = 0 then .node (some x) l r else if n % 2 = 1 then .node v (setF f l (n / 2) x) r else .node v l (setF f r (n / 2 - 1) x)
def set (t : Tr α) (n : Nat) (x : α) : Tr α := setF (n + 1) t n x
end Tr
/-- A row of cells. 'esz' is 0 where its capacity is known. -/
structure Blk where
  cells : List Value
  esz : Nat
  fam : Nat
  gen : Nat
  ro : Bool
inductive Ob where
  | blk (b : Blk)
  | map (es : List MapEntry) (clock : Nat)
structure Mem where
  n : Nat
  obs : Tr Ob
  gens : Tr Nat
  low : Nat
def maxRoom : Nat := 2 ^ 45
def OPEN : Nat := 2 ^ 62
def Mem.gen (H : Mem) (f : Nat) : Nat := (H.gens.get f).getD 0
def Blk.alive (H : Mem) (b : Blk) : Bool := b.ro || b.gen == H.gen b.fam
def Mem.live (H : Mem) (i : Nat) : Option Blk :=
  match H.obs.get i with
  | some (.blk b) => if b.alive H then some b else none
  | _ => none
def Mem.getMap (H : Mem) (i : Nat) : Option (List MapEntry × Nat) :=
  match H.obs.get i with
  | some (.map es c) => some (es, c)
  | _ => none
/-- A new row. -/
def Mem.new (H : Mem) (cs : List Value) (e : Nat) : Mem := { H with n := H.n + 1, obs := H.obs.set H.n (.blk ⟨cs, e, H.n, 0, false⟩) }
def Mem.newMap (H : Mem) : Mem := { H with n := H.n + 1, obs := H.obs.set H.n (.map [] 0) }
def Mem.putMap (H : Mem) (i : Nat) (es : List MapEntry) (c : Nat) : Mem := { H with obs := H.obs.set i (.map es c), low := min H.low i }
def rd (H : Mem) (i off k : Nat) : Option (List Value) :=
  match H.live i with
  | some b => if off + k ≤ b.cells.length then some ((b.cells.drop off).take k) else none
  | none => none
def splice (l : List Value) (off : Nat) (vs : List Value) : List Value := l.take off ++ vs ++ l.drop (off + vs.length)
/-- The cells of a row are these now: of its family no other row is sure any more. -/
def Mem.put (H : Mem) (i : Nat) (b : Blk) (cs : List Value) : Mem :=
  if b.esz = 0 then { H with obs := H.obs.set i (.blk { b with cells := cs }), low := min H.low b.fam }
  else { H with obs := H.obs.set i (.blk { b with cells := cs, gen := H.gen b.fam + 1 }), gens := H.gens.set b.fam (H.gen b.fam + 1), low := min H.low b.fam }
def wr (H : Mem) (i off : Nat) (vs : List Value) : Option Mem :=
  match H.live i with
  | some b => if b.ro = false ∧ off + vs.length ≤ b.cells.length ∧ vs.all (·.oneCell') = true then some (H.put i b (splice b.cells off vs)) else none
  | none => none
/-- A row that has grown, or a copy of it that is longer. -/
def Mem.grow (H : Mem) (i : Nat) (b : Blk) (keep : Bool) (cs : List Value) : Mem :=
  { n := H.n + 1
    obs := (if keep then H.obs.set i (.blk { b with gen := H.gen b.fam + 1 }) else H.obs).set H.n (.blk ⟨cs, b.esz, b.fam, H.gen b.fam + 1, false⟩)
    gens := H.gens.set b.fam (H.gen b.fam + 1)
    low := min H.low b.fam }
def tsz (P : Program) (t : TypeId) : Option Nat := (P.info? t).map (·.size)
def tbytes (P : Program) (t : TypeId) : Option Nat := (P.info? t).map (·.bytes)
def isAggD : TypeDesc → Bool
  | .struct _ | .array _ _ => true
  | _ => false
def elemT (P : Program) (t : TypeId) : Option TypeId :=
  match P.underlying t with
  | some (.slice e) => some e
  | _ => none
/-- No address in it. -/
def flat : Nat → Value → Bool
  | _, .bool _ | _, .int _ _ | _, .float _ _ | _, .string _ | _, .pointer none | _, .slice none _ _ | _, .map none | _, .nilFunc | _, .nilIface => true
  | n + 1, .agg cs => cs.toList.all (flat n)
  | n + 1, .tuple cs => cs.toList.all (flat n)
  | n + 1, .iface _ v => flat n v
  | n + 1, .func _ a b => a.toList.all (flat n) && b.toList.all (flat n)
  | _, _ => false
def depth : Nat := 6
def tzero (P : Program) (t : TypeId) : Option Value :=
  match (P.info? t).bind (·.zero) with
  | some z => if flat depth z then some z else none
  | none => none
/-- What a program of the model yields if it touches nothing. -/
def pureRun {α : Type} (P : Program) : Sem α → Option α
  | .pure a => some a
  | .program k => pureRun P (k P)
  | .mark _ k => pureRun P k
  | _ => none
def pureV (P : Program) (s : Sem Value) : Option Value :=
  match pureRun P s with
  | some v => if flat depth v then some v else none
  | none => none
inductive Re where
  | val (v : Value)
  | skip
  | enter (f : FuncId) (args : Array Value)
structure Env where
  P : Program
  X : FuncId → Option (Array Value → Option Value)
  I : FuncId → Option (Array Value → Mem → Option (Value × Mem))
  bad : FuncId → Bool
def evalO (T : Tr Value) : Operand → Value
  | .tmp t => (T.get t).getD undef
  | .const v => v
  | .global _ => undef
  | .func f => .func (.func f) #[] #[]
def loadV (P : Program) (H : Mem) (t : TypeId) (a : Addr) : Option Value :=
  match (P.underlying t).map isAggD, tsz P t with
  | some true, some k => (rd H a.block a.off k).map fun cs => .agg cs.toArray
  | some false, _ =>
    match rd H a.block a.off 1 with
    | some [v] => some v
    | _ => none
  | _, _ => none
def storeV (P : Program) (H : Mem) (t : TypeId) (a : Addr) (v : Value) : Option Mem :=
  if tsz P t = some v.cells.size then wr H a.block a.off v.cells.toList else none
def addrOf (i off : Nat) : Value := .pointer (some ⟨i, off, none⟩)
def places (P : Program) (fields : List Field) : Option (List (Nat × Nat)) := fields.mapM fun f => (tsz P f.type).map fun s => (f.offset, s)
def buildV (P : Program) (t : TypeId) (parts : List (Nat × Value)) : Option Value :=
  match tzero P t, P.underlying t with
  | some z, some (.struct fields) =>
    match places P fields.toList with
    | some pl => (Instr.fill (pl[·]?) z.cells parts).map .agg
    | none => none
  | some z, some (.array _ e) => 
    match tsz P e with
    | some s => (Instr.fill (fun i => some (i * s, s)) z.cells parts).map .agg
    | none => none
  | _, _ => none
/-- n zero cells. -/
def zerosOf (z : Array Value) (n : Nat) : List Value := ((Array.range n).map fun i => z[i % z.size]!).toList
def partV (P : Program) (t : TypeId) (cs : Array Value) (off : Nat) : Option Value :=
  match (P.underlying t).map isAggD, tsz P t with
  | some true, some k => some (.agg (cs.extract off (off + k)))
  | some false, _ => cs[off]?
  | _, _ => none
def idx (v : Value) : Option Nat :=
  match v with
  | .int _ i => if 0 ≤ i then some i.toNat else none
  | _ => none
/-- The bounds of a slice of a slice, where the capacity is known to be 'cap' or more. -/
def bounds (len cap : Nat) (lo hi mx : Option Value) : Option (Nat × Nat × Option Nat) :=
  match (match mx with | none => some none | some v => (idx v).map some) with
  | none => none
  | some m =>
    match (match hi with | none => (if m.isSome then none else some len) | some v => idx v) with
    | none => none
    | some h =>
      match (match lo with | none => some 0 | some v => idx v) with
      | none => none
      | some l => if l ≤ h ∧ h ≤ m.getD cap ∧ m.getD 0 ≤ cap then some (l, h, m) else none
def sliceV (P : Program) (H : Mem) (t : TypeId) (x : Value) (lo hi mx : Option Value) : Option Value :=
  match P.underlying t, x with
  | some .string, .string s =>
    if mx.isSome then none else
    match bounds s.size s.size lo hi none with
    | some (l, h, _) => some (.string (s.extract l h))
    | none => none
  | some (.slice e), .slice base len cap =>
    match tsz P e with
    | none => none
    | some z =>
      if cap = OPEN then
        match base with
        | none => none
        | some a =>
          match H.live a.block with
          | none => none
          | some b =>
            if b.esz = z ∧ 0 < z ∧ a.off ≤ b.cells.length then
              match bounds len ((b.cells.length - a.off) / z) lo hi mx with
              | some (l, h, none) => some (.slice (some ⟨a.block, a.off + l * z, none⟩) (h - l) OPEN)
              | some (l, h, some m) => if m ≤ maxRoom then some (.slice (some (if m = l then a else ⟨a.block, a.off + l * z, none⟩)) (h - l) (m - l)) else none
              | none => none
            else none
      else
        match bounds len cap lo hi mx with
        | some (l, h, m) => some (.slice (if m.getD cap = l then base else base.map fun a => ⟨a.block, a.off + l * z, none⟩) (h - l) (m.getD cap - l))
        | none => none
  | some (.array n e), .pointer (some a) =>
    match tsz P e, bounds n n lo hi mx with
    | some z, some (l, h, m) => if n ≤ maxRoom then some (.slice (some (if m.getD n = l then a else ⟨a.block, a.off + l * z, none⟩)) (h - l) (m.getD n - l)) else none
    | _, _ => none
  | _, _ => none
/-- append: 'new' is k elements of e cells each. -/
def appendV (H : Mem) (e bytes : Nat) (s : Value) (new : List Value) (k : Nat) : Option (Value × Mem) :=
  match s with
  | .slice base len cap =>
    if ((len + k) * bytes ≤ maxRoom ∧ bytes ≤ 65536 ∧ len + k ≤ maxRoom) ∧ 0 < e ∧ new.length = k * e ∧ new.all (·.oneCell') = true then
      if cap = OPEN then
        match base with
        | none => none
        | some a =>
          match H.live a.block with
          | none => none
          | some b =>
            if b.esz = e ∧ b.ro = false ∧ a.off + len * e ≤ b.cells.length then
              if k = 0 then some (s, H) else
              if a.off + len * e + new.length ≤ b.cells.length then (wr H a.block (a.off + len * e) new).map fun H' => (.slice base (len + k) OPEN, H')
              else some (.slice (some ⟨H.n, 0, none⟩) (len + k) OPEN, H.grow a.block b (a.off + len * e == b.cells.length) ((b.cells.drop a.off).take (len * e) ++ new))
            else none
      else if len + k ≤ cap then
        if k = 0 then some (s, H) else
        match base with
        | none => none
        | some a => (wr H a.block (a.off + len * e) new).map fun H' => (.slice base (len + k) cap, H')
      else
        match (match base with | none => (if len = 0 then some [] else none) | some a => rd H a.block a.off (len * e)) with
        | none => none
        | some old => some (.slice (some ⟨H.n, 0, none⟩) (len + k) OPEN, H.new (old ++ new) e)
    else none
  | _ => none
/-- The cells of the first n elements. -/
def firstV (H : Mem) (e n : Nat) (x : Value) : Option (List Value) :=
  match x with
  | .slice (some a) _ _ => if n * e = 0 then some [] else rd H a.block a.off (n * e)
  | .slice none _ _ => some []
  | .string s => some ((s.extract 0 n).data.map fun b => Value.int .u8 b.toNat).toList
  | _ => none
def lenV : Value → Option Nat
  | .slice _ n _ => some n
  | .string s => some s.size
  | _ => none
def isIntD : TypeDesc → Bool
  | .int _ => true
  | _ => false
def builtinV (P : Program) (H : Mem) (b : Builtin) (ts : Array TypeId) (ty : TypeId) (consts : Array Bool) (args : List Value) : Option (Value × Mem) :=
  match b, args with
  | .len, [x] =>
    match (ts[0]?).bind P.underlying, x with
    | some .string, .string s => some (goInt s.size, H)
    | some (.slice _), .slice _ n _ => some (goInt n, H)
    | some (.map _ _), .map none => some (goInt 0, H)
    | some (.map _ _), .map (some r) => (H.getMap r).map fun m => (goInt m.1.length, H)
    | _, _ => none
  | .cap, [x] =>
    match (ts[0]?).bind P.underlying, x with
    | some (.slice _), .slice _ _ c => if c = OPEN then none else some (goInt c, H)
    | _, _ => none
  | .append, [s, x] =>
    match (ts[0]?).bind (elemT P), ((ts[1]?).bind P.underlying).map isIntD with
    | some el, some zs =>
      match tsz P el, tbytes P el, tzero P el with
      | some e, some bytes, some z =>
        if z.cells.size ≠ e then none else
        if zs then
          match idx x with
          | some k => if k ≤ maxRoom ∧ k * bytes ≤ maxRoom then appendV H e bytes s (zerosOf z.cells (k * e)) k else none
          | none => none
        else
          match lenV x with
          | some k =>
            match firstV H e k x with
            | some new => appendV H e bytes s new k
            | none => none
          | none => none
      | _, _, _ => none
    | _, _ => none
  | .copy, [d, s] =>
    match (ts[0]?).bind (elemT P), d, lenV s with
    | some el, .slice base dl _, some sl =>
      match tsz P el with
      | some e =>
        match firstV H e (Nat.min sl dl) s with
        | some cs =>
          match base with
          | some a => if cs = [] then some (goInt (Nat.min sl dl), H) else (wr H a.block a.off cs).map fun H' => (goInt (Nat.min sl dl), H')
          | none => some (goInt (Nat.min sl dl), H)
        | none => none
      | none => none
    | _, _, _ => none
  | .clear, [x] =>
    match (ts[0]?).bind (elemT P), x with
    | some _, .slice none _ _ => some (.tuple #[], H)
    | some el, .slice (some a) n _ =>
      if n = 0 then some (.tuple #[], H) else
      match tzero P el with
      | some z => (wr H a.block a.off (zerosOf z.cells (n * z.cells.size))).map fun H' => (.tuple #[], H')
      | none => none
    | _, _ => none
  | .min, xs => if xs.all (flat depth) then (pureV P (Builtin.min_ ts ty xs.toArray)).map (·, H) else none
  | .max, xs => if xs.all (flat depth) then (pureV P (Builtin.max_ ts ty xs.toArray)).map (·, H) else none
  | _, _ => none
/-- Keys that are texts or numbers. -/
def keyFlat : TypeDesc → Value → Bool
  | .string, .string _ => true
  | .int k, .int k' _ => k == k'
  | _, _ => false
def entriesV (H : Mem) : Value → Option (List MapEntry)
  | .map none => some []
  | .map (some r) => (H.getMap r).map (·.1)
  | _ => none
/-- Of values of which one is nil. -/
def eqNil (P : Program) (t : TypeId) (x y : Value) : Option Bool :=
  match P.underlying t, x, y with
  | some (.slice _), .slice none _ _, .slice b _ _ => some b.isNone
  | some (.slice _), .slice _ _ _, .slice none _ _ => some false
  | some (.pointer _), .pointer none, .pointer b => some b.isNone
  | some (.pointer _), .pointer _, .pointer none => some false
  | some (.func _ _ _), .func _ _ _, .nilFunc => some false
  | some (.func _ _ _), .nilFunc, .func _ _ _ => some false
  | some (.func _ _ _), .nilFunc, .nilFunc => some true
  | _, _, _ => none
def binV (P : Program) (op : BinOp) (t : TypeId) (xo yo : Operand) (x y : Value) : Option Value :=
  if flat depth x && flat depth y then pureV P (do eqGuard op t xo yo x y; binOp op t x y)
  else
    match op with
    | .eql => (eqNil P t x y).map .bool
    | .neq => (eqNil P t x y).map fun b => .bool (!b)
    | _ => none
/-- Numbers of 8 bits as a text. -/
def bytesOf : List Value → Option (List Int)
  | [] => some []
  | .int .u8 n :: rest => (bytesOf rest).map (n :: ·)
  | _ => none
def convV (P : Program) (H : Mem) (s d : TypeId) (x : Value) : Option Value :=
  if flat depth x then pureV P (convert s d x) else
  match P.underlying s, P.underlying d, x with
  | some (.slice e), some .string, .slice (some a) len _ =>
    match P.underlying e with
    | some (.int .u8) => ((rd H a.block a.off len).bind bytesOf).map fun ns => .string (ns.foldl (fun r n => r.push (UInt8.ofNat n.toNat)) ByteArray.empty)
    | _ => none
  | _, _, _ => none
def opStep (E : Env) (T : Tr Value) (H : Mem) (o : Oper) : Option (Re × Mem) :=
  match o.op with
  | .move x | .assign x => some (.val (evalO T x), H)
  | .pick c a b =>
    match evalO T c with
    | .bool t => some (.val (if t then evalO T a else evalO T b), H)
    | _ => none
  | .alloc t => (tzero E.P t).map fun z => (.val (addrOf H.n 0), H.new z.cells.toList 0)
  | .box _ x => some (.val (addrOf H.n 0), H.new (evalO T x).cells.toList 0)
  | .build t ps => (buildV E.P t (ps.toList.map fun p => (p.1, evalO T p.2))).map fun v => (.val v, H)
  | .buildSlice t len ps =>
    match elemT E.P t with
    | none => none
    | some el =>
      match tsz E.P el, tzero E.P el with
      | some e, some z =>
        if len * e ≤ 2 ^ 24 ∧ len ≤ 2 ^ 24 then
          match Instr.fill (fun i => some (i * e, e)) ((Array.range (len * e)).map fun i => (if len * e = 0 then #[] else z.cells)[i % (if len * e = 0 then #[] else z.cells).size]!) (ps.toList.map fun p => (p.1, evalO T p.2)) with
          | some cs => some (.val (.slice (some ⟨H.n, 0, none⟩) len len), H.new cs.toList 0)
          | none => none
        else none
      | _, _ => none
  | .load t a =>
    match evalO T a with
    | .pointer (some a) => (loadV E.P H t a).map fun v => (.val v, H)
    | _ => none
  | .store t a x =>
    match evalO T a with
    | .pointer (some a) => (storeV E.P H t a (evalO T x)).map fun H' => (.skip, H')
    | _ => none
  | .nilCheck x =>
    match evalO T x with
    | .pointer (some a) => some (.val (.pointer (some a)), H)
    | .func (.func f) a b => some (.val (.func (.func f) a b), H)
    | _ => none
  | .binOp op t x y _ => (binV E.P op t x y (evalO T x) (evalO T y)).map fun v => (.val v, H)
  | .unOp op _ x => if flat depth (evalO T x) then (pureV E.P (Op.unary op (evalO T x))).map fun v => (.val v, H) else none
  | .convert s d x => (convV E.P H s d (evalO T x)).map fun v => (.val v, H)
  | .makeInterface t x =>
    match E.P.underlying t with
    | some (.interface _) => none
    | some _ => some (.val (.iface t (evalO T x)), H)
    | none => none
  | .makeFunc fn a b => some (.val (.func fn (a.map (evalO T)) (b.map (evalO T))), H)
  | .makeMap t none => some (.val (.map (some H.n)), H.newMap)
  | .makeSlice t l c =>
    match elemT E.P t, idx (evalO T l), idx (evalO T c) with
    | some el, some l, some c =>
      match tsz E.P el, tzero E.P el, tbytes E.P el with
      | some e, some z, some bytes =>
        if l ≤ c ∧ c ≤ maxRoom ∧ c * bytes ≤ maxRoom then
          some (.val (.slice (some ⟨H.n, 0, none⟩) l c), H.new (zerosOf z.cells (c * e)) 0)
        else none
      | _, _, _ => none
    | _, _, _ => none
  | .slice t x lo hi mx => (sliceV E.P H t (evalO T x) (lo.map (evalO T)) (hi.map (evalO T)) (mx.map (evalO T))).map fun v => (.val v, H)
  | .fieldAddr s x f =>
    match E.P.underlying s, evalO T x with
    | some (.struct fs), .pointer (some a) =>
      match fs[f]? with
      | some fd =>
        match tsz E.P fd.type with
        | some k => if k = 0 then none else some (.val (addrOf a.block (a.off + fd.offset)), H)
        | none => none
      | none => none
    | _, _ => none
  | .field t x f =>
    match E.P.underlying t, evalO T x with
    | some (.struct fs), .agg cs =>
      match fs[f]? with
      | some fd => (partV E.P fd.type cs fd.offset).map fun v => (.val v, H)
      | none => none
    | _, _ => none
  | .indexAddr t x i =>
    match E.P.underlying t, evalO T x, idx (evalO T i) with
    | some (.slice el), .slice (some a) len _, some i =>
      match tsz E.P el with
      | some e => if i < len then some (.val (addrOf a.block (a.off + i * e)), H) else none
      | none => none
    | some (.array len el), .pointer (some a), some i =>
      match tsz E.P el with
      | some e => if i < len then some (.val (addrOf a.block (a.off + i * e)), H) else none
      | none => none
    | _, _, _ => none
  | .index t x i =>
    match E.P.underlying t, evalO T x, idx (evalO T i) with
    | some (.array len el), .agg cs, some i =>
      match tsz E.P el with
      | some e => if i < len then (partV E.P el cs (i * e)).map fun v => (.val v, H) else none
      | none => none
    | some .string, .string s, some i => (s[i]?).map fun b => (.val (.int .u8 b.toNat), H)
    | _, _, _ => none
  | .lookup t m k ok =>
    match E.P.underlying t with
    | some (.map kt el) =>
      match E.P.underlying kt, tzero E.P el with
      | some kd, some z =>
        if keyFlat kd (evalO T k) then
          match entriesV H (evalO T m) with
          | some es =>
            if es.all (fun e => keyFlat kd e.key) then
              match Instr.findNow kd (evalO T k) es 0 with
              | some (some (_, v)) => some (.val (if ok then .tuple #[v, .bool true] else v), H)
              | some none => some (.val (if ok then .tuple #[z, .bool false] else z), H)
              | none => none
            else none
          | none => none
        else none
      | _, _ => none
    | _ => none
  | .mapEntry t m k =>
    match E.P.underlying t, evalO T m with
    | some (.map kt el), .map (some r) =>
      match E.P.underlying kt, tzero E.P el, H.getMap r with
      | some kd, some z, some (es, c) =>
        if keyFlat kd (evalO T k) && es.all (fun e => keyFlat kd e.key) then
          match Instr.findNow kd (evalO T k) es 0 with
          | some (some (i, v)) =>
            match es[i]? with
            | some e => some (.val (.tuple #[v, goInt e.born]), H.putMap r es c)
            | none => none
          | some none => some (.val (.tuple #[z, goInt c]), H.putMap r (es ++ [⟨evalO T k, z, c⟩]) (c + 1))
          | none => none
        else none
      | _, _, _ => none
    | _, _ => none
  | .mapUpdate t m k x =>
    match E.P.underlying t, evalO T m with
    | some (.map kt _), .map (some r) =>
      match E.P.underlying kt, H.getMap r with
      | some kd, some (es, c) =>
        if keyFlat kd (evalO T k) && es.all (fun e => keyFlat kd e.key) then
          match Instr.findNow kd (evalO T k) es 0 with
          | some (some (i, _)) => some (.skip, H.putMap r (es.modify i fun e => { e with val := evalO T x }) c)
          | some none => some (.skip, H.putMap r (es ++ [⟨evalO T k, evalO T x, c⟩]) (c + 1))
          | none => none
        else none
      | _, _ => none
    | _, _ => none
  | .entryStore _ m s x =>
    match evalO T m, idx (evalO T s) with
    | .map (some r), some born =>
      match H.getMap r with
      | some (es, c) =>
        match es.findIdx? (fun e => e.born == born) with
        | some i => some (.skip, H.putMap r (es.modify i fun e => { e with val := evalO T x }) c)
        | none => none
      | none => none
    | _, _ => none
  | .extract x i =>
    match evalO T x with
    | .tuple vs => (vs[i]?).map fun v => (.val v, H)
    | _ => none
  | .call c =>
    match c.callee with
    | .builtin b => (builtinV E.P H b c.argTypes o.type (c.args.map fun | .const _ => true | _ => false) (c.args.toList.map (evalO T))).map fun r => (.val r.1, r.2)
    | .value f =>
      match evalO T f with
      | .func (.func g) first captured =>
        let args := first ++ c.args.map (evalO T) ++ captured
        match E.P.funcs[g]? with
        | some fn =>
          if fn.body.isSome then some (.enter g args, H) else
          match E.X g with
          | some x => if args.toList.all (flat depth) then (x args).map fun v => (.val v, H) else none
          | none => none
        | none => none
      | _ => none
    | _ => none
  | _ => none
def putT (T : Tr Value) (d : Option Tmp) (v : Value) : Tr Value :=
  match d with
  | some d => T.set d v
  | none => T
def yieldT (ops : Array Oper) (T : Tr Value) (j : Nat) : Option Bool :=
  match (ops[j]?).bind (·.dst) with
  | some d =>
    match T.get d with
    | some (.bool b) => some b
    | _ => none
  | none => none
abbrev Call := FuncId → Array Value → Mem → Option (Value × Mem)
def stepOne (E : Env) (call : Call) (ops : Array Oper) (o : Oper) (T : Tr Value) (H : Mem) : Option (Tr Value × Mem) :=
  if Region.wanted o (yieldT ops T) then
    match opStep E T H o with
    | some (.val v, H') => some (putT T o.dst v, H')
    | some (.skip, H') => some (putT T o.dst undef, H')
    | some (.enter f args, H') =>
      match call f args H' with
      | some (v, H'') => some (putT T o.dst v, H'')
      | none => none
    | none => none
  else some (putT T o.dst undef, H)
def evList (E : Env) (call : Call) (ops : Array Oper) : List Oper → Tr Value → Mem → Option (Tr Value × Mem)
  | [], T, H => some (T, H)
  | o :: rest, T, H =>
    match stepOne E call ops o T H with
    | some (T', H') => evList E call ops rest T' H'
    | none => none
/-- Which operations wait for which, by bits. -/
def maskOf (acc : List Nat) (o : Oper) : Nat := o.after.toList.foldl (fun s e => if Region.binds .any e then s ||| 2 ^ e.on ||| acc.getD e.on 0 else s) 0
def masks (ops : List Oper) : List Nat := ops.foldl (fun acc o => acc ++ [maskOf acc o]) []
/-- It looks at no memory and makes none. -/
def inert (o : Oper) : Bool :=
  match o.op with
  | .move _ | .assign _ | .pick _ _ _ | .extract _ _ | .makeFunc _ _ _ | .makeInterface _ _ | .nilCheck _ | .unOp _ _ _ | .binOp _ _ _ _ _ | .build _ _ | .field _ _ _ | .fieldAddr _ _ _ | .indexAddr _ _ _ | .index _ _ _ => true
  | _ => false
/-- All that touches memory waits for operation k, or it for that. -/
def barrierB (ops : List Oper) (k : Nat) : Bool :=
  (List.range ops.length).all fun j => j == k || inert (ops.getD j default) || ((masks ops).getD k 0).testBit j || ((masks ops).getD j 0).testBit k
/-- Each operation by itself writes nothing that was there, or is a barrier. -/
def evDraw (E : Env) (call : Call) (ops : Array Oper) : List Oper → Nat → Tr Value → Mem → Option (Tr Value × Mem)
  | [], _, T, H => some (T, H)
  | o :: rest, k, T, H =>
    match stepOne E call ops o T { H with low := H.n } with
    | some (T', H') => if H.n ≤ H'.low ∨ barrierB ops.toList k = true then evDraw E call ops rest (k + 1) T' { H' with low := min H.low H'.low } else none
    | none => none
inductive Ex where
  | norm
  | exit (id : Nat)
  | ret
def iter {S : Type} (f : S → Option (Ex × S)) : Nat → S → Option (Ex × S)
  | 0, _ => none
  | n + 1, s =>
    match f s with
    | some (.norm, s') => iter f n s'
    | r => r
abbrev St := Tr Value × Mem
def evCode (E : Env) (call : Call) (n : Nat) : Code → St → Option (Ex × St)
  | .skip, s => some (.norm, s)
  | .region _ ops draw, s => (if draw then evDraw E call ops ops.toList 0 s.1 s.2 else evList E call ops ops.toList s.1 s.2).map fun s' => (.norm, s')
  | .seq a b, s =>
    match evCode E call n a s with
    | some (.norm, s') => evCode E call n b s'
    | r => r
  | .cond c x y, s =>
    match evalO s.1 c with
    | .bool true => evCode E call n x s
    | .bool false => evCode E call n y s
    | _ => none
  | .block id body, s =>
    match evCode E call n body s with
    | some (.exit i, s') => if i = id then some (.norm, s') else some (.exit i, s')
    | r => r
  | .loop body, s => iter (evCode E call n body) n s
  | .exit id, s => some (.exit id, s)
  | .ret, s => some (.ret, s)
  | _, _ => none
def initT : Nat → List Value → Tr Value → Tr Value
  | _, [], T => T
  | i, v :: vs, T => initT (i + 1) vs (T.set i v)
def resV (P : Program) (T : Tr Value) (H : Mem) : ResultVar → Option Value
  | .tmp t => some ((T.get t).getD undef)
  | .cell a t =>
    match (T.get a).getD undef with
    | .pointer (some a) => loadV P H t a
    | _ => none
def ressV (P : Program) (T : Tr Value) (H : Mem) (rs : List ResultVar) : Option Value :=
  match rs.mapM (resV P T H) with
  | some [v] => some v
  | some vs => some (.tuple vs.toArray)
  | none => none
def evCall (E : Env) : Nat → Call
  | 0, _, _, _ => none
  | n + 1, f, args, H =>
    match E.I f with
    | some g => g args H
    | none =>
      if E.bad f then none else
      match E.P.funcs[f]? with
      | none => none
      | some fn =>
        match fn.body with
        | none => none
        | some c =>
          if fn.ntmps < args.size then none else
          match evCode E (evCall E n) n c (initT 0 args.toList .nil, H) with
          | some (.norm, T, H') | some (.ret, T, H') => (ressV E.P T H' fn.results.toList).map fun v => (v, H')
          | _ => none
end Go.Proofs.YtmbofpmjckjceaaDoor.E
