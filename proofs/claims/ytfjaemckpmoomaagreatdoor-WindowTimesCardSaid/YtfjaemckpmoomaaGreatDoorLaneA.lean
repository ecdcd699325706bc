/- A small evaluator of the machine, with its proof: first part: its operations, each matched by the machine's own. -/
import GoSem.Step
import Derived.KernelRfl
import Derived.Laws.Sem
import Derived.Orders
import Derived.Laws.World
import Derived.Laws.Cells
import Derived.Laws.Append
import Derived.AtR
import Derived.Laws.Entries
import Derived.Laws.Slices
import Derived.Laws.BytesString
import Derived.Lib.UnsafeStr
namespace Go.Proofs.YtfjaemckpmoomaaGreatDoor.Lane

inductive Tr (α : Type) where
  | leaf
  | node (l : Tr α) (v : Option α) (r : Tr α)
  deriving Inhabited

def Tr.get {α : Type} : Tr α → Nat → Option α
  | .leaf, _ => none
  | .node l v r, n => match n with
    | 0 => v
    | n + 1 => bif n % 2 == 0 then l.get (n / 2) else r.get (n / 2)

def Tr.set {α : Type} : Nat → Tr α → Nat → α → Tr α
  | 0, t, _, _ => t
  | f + 1, .leaf, n, x => match n with
    | 0 => .node .leaf (some x) .leaf
    | n + 1 => bif n % 2 == 0 then .node (Tr.set f .leaf (n / 2) x) none .leaf else .node .leaf none (Tr.set f .leaf (n / 2) x)
  | f + 1, .node l v r, n, x => match n with
    | 0 => .node l (some x) r
    | n + 1 => bif n % 2 == 0 then .node (Tr.set f l (n / 2) x) v r else .node l v (Tr.set f r (n / 2) x)

structure ALoop where
  state : LoopState
  pending : Option Code
  fn : FuncId
  n : Nat
  tmps : Tr Value
  params : Array Tmp
  assign : Code
  body : Code
  defers : Nat
  deriving Inhabited

inductive Blk where
  | cells (ro ex : Bool) (et : TypeId) (c : List Value)
  | dead
  | map (es : List (Value × Value))
  | siter (s : ByteArray) (pos : Nat)
  | loop (l : ALoop)
  | deferred (ds : Option (List Deferred))
  deriving Inhabited

structure AFr where
  fn : FuncId
  n : Nat
  tmps : Tr Value
  todo : List Item
  defers : List Deferred
  mode : FrameMode
  kind : CallKind
  roundOf : Option Nat
  deriving Inhabited

structure U where
  fs : List AFr
  c : Nat
  deriving Inhabited

inductive T where
  | ret (u : U)
  | fail (s : String)
  | rd (b : Nat) (k : Blk → T)
  | wr (b : Nat) (x : Blk) (k : T)
  | nw (b : Nat) (x : Blk) (k : T)

def width : Nat := 40
def idOk (b : Nat) : Bool := 0 < b && b < 1099511627775

def T.run : T → Tr Blk → Except String (U × Tr Blk)
  | .ret u, h => .ok (u, h)
  | .fail s, _ => .error s
  | .rd b k, h => match h.get b with
    | some x => (k x).run h
    | none => .error "rd: no block"
  | .wr b x k, h => bif idOk b then match h.get b with
      | some _ => k.run (h.set width b x)
      | none => .error "wr: no block"
    else .error "wr: id"
  | .nw b x k, h => bif idOk b then match h.get b with
      | some _ => .error "nw: not fresh"
      | none => k.run (h.set width b x)
    else .error "nw: id"

inductive ANext where
  | val (v : Value)
  | skip
  | enter (f : FuncId) (args : Array Value)
  | round (l : Nat) (a : ALoop) (tmps : Tr Value)
  | defer (d : Deferred)
  | recover
  | panic (v : Value)
  deriving Inhabited

def pureOf {α : Type} (P : Program) : Sem α → Option α
  | .pure a => some a
  | .program k => pureOf P (k P)
  | .mark _ k => pureOf P k
  | _ => none

/-- no blocks in it -/
def flat : Value → Bool
  | .bool _ | .int .. | .float .. | .complex .. | .string _ | .pointer none | .map none | .chan none | .nilFunc | .nilIface => true
  | .slice none 0 0 => true
  | .agg cs => cs.toList.all fun | .bool _ | .int .. | .string _ => true | _ => false
  | _ => false

def plainV : Value → Bool
  | .bool _ | .int .. | .float .. | .complex .. | .string _ | .pointer none | .map none | .chan none | .nilFunc | .nilIface => true
  | .slice none 0 0 => true
  | _ => false

def still : Value → Bool
  | .agg cs => cs.toList.all plainV
  | v => plainV v

def zeroOf (P : Program) (t : TypeId) : Option Value := match (P.info? t).bind (·.zero) with
  | some z => if still z then some z else none
  | none => none


def sizeOfT (P : Program) (t : TypeId) : Option Nat := (P.info? t).map (·.size)
def isAggT (P : Program) (t : TypeId) : Option Bool := (P.underlying t).map fun | .struct _ | .array _ _ => true | _ => false

def opt {α : Type} (s : String) (x : Option α) (k : α → T) : T := match x with | some a => k a | none => .fail s

def pureV (P : Program) (msg : String) (s : Sem Value) (k : Value → T) : T :=
  match pureOf P s with
  | some r => if flat r then k r else .fail msg
  | none => .fail msg

def byteOf : Value → Option UInt8
  | .int .u8 b => if 0 ≤ b ∧ b < 256 then some (UInt8.ofNat b.toNat) else none
  | _ => none

def bytesOf : List Value → Option (List UInt8)
  | [] => some []
  | v :: l => match byteOf v, bytesOf l with
    | some b, some r => some (b :: r)
    | _, _ => none

def rdCells (b : Nat) (k : Bool → Bool → TypeId → List Value → T) : T := .rd b fun | .cells ro ex et c => k ro ex et c | _ => .fail "cells expected"

/-- the cells [i, i+n) of a list, if all are there -/
def slab (c : List Value) (i n : Nat) : Option (List Value) := bif i + n ≤ c.length then some ((c.drop i).take n) else none
def patch (c : List Value) (i : Nat) (x : List Value) : List Value := c.take i ++ x ++ c.drop (i + x.length)

def loadA (P : Program) (t : TypeId) (a : Addr) (k : Value → T) : T :=
  match a.spot with
  | some _ => .fail "spot"
  | none =>
  rdCells a.block fun _ _ _ c =>
    match isAggT P t with
    | some true => opt "size" (sizeOfT P t) fun n => opt "slab" (slab c a.off n) fun x => k (.agg x.toArray)
    | some false => opt "cell" (c[a.off]?) k
    | none => .fail "type"

def storeA (P : Program) (t : TypeId) (a : Addr) (v : Value) (k : T) : T :=
  match a.spot with
  | some _ => .fail "spot"
  | none =>
  opt "size" (sizeOfT P t) fun n =>
  bif v.cells.size == n && v.cells.toList.all Value.oneCell' then
    rdCells a.block fun ro ex et c =>
      bif ro then .fail "ro" else
      bif a.off + n ≤ c.length then .wr a.block (.cells ro ex et (patch c a.off v.cells.toList)) k else .fail "store: out of the block"
  else .fail "store: size"

def newA (v : Value) (et : TypeId) (c : Nat) (k : Value → Nat → T) : T := .nw c (.cells false true et v.cells.toList) (k (.pointer (some ⟨c, 0, none⟩)) (c + 1))

def natOf : Value → Option Nat
  | .int _ n => if 0 ≤ n then some n.toNat else none
  | _ => none

def nowhere : Value := .slice (some ⟨0, 0, none⟩) 0 0

def firstA (size n : Nat) (x : Value) (k : List Value → T) : T :=
  match x with
  | .slice (some a) _ _ => bif n == 0 then k [] else (bif a.spot.isSome then .fail "spot" else rdCells a.block fun _ _ _ c => opt "first: slab" (slab c a.off (n * size)) k)
  | .slice none _ _ => k []
  | .string s => bif size == 1 then k ((s.extract 0 n).data.toList.map fun b => .int .u8 b.toNat) else .fail "first: string"
  | _ => .fail "first"

def lenA : Value → Option Nat
  | .slice _ n _ => some n
  | .string s => some s.size
  | _ => none

def roomy (need bytes : Nat) : Bool := need ≤ 2 ^ 30 && bytes ≤ 2 ^ 12

def secondOk (P : Program) (argTypes : Array TypeId) : Bool :=
  match argTypes[1]? with
  | some xT => (match P.underlying xT with | some (.slice _) | some .string => true | _ => false)
  | none => true

def appendBody (elem : TypeId) (i : TypeInfo) (base : Option Addr) (sLen c2 n : Nat) (new : List Value) (c : Nat) (k : Value → Nat → T) : T :=
  match base with
  | none =>
    bif n == 0 then k (.slice none 0 0) c else
    bif roomy (sLen + n) i.bytes then .nw c (.cells false false elem new) (k (.slice (some ⟨c, 0, none⟩) (sLen + n) (2 * (sLen + n))) (c + 1)) else .fail "append: room"
  | some a =>
    bif n == 0 then (bif sLen ≤ c2 / 2 then k (.slice (some a) sLen c2) c else .fail "append: length") else
    bif a.block == 0 then .fail "append: nowhere" else
    rdCells a.block fun ro ex et cs =>
    bif sLen + n ≤ c2 / 2 then
      bif ro then .fail "ro" else
      bif new.all Value.oneCell' && a.off + (sLen + n) * i.size ≤ cs.length then .wr a.block (.cells ro ex et (patch cs (a.off + sLen * i.size) new)) (k (.slice (some a) (sLen + n) c2) c)
      else .fail "append: in place, no cells"
    else
    bif roomy (sLen + n) i.bytes then
      opt "append: old" (slab cs a.off (sLen * i.size)) fun old =>
      bif c2 % 2 == 1 then .nw c (.cells false false elem (old ++ new)) (k (.slice (some ⟨c, 0, none⟩) (sLen + n) (2 * (sLen + n))) (c + 1))
      else bif ro || !(et == elem) || !new.all Value.oneCell' then .fail "append: inexact" else
        .wr a.block .dead (.nw c (.cells false false elem (old ++ new)) (k (.slice (some ⟨c, 0, none⟩) (sLen + n) (2 * (sLen + n))) (c + 1)))
    else .fail "append: room"

def appendA (P : Program) (argTypes : Array TypeId) (args : Array Value) (c : Nat) (k : Value → Nat → T) : T :=
  match argTypes[0]?, (args[0]? : Option Value), (args[1]? : Option Value) with
  | some sType, some (.slice base sLen c2), some x =>
    (match P.underlying sType with
    | some (.slice elem) =>
      opt "info" (P.info? elem) fun i =>
      opt "append: zero" (zeroOf P elem) fun z =>
      bif z.cells.size == i.size && secondOk P argTypes then
      opt "len" (lenA x) fun n =>
      firstA i.size n x fun new => appendBody elem i base sLen c2 n new c k
      else .fail "append: zero"
    | _ => .fail "append: type")
  | _, _, _ => .fail "append"

def copyA (P : Program) (argTypes : Array TypeId) (args : Array Value) (c : Nat) (k : Value → Nat → T) : T :=
  match argTypes[0]?, (args[0]? : Option Value), (args[1]? : Option Value) with
  | some dType, some (.slice base dLen _), some src =>
    (match P.underlying dType with
    | some (.slice elem) =>
      opt "info" (P.info? elem) fun i =>
      opt "len" (lenA src) fun sl =>
      firstA i.size (Nat.min sl dLen) src fun cells =>
      (match base with
      | none => k (goInt (Nat.min sl dLen)) c
      | some a =>
        bif Nat.min sl dLen == 0 then k (goInt (Nat.min sl dLen)) c else
        rdCells a.block fun ro ex et cs =>
        bif ro then .fail "ro" else
        bif cells.all Value.oneCell' && a.off + (Nat.min sl dLen) * i.size ≤ cs.length then .wr a.block (.cells ro ex et (patch cs a.off cells)) (k (goInt (Nat.min sl dLen)) c) else .fail "copy: no cells")
    | _ => .fail "copy: type")
  | _, _, _ => .fail "copy"

def boundA (x : Value) (y : Nat) : Option Nat := (natOf x).bind fun i => if i ≤ y then some i else none

def boundsA (len cap : Nat) (lo hi mx : Option Value) : Option (Nat × Nat × Nat) :=
  match (match mx with | some v => boundA v cap | none => some cap) with
  | none => none
  | some m =>
    match (match hi, mx with | some v, _ => boundA v m | none, none => some len | none, some _ => none) with
    | none => none
    | some h => match (match lo with | some v => boundA v h | none => some 0) with
      | none => none
      | some l => some (l, h, m)

def sliceA (P : Program) (t : TypeId) (x : Value) (lo hi mx : Option Value) (k : Value → T) : T :=
  match P.underlying t, x with
  | some .string, .string s =>
    (match mx with
    | some _ => .fail "slice: max of a string"
    | none => opt "slice: bounds" (boundsA s.size s.size lo hi none) fun q => k (.string (s.extract q.1 q.2.1)))
  | some (.slice elem), .slice a len c2 =>
    opt "size" (sizeOfT P elem) fun size =>
    opt "slice: bounds" (boundsA len (c2 / 2) lo hi mx) fun q =>
    (match a with
    | none => k (.slice none 0 0)
    | some a =>
      bif a.block == 0 then k nowhere else
      bif c2 % 2 == 1 || mx.isSome then k (.slice (some (if q.2.2 = q.1 then a else a.add (q.1 * size))) (q.2.1 - q.1) (2 * (q.2.2 - q.1) + 1))
      else
        rdCells a.block fun _ _ et _ =>
        bif et == elem then
        (bif q.2.2 == q.1 then (bif q.2.1 == q.1 then k nowhere else .fail "slice: m = l") else bif q.1 < q.2.2 then k (.slice (some (a.add (q.1 * size))) (q.2.1 - q.1) (2 * (q.2.2 - q.1))) else .fail "slice: l")
        else .fail "slice: es")
  | some (.array n elem), .pointer (some a) =>
    opt "size" (sizeOfT P elem) fun size =>
    opt "slice: bounds" (boundsA n n lo hi mx) fun q =>
    k (.slice (some (if q.2.2 = q.1 then a else a.add (q.1 * size))) (q.2.1 - q.1) (2 * (q.2.2 - q.1) + 1))
  | _, _ => .fail "slice: type"

def indexAddrA (P : Program) (t : TypeId) (x ix : Value) (k : Value → T) : T :=
  opt "index" (natOf ix) fun i =>
  match P.underlying t, x with
  | some (.array len elem), .pointer (some a) => opt "size" (sizeOfT P elem) fun s => bif i < len then k (.pointer (some (a.add (i * s)))) else .fail "index: out of range"
  | some (.slice elem), .slice (some a) len _ => opt "size" (sizeOfT P elem) fun s => bif i < len then k (.pointer (some (a.add (i * s)))) else .fail "index: out of range"
  | _, _ => .fail "indexAddr"

def fieldAddrA (P : Program) (s : TypeId) (x : Value) (f : Nat) (k : Value → T) : T :=
  match P.underlying s, x with
  | some (.struct fields), .pointer (some a) =>
    opt "field" (fields[f]?) fun fd => opt "size" (sizeOfT P fd.type) fun n => bif n == 0 then .fail "field of no cells" else k (.pointer (some (a.add fd.offset)))
  | _, _ => .fail "fieldAddr"

def fieldA (P : Program) (t : TypeId) (x : Value) (f : Nat) (k : Value → T) : T :=
  match P.underlying t, x with
  | some (.struct fields), .agg cs =>
    opt "field" (fields[f]?) fun fd =>
    match isAggT P fd.type with
    | some true => opt "size" (sizeOfT P fd.type) fun n => k (.agg (cs.extract fd.offset (fd.offset + n)))
    | some false => opt "field: cell" (cs[fd.offset]?) k
    | none => .fail "field: type"
  | _, _ => .fail "field"

def placesA (P : Program) (fields : Array Field) : Option (Array (Nat × Nat)) :=
  pureOf P (fields.mapM fun f => do pure (f.offset, ← sizeOf f.type))

def buildA (P : Program) (t : TypeId) (parts : Array (Nat × Value)) (k : Value → T) : T :=
  opt "zero" (zeroOf P t) fun z =>
  match P.underlying t with
  | some (.struct fields) =>
    opt "places" (placesA P fields) fun places => opt "fill" (Instr.fill (places[·]?) z.cells parts.toList) fun cells => k (.agg cells)
  | some (.array _ e) =>
    opt "size" (sizeOfT P e) fun size => opt "fill" (Instr.fill (fun i => some (i * size, size)) z.cells parts.toList) fun cells => k (.agg cells)
  | _ => .fail "build"

def zeroCellsA (P : Program) (e : TypeId) (n : Nat) : Option (Array Value) :=
  if n = 0 then some #[] else (zeroOf P e).map fun z => z.cells

def isNilish (P : Program) (t : TypeId) (v : Value) : Option Bool :=
  match P.underlying t, v with
  | some (.pointer _), .pointer a => some a.isNone
  | some (.slice _), .slice a _ _ => some a.isNone
  | some (.map _ _), .map a => some a.isNone
  | some (.func _ _ _), .nilFunc => some true
  | some (.func _ _ _), .func .. => some false
  | some (.interface _), .nilIface => some true
  | some (.interface _), .iface .. => some false
  | _, _ => none

/-- two pointers into one block -/
def samePtr (P : Program) (t : TypeId) (a b : Value) : Option Bool :=
  match a, b, P.underlying t with
  | .pointer (some a), .pointer (some b), some (.pointer e) =>
    bif a.block == b.block && a.block != 0 && (sizeOfT P e).getD 0 != 0 then some (a == b) else none
  | _, _, _ => none

def keyEntries (es : List (Value × Value)) : List MapEntry := es.map fun e => { key := e.1, val := undef, born := 0 }

def lookupIn (P : Program) (keyT elem : TypeId) (key : Value) (ok : Bool) (es : List (Value × Value)) (k : Value → T) : T :=
  if flat key then
  opt "lookup: key" (pureOf P (Instr.checkKey es.isEmpty 10000 keyT key)) fun _ =>
  opt "lookup: find" (pureOf P (Instr.findKey keyT key (keyEntries es))) fun
    | some (i, _) => opt "lookup: entry" (es[i]?) fun e => k (if ok then .tuple #[e.2, .bool true] else e.2)
    | none => opt "zero" (zeroOf P elem) fun z => k (if ok then .tuple #[z, .bool false] else z)
  else .fail "lookup: flat"

def lookupA (P : Program) (t : TypeId) (x key : Value) (ok : Bool) (k : Value → T) : T :=
  match P.underlying t, x with
  | some (.map keyT elem), .map none => lookupIn P keyT elem key ok [] k
  | some (.map keyT elem), .map (some r) => .rd r fun | .map es => lookupIn P keyT elem key ok es k | _ => .fail "lookup: map"
  | _, _ => .fail "lookup"

def updateA (P : Program) (t : TypeId) (x key v : Value) (k : T) : T :=
  match P.underlying t, x with
  | some (.map keyT _), .map (some r) =>
    .rd r fun
      | .map es =>
        if flat key then
        opt "update: key" (pureOf P (Instr.checkKey false 10000 keyT key)) fun _ =>
        opt "update: find" (pureOf P (Instr.findKey keyT key (keyEntries es))) fun
          | some (i, _) =>
            opt "update: entry" (es[i]?) fun e =>
            if Instr.sameBits 10000 e.1 key then .wr r (.map (es.set i (key, v))) k else .fail "update: key bits"
          | none => .wr r (.map (es ++ [(key, v)])) k
        else .fail "update: flat"
      | _ => .fail "update: map"
  | _, _ => .fail "update"

def putT (n : Nat) (t : Tr Value) (d : Option Tmp) (v : Value) : Option (Tr Value) :=
  match d with
  | none => some t
  | some d => bif d < n && d < 1099511627775 then some (t.set width d v) else none

def callF (P : Program) (f : FuncId) (args : Array Value) (c : Nat) (k : ANext → Nat → T) : T :=
  match P.funcs[f]? with
  | none => .fail "no function"
  | some fn =>
    match fn.body with
    | some _ => if fn.name == "runtime.NumGoroutine" then .fail "NumGoroutine" else k (.enter f args) c
    | none =>
      if fn.name == "internal/abi.NoEscape" && fn.origin == "" then (match args.toList with | [v] => k (.val v) c | _ => .fail "noescape") else
      .fail ("extern " ++ fn.name)

def putAll (n : Nat) : List (Tmp × Value) → Tr Value → Option (Tr Value)
  | [], t => some t
  | (d, a) :: l, t => match putT n t (some d) a with
    | some t => putAll n l t
    | none => none

def invokeA (P : Program) (t : Target) (args : Array Value) (c : Nat) (k : ANext → Nat → T) : T :=
  match t with
  | .fn (.func f) captured => callF P f (args ++ captured) c k
  | .fn (.yield l) _ => .rd l fun
    | .loop r =>
      bif args.size == r.params.size then opt "yield: tmps" (putAll r.n (r.params.toList.zip args.toList) r.tmps) fun tm => k (.round l r tm) c
      else .fail "yield: arguments"
    | _ => .fail "yield: no loop"
  | _ => .fail "invoke"

def lenBA (P : Program) (argTypes : Array TypeId) (args : Array Value) (k : Value → T) : T :=
  match argTypes[0]?, (args[0]? : Option Value) with
  | some t, some x =>
    (match P.underlying t, x with
    | some .string, .string s => k (goInt s.size)
    | some (.array n _), _ => k (goInt n)
    | some (.slice _), .slice _ n _ => k (goInt n)
    | some (.map _ _), .map none => k (goInt 0)
    | some (.map _ _), .map (some r) => .rd r fun | .map es => k (goInt es.length) | _ => .fail "len: map"
    | _, _ => .fail "len: type")
  | _, _ => .fail "len"

def capBA (P : Program) (argTypes : Array TypeId) (args : Array Value) (k : Value → T) : T :=
  match argTypes[0]?, (args[0]? : Option Value) with
  | some t, some x =>
    (match P.underlying t, x with
    | some (.slice _), .slice none _ _ => k (goInt 0)
    | some (.slice _), .slice (some a) _ c2 => bif a.block == 0 || !(c2 % 2 == 1) then .fail "cap: not known" else k (goInt (c2 / 2 : Nat))
    | _, _ => .fail "cap: type")
  | _, _ => .fail "cap"

def sliceDataA (args : Array Value) (k : Value → T) : T :=
  match args.toList with
  | [.slice none _ _] => k (.pointer none)
  | [.slice (some a) n c2] => bif n == 0 || a.block == 0 || c2 / 2 == 0 then .fail "unsafeSliceData" else k (.pointer (some a))
  | _ => .fail "unsafeSliceData"

def unsafeStringA (P : Program) (argTypes : Array TypeId) (args : Array Value) (k : Value → T) : T :=
  match argTypes[0]?, args.toList with
  | some _, [.pointer none, .int _ 0] => k (.string ByteArray.empty)
  | some pt, [.pointer (some a), .int _ n] =>
    (match P.underlying pt with
    | some (.pointer e) =>
      rdCells a.block fun ro ex et cs =>
      bif et == e && 0 < n && n ≤ 1073741824 && !ro && sizeOfT P e == some 1 then
        opt "unsafeString: slab" (slab cs a.off n.toNat) fun x => opt "unsafeString: bytes" (bytesOf x) fun bs =>
        .wr a.block (.cells true ex et cs) (k (.string ⟨bs.toArray⟩))
      else .fail "unsafeString"
    | _ => .fail "unsafeString: type")
  | _, _ => .fail "unsafeString"

def builtinA (P : Program) (b : Builtin) (argTypes : Array TypeId) (type : TypeId) (args : Array Value) (c : Nat) (k : ANext → Nat → T) : T :=
  match b with
  | .append => appendA P argTypes args c fun x c => k (.val x) c
  | .copy => copyA P argTypes args c fun x c => k (.val x) c
  | .len => lenBA P argTypes args fun x => k (.val x) c
  | .cap => capBA P argTypes args fun x => k (.val x) c
  | .min => if args.toList.all flat then pureV P "min" (Builtin.min_ argTypes type args) fun x => k (.val x) c else .fail "min: flat"
  | .max => if args.toList.all flat then pureV P "max" (Builtin.max_ argTypes type args) fun x => k (.val x) c else .fail "max: flat"
  | .recover => k .recover c
  | .unsafeSliceData => sliceDataA args fun x => k (.val x) c
  | .unsafeString => unsafeStringA P argTypes args fun x => k (.val x) c
  | _ => .fail "builtin"

def resolveA (ρ : Operand → Value) (cl : Call) (k : Target → Array Value → T) : T :=
  match cl.callee with
  | .value f => (match ρ f with
    | .func fn first captured => k (.fn fn captured) (first ++ cl.args.map ρ)
    | _ => .fail "call: function value expected")
  | _ => .fail "resolve"

def buildSliceA (P : Program) (t : TypeId) (len : Nat) (parts : Array (Nat × Value)) (c : Nat) (k : Value → Nat → T) : T :=
  match P.underlying t with
  | some (.slice e) => opt "info" (sizeOfT P e) fun size =>
    bif len * size ≤ 16777216 then
    opt "buildSlice: zero" (zeroCellsA P e (len * size)) fun z =>
    opt "buildSlice: fill" (Instr.fill (fun j => some (j * size, size)) ((Array.range (len * size)).map (z[· % z.size]!)) parts.toList) fun cs =>
    .nw c (.cells false true e cs.toList) (k (.slice (some ⟨c, 0, none⟩) len (2 * len + 1)) (c + 1))
    else .fail "buildSlice"
  | _ => .fail "buildSlice: type"

def makeSliceA (P : Program) (t : TypeId) (l cp : Value) (c : Nat) (k : Value → Nat → T) : T :=
  match P.underlying t with
  | some (.slice e) => opt "info" (P.info? e) fun i => opt "makeSlice: len" (natOf l) fun l => opt "makeSlice: cap" (natOf cp) fun cp =>
    bif l ≤ cp && cp ≤ 1073741824 && i.bytes ≤ 4096 then
    opt "makeSlice: zero" (zeroCellsA P e (cp * i.size)) fun z =>
    .nw c (.cells false true e ((Array.range (cp * i.size)).map (z[· % z.size]!)).toList) (k (.slice (some ⟨c, 0, none⟩) l (2 * cp + 1)) (c + 1))
    else .fail "makeSlice: room"
  | _ => .fail "makeSlice"

def convertA (P : Program) (s d : TypeId) (a : Value) (c : Nat) (k : Value → Nat → T) : T :=
  match a with
  | .slice base n _ =>
    (match P.underlying s, P.underlying d with
    | some (.slice e), some .string =>
      (match P.underlying e, base with
      | some (.int .u8), none => k (.string ByteArray.empty) c
      | some (.int .u8), some ad => bif n == 0 then k (.string ByteArray.empty) c else
          rdCells ad.block fun _ _ _ cs => opt "conv: slab" (slab cs ad.off n) fun x => opt "conv: bytes" (bytesOf x) fun bs => k (.string ⟨bs.toArray⟩) c
      | _, _ => .fail "convert: slice of what")
    | _, _ => .fail "convert: slice")
  | .string st =>
    (match P.underlying s, P.underlying d with
    | some .string, some .string => k (.string st) c
    | some .string, some (.slice e) =>
      (match P.underlying e with
      | some (.int .u8) =>
        bif st.size == 0 || !(sizeOfT P e == some 1) || !((zeroOf P e).map (fun z => z.cells.size) == some 1) then .fail "convert: empty string" else
        .nw c (.cells false false e (st.data.toList.map fun b => .int .u8 b.toNat)) (k (.slice (some ⟨c, 0, none⟩) st.size (2 * st.size)) (c + 1))
      | _ => .fail "convert: string to what")
    | _, _ => .fail "convert: string")
  | .pointer none =>
    (match P.underlying s, P.underlying d with
    | some (.pointer _), some .unsafePointer | some .unsafePointer, some (.pointer _) => k a c
    | _, _ => .fail "convert: nil")
  | .pointer (some ad) =>
    (match P.underlying s, P.underlying d with
    | some (.pointer t), some .unsafePointer => opt "size" (sizeOfT P t) fun n =>
      rdCells ad.block fun _ _ _ cs => bif n == 0 || cs.length ≤ ad.off then .fail "convert: unsafe" else k a c
    | some .unsafePointer, some (.pointer u) => opt "size" (sizeOfT P u) fun _ =>
      rdCells ad.block fun _ ex et cs => bif ex && liesAt P P.depth et (cs.length / P.cellsOf et) ad.off u 1 then k a c else .fail "convert: unsafe"
    | _, _ => .fail "convert: pointer")
  | _ => if flat a then pureV P "convert" (convert s d a) fun v => k v c else .fail "convert: blocks"

def binOpA (P : Program) (op : BinOp) (t : TypeId) (x y : Operand) (a b : Value) (k : Value → T) : T :=
  if flat a && flat b then pureV P "binOp" (do eqGuard op t x y a b; binOp op t a b) k
  else
    match samePtr P t a b with
    | some e => (match op with | .eql => k (.bool e) | .neq => k (.bool !e) | _ => .fail "binOp: pointers")
    | none =>
      match op, isNilish P t a, isNilish P t b with
      | .eql, some p, some q => bif p != q then k (.bool false) else .fail "eql: two that are not nil"
      | .neq, some p, some q => bif p != q then k (.bool true) else .fail "neq: two that are not nil"
      | _, _, _ => .fail "binOp: blocks"

def nilCheckA (x : Value) (k : Value → T) : T :=
  match x with
  | .pointer none | .nilIface | .nilFunc => .fail "nil"
  | .func (.method _) _ _ => .fail "nilCheck of a method value"
  | y => k y

def makeMapA (P : Program) (t : TypeId) (hint : Option Value) (c : Nat) (k : Value → Nat → T) : T :=
  match hint with
  | none => .nw c (.map []) (k (.map (some c)) (c + 1))
  | some v => (match P.underlying t, v with
    | some (.map _ _), .int _ _ => .nw c (.map []) (k (.map (some c)) (c + 1))
    | _, _ => .fail "makeMap")

def nextA' (it : Value) (k : Value → T) : T :=
  match it with
  | .pointer (some ⟨r, 0, none⟩) => .rd r fun
    | .siter s pos =>
      if pos < s.size then .wr r (.siter s (pos + (Utf8.decode s pos).2)) (k (.tuple #[.bool true, goInt pos, .int .i32 (Utf8.decode s pos).1]))
      else k (.tuple #[.bool false])
    | _ => .fail "next"
  | _ => .fail "next"

def rangeA (P : Program) (t : TypeId) (x : Value) (c : Nat) (k : Value → Nat → T) : T :=
  match P.underlying t, x with
  | some .string, .string s => .nw c (.siter s 0) (k (.pointer (some ⟨c, 0, none⟩)) (c + 1))
  | _, _ => .fail "range"

def aop (P : Program) (ρ : Operand → Value) (o : Oper) (c : Nat) (k : ANext → Nat → T) : T :=
  match o.op with
  | .move x | .assign x => k (.val (ρ x)) c
  | .pick cn a b => (match ρ cn with | .bool t => k (.val (if t then ρ a else ρ b)) c | _ => .fail "pick")
  | .alloc e => opt "zero" (zeroOf P e) fun z => newA z e c fun x c => k (.val x) c
  | .box e x => newA (ρ x) e c fun x c => k (.val x) c
  | .build t ps => buildA P t (ps.map fun (i, x) => (i, ρ x)) fun v => k (.val v) c
  | .buildSlice t len ps => buildSliceA P t len (ps.map fun (j, x) => (j, ρ x)) c fun v c => k (.val v) c
  | .load t a => (match ρ a with | .pointer (some a) => loadA P t a fun v => k (.val v) c | _ => .fail "load")
  | .store t a x => (match ρ a with | .pointer (some a) => storeA P t a (ρ x) (k .skip c) | _ => .fail "store")
  | .nilCheck x => nilCheckA (ρ x) fun v => k (.val v) c
  | .binOp op t x y _ => binOpA P op t x y (ρ x) (ρ y) fun v => k (.val v) c
  | .unOp op _ x => if flat (ρ x) then pureV P "unOp" (Op.unary op (ρ x)) fun v => k (.val v) c else .fail "unOp"
  | .convert s d x => convertA P s d (ρ x) c fun v c => k (.val v) c
  | .makeInterface t x => (match P.underlying t with | some (.interface _) => .fail "makeInterface" | some _ => k (.val (.iface t (ρ x))) c | none => .fail "makeInterface")
  | .makeFunc fn first captured => (match fn with | .func f => k (.val (.func (.func f) (first.map ρ) (captured.map ρ))) c | _ => .fail "makeFunc")
  | .makeMap t hint => makeMapA P t (hint.map ρ) c fun v c => k (.val v) c
  | .makeSlice t l cp => makeSliceA P t (ρ l) (ρ cp) c fun v c => k (.val v) c
  | .slice t x lo hi mx => sliceA P t (ρ x) (lo.map ρ) (hi.map ρ) (mx.map ρ) fun v => k (.val v) c
  | .fieldAddr s x f => fieldAddrA P s (ρ x) f fun v => k (.val v) c
  | .field t x f => fieldA P t (ρ x) f fun v => k (.val v) c
  | .indexAddr t x ix => indexAddrA P t (ρ x) (ρ ix) fun v => k (.val v) c
  | .index t x ix => if flat (ρ x) && flat (ρ ix) then pureV P "index" (Instr.index t (ρ x) (ρ ix)) fun v => k (.val v) c else .fail "index"
  | .lookup t x ix ok => lookupA P t (ρ x) (ρ ix) ok fun v => k (.val v) c
  | .mapUpdate t m key x | .insert t m key x => updateA P t (ρ m) (ρ key) (ρ x) (k .skip c)
  | .range t x => rangeA P t (ρ x) c fun v c => k (.val v) c
  | .next it true => nextA' (ρ it) fun v => k (.val v) c
  | .extract t i => (match ρ t with | .tuple vs => opt "extract" (vs[i]?) fun v => k (.val v) c | _ => .fail "extract")
  | .call cl =>
    (match cl.callee with
    | .builtin b => builtinA P b cl.argTypes o.type (cl.args.map ρ) c k
    | _ => resolveA ρ cl fun t args => invokeA P t args c k)
  | .defer cl => resolveA ρ cl fun t args => k (.defer { target := t, args }) c
  | .panic x => (match ρ x with | .iface t y => k (.panic (.iface t y)) c | _ => .fail "panic")
  | _ => .fail "op"

def AFr.eval (f : AFr) : Operand → Value
  | .tmp t => (f.tmps.get t).getD undef
  | .const v => v
  | .global g => .pointer (some ⟨g + 1, 0, none⟩)
  | .func g => .func (.func g) #[] #[]

def argTmps (args : List Value) (i : Nat) (t : Tr Value) : Tr Value :=
  match args with
  | [] => t
  | a :: r => argTmps r (i + 1) (t.set width i a)

def enterA (P : Program) (f : FuncId) (args : Array Value) (kind : CallKind) (k : AFr → T) : T :=
  match P.funcs[f]? with
  | some fn => match fn.body with
    | some body => bif args.size ≤ fn.ntmps && Nat.blt fn.ntmps 1099511627775 then
        k { fn := f, n := fn.ntmps, tmps := argTmps args.toList 0 .leaf, todo := [.code body], defers := [], mode := .run, kind, roundOf := none }
      else .fail "enter: arguments"
    | none => .fail "enter: no body"
  | none => .fail "enter"

def raiseA (f : AFr) (vs : List PanicEntry) : AFr :=
  match f.mode with
  | .panicking chain => { f with mode := .panicking (vs ++ chain) }
  | _ => { f with mode := .panicking vs }

/-- what the frame's operation yields -/
def finishA (f : AFr) (v : Value) (k : AFr → T) : T :=
  match f.todo with
  | .inRegion ops (i :: rest) :: td => opt "finish" (putT f.n f.tmps ((ops[i]?).bind (·.dst)) v) fun t => k { f with tmps := t, todo := .inRegion ops rest :: td }
  | .inRangeFunc l :: td => k { f with todo := .endRangeFunc l :: td }
  | .beginRound :: td => k { f with todo := td }
  | _ => .fail "finish"

def wantedA (f : AFr) (ops : Array Oper) (o : Oper) : Bool :=
  match o.guard with
  | none => true
  | some (j, want) => (match ((ops[j]?).bind (·.dst)).bind f.tmps.get with
    | some (.bool b) => b == want
    | _ => false)

/-- what recover() gives here, and the callers behind it -/
def recoverA (f : AFr) (fs : List AFr) : Option (Value × List AFr) :=
  match f.kind, fs with
  | .normal, fs => some (.nilIface, fs)
  | .deferred, c :: rest =>
    match c.mode with
    | .panicking (e :: older) => if e.recovered || e.goexit then some (.nilIface, c :: rest) else some (e.v, { c with mode := .panicking ({ e with recovered := true } :: older) } :: rest)
    | _ => some (.nilIface, c :: rest)
  | _, _ => none

def exitA (id : Nat) : List Item → Option (List Item)
  | .inBlock id' :: k => if id' == id then some k else exitA id k
  | _ :: k => exitA id k
  | [] => none

def nextA (P : Program) (f : AFr) (fs : List AFr) (x : ANext) (c : Nat) : T :=
  match x with
  | .val v => finishA f v fun f => .ret ⟨f :: fs, c⟩
  | .skip => finishA f undef fun f => .ret ⟨f :: fs, c⟩
  | .enter g args => enterA P g args .normal fun g => .ret ⟨g :: f :: fs, c⟩
  | .round l r t => .ret ⟨{ fn := r.fn, n := r.n, tmps := t, todo := [.code r.assign, .beginRound, .code r.body], defers := [], mode := .run, kind := .normal, roundOf := some l } :: f :: fs, c⟩
  | .defer d => (match f.roundOf with
    | some _ => .fail "defer in a round"
    | none => finishA { f with defers := d :: f.defers } undef fun f => .ret ⟨f :: fs, c⟩)
  | .recover => (match f.roundOf with
    | some _ => .fail "recover in a round"
    | none => (match recoverA f fs with
      | some (v, fs) => finishA f v fun f => .ret ⟨f :: fs, c⟩
      | none => .fail "recover"))
  | .panic v => .ret ⟨raiseA f [{ v, recovered := false }] :: fs, c⟩

def resultsA (P : Program) (f : AFr) (rs : List ResultVar) (acc : List Value) (k : Value → T) : T :=
  match rs with
  | [] => k (match acc with | [v] => v | vs => .tuple vs.reverse.toArray)
  | .tmp t :: rs => resultsA P f rs ((f.eval (.tmp t)) :: acc) k
  | .cell a t :: rs => (match f.eval (.tmp a) with
    | .pointer (some a) => loadA P t a fun v => resultsA P f rs (v :: acc) k
    | _ => .fail "results")

def leaveRound (f : AFr) (fs : List AFr) (l : Nat) (jump : Option Code) (c : Nat) : T :=
  .rd l fun
  | .loop r => .wr l (.loop { r with state := if jump.isNone then .ready else .done, pending := jump }) <|
    (match f.kind, fs with
    | .normal, g :: fs => finishA g (.bool jump.isNone) fun g => .ret ⟨g :: fs, c⟩
    | _, _ => .fail "round: caller")
  | _ => .fail "round: no loop"

def leaveA (f : AFr) (fs : List AFr) (jump : Option Code) (c : Nat) : T :=
  match f.roundOf with
  | none => (match jump with
    | none | some .ret => .ret ⟨{ f with mode := .returning } :: fs, c⟩
    | _ => .fail "leave")
  | some l => leaveRound f fs l jump c

def execA (P : Program) (f : AFr) (fs : List AFr) (c : Nat) : T :=
  let to (td : List Item) : T := .ret ⟨{ f with todo := td } :: fs, c⟩
  match f.todo with
  | [] => leaveA f fs none c
  | .code cd :: k =>
    (match cd with
    | .ret => leaveA f fs (some .ret) c
    | .skip | .label _ => to k
    | .seq a b => to (.code a :: .code b :: k)
    | .cond x a b => (match f.eval x with | .bool t => to (.code (if t then a else b) :: k) | _ => .fail "cond")
    | .block id body => to (.code body :: .inBlock id :: k)
    | .loop body => to (.code body :: .inLoop body :: k)
    | .scope body => to (.code body :: .inScope body :: k)
    | .exit id => (match exitA id k with | some k => to k | none => leaveA f fs (some (.exit id)) c)
    | .region _ ops false => to (.inRegion ops (List.range ops.size) :: k)
    | .rangeFunc g params assign body =>
      (match f.roundOf with
      | some l => .rd l fun | .loop _ => .fail "rangeFunc in a round" | _ => .fail "rangeFunc: no loop"
      | none =>
        .nw c (.deferred (some [])) <|
        .nw (c + 1) (.loop { state := .ready, pending := none, fn := f.fn, n := f.n, tmps := f.tmps, params, assign, body, defers := c }) <|
        let f := { f with todo := .inRangeFunc (c + 1) :: k, defers := { target := .collected c, args := #[] } :: f.defers }
        (match f.eval g with
        | .func fn first captured => invokeA P (.fn fn captured) (first ++ #[.func (.yield (c + 1)) #[] #[]]) (c + 2) fun x c => nextA P f fs x c
        | _ => .fail "rangeFunc: function"))
    | _ => .fail "code")
  | .inBlock _ :: k | .inScope _ :: k => to k
  | .inLoop body :: k => to (.code body :: .inLoop body :: k)
  | .beginRound :: k => (match f.roundOf with
    | some l => .rd l fun
      | .loop r => (match r.state with
        | .ready => .wr l (.loop { r with state := .busy }) (to k)
        | _ => .fail "beginRound")
      | _ => .fail "beginRound"
    | none => .fail "beginRound")
  | .endRangeFunc l :: k => .rd l fun
    | .loop r => (if r.state == .busy then .fail "endLoop: busy" else .wr l (.loop { r with state := .exhausted }) (to ((r.pending.map Item.code).toList ++ k)))
    | _ => .fail "endLoop"
  | .inRegion _ [] :: k => to k
  | .inRegion ops (i :: _) :: _ =>
    (match ops[i]? with
    | none => finishA f undef fun f => .ret ⟨f :: fs, c⟩
    | some o => bif wantedA f ops o then aop P f.eval o c fun x c => nextA P f fs x c else finishA f undef fun f => .ret ⟨f :: fs, c⟩)
  | _ => .fail "item"

def unwindA (P : Program) (f : AFr) (fs : List AFr) (c : Nat) : T :=
  match f.defers with
  | { target := .collected b, .. } :: ds => .rd b fun
    | .deferred (some l) => .wr b (.deferred none) (.ret ⟨{ f with defers := l ++ ds } :: fs, c⟩)
    | _ => .fail "collected"
  | d :: ds => invokeA P d.target d.args c fun x c => (match x with
    | .enter g args => enterA P g args .deferred fun g => .ret ⟨g :: { f with defers := ds } :: fs, c⟩
    | _ => .fail "deferred call")
  | [] =>
    match f.mode with
    | .run => .fail "unwind"
    | .panicking chain => (match fs, P.funcs[f.fn]? with
      | g :: fs, some _ => .ret ⟨raiseA g chain :: fs, c⟩
      | _, _ => .fail "panic")
    | .returning =>
      match P.funcs[f.fn]? with
      | none => .fail "returning"
      | some fn => resultsA P f fn.results.toList [] fun v =>
        match fs with
        | g :: fs => (match f.kind with
          | .normal => finishA g v fun g => .ret ⟨g :: fs, c⟩
          | .deferred =>
            let g := match g.mode with
              | .panicking ({ recovered := true, .. } :: older) =>
                match older.dropWhile (!·.goexit) with
                | [] => { g with mode := .returning }
                | rest => { g with mode := .panicking rest }
              | _ => g
            .ret ⟨g :: fs, c⟩
          | _ => .fail "return: kind")
        | [] => .fail "return: bottom"

def astep (P : Program) (u : U) : T :=
  match u.fs with
  | [] => .fail "no frame"
  | f :: fs => match f.mode with
    | .run => execA P f fs u.c
    | _ => unwindA P f fs u.c

end Go.Proofs.YtfjaemckpmoomaaGreatDoor.Lane

namespace Go.Proofs.YtfjaemckpmoomaaGreatDoor.Lane

/-- which blocks a run has met (false: read, true: written or made) -/
abbrev Log := Tr Bool

def Log.read (l : Log) (b : Nat) : Log := match l.get b with | some _ => l | none => l.set width b false
def Log.wrote (l : Log) (b : Nat) : Log := l.set width b true

def T.runL (lg : Bool) : T → Tr Blk → Log → Except String (U × Tr Blk × Log)
  | .ret u, h, l => .ok (u, h, l)
  | .fail s, _, _ => .error s
  | .rd b k, h, l => bif idOk b then match h.get b with
    | some x => (k x).runL lg h (bif lg then l.read b else l)
    | none => .error "rd: no block"
    else .error "rd: id"
  | .wr b x k, h, l => bif idOk b then match h.get b with
      | some _ => k.runL lg (h.set width b x) (bif lg then l.wrote b else l)
      | none => .error "wr: no block"
    else .error "wr: id"
  | .nw b x k, h, l => bif idOk b then match h.get b with
      | some _ => .error "nw: not fresh"
      | none => k.runL lg (h.set width b x) (bif lg then l.wrote b else l)
    else .error "nw: id"

/-- no block that one has met and the other has written -/
def Log.apart : Log → Log → Bool
  | .leaf, _ => true
  | _, .leaf => true
  | .node l v r, .node l' v' r' =>
    (match v, v' with | some a, some b => !(a || b) | _, _ => true) && (Log.apart l l' && Log.apart r r')

def Log.union : Log → Log → Log
  | .leaf, t => t
  | t, .leaf => t
  | .node l v r, .node l' v' r' => .node (Log.union l l') (match v, v' with | some a, some b => some (a || b) | some a, none => some a | none, y => y) (Log.union r r')

def packV (v : Value) : AFr := { fn := 0, n := 0, tmps := .leaf, todo := [], defers := [{ target := .nil, args := #[v] }], mode := .run, kind := .normal, roundOf := none }
def unpackV (u : U) : Option Value := match u.fs with
  | [f] => (match f.defers with
    | [d] => (match d.target, d.args.toList with | .nil, [v] => some v | _, _ => none)
    | _ => none)
  | _ => none

abbrev Out := (Value × Nat) × Tr Blk × Log

/-- a call of a function with one text: it reads one table, and hands back a new slice of these cells -/
structure Entry where
  fn : Nat
  arg : List UInt8
  tab : Nat
  zs : List Nat
  et : TypeId
  cells : List Value
  len : Nat
  cap : Nat

def tabEq : List Value → List Nat → Bool
  | [], [] => true
  | .int .u8 (.ofNat n) :: l, z :: zs => Nat.beq n z && tabEq l zs
  | _, _ => false

def memoT (e : Entry) (c : Nat) (k : Value → Nat → T) : T :=
  .rd (e.tab + 1) fun
    | .cells _ true _ cs => bif tabEq cs e.zs then .nw c (.cells false true e.et e.cells) (k (.slice (some ⟨c, 0, none⟩) e.len (2 * e.cap + 1)) (c + 1)) else .fail "memo: the table"
    | _ => .fail "memo"

def bytesEq : List UInt8 → List UInt8 → Bool
  | [], [] => true
  | a :: l, b :: m => Nat.beq a.toNat b.toNat && bytesEq l m
  | _, _ => false

def findE : List Entry → Nat → List UInt8 → Option Entry
  | [], _, _ => none
  | e :: l, g, a => bif Nat.beq e.fn g && bytesEq e.arg a then some e else findE l g a

def memoOp (M : List Entry) (o : Oper) : Option Entry := match o.op with
  | .call cl => (match cl.callee with
    | .value (.func g) => (match cl.args.toList with | [.const (.string b)] => findE M g b.data.toList | _ => none)
    | _ => none)
  | _ => none

def opT (P : Program) (M : List Entry) (ρ : Operand → Value) (o : Oper) (c : Nat) : T :=
  match memoOp M o with
  | some e => memoT e c fun v c => .ret ⟨[packV v], c⟩
  | none => aop P ρ o c fun x c => match x with
    | .val v => .ret ⟨[packV v], c⟩
    | .skip => .ret ⟨[packV undef], c⟩
    | .enter g args => enterA P g args .normal fun g => .ret ⟨[g], c⟩
    | .round l r t => .ret ⟨[{ fn := r.fn, n := r.n, tmps := t, todo := [.code r.assign, .beginRound, .code r.body], defers := [], mode := .run, kind := .normal, roundOf := some l }], c⟩
    | _ => .fail "drawn region: what an operation does"

abbrev Dr := Bool → List AFr → Nat → Tr Blk → Log → Except String Out

def andX {α γ : Type} (r : Except String (α × Tr Blk × Log)) (G : α → Tr Blk → Log → Except String (γ × Tr Blk × Log)) : Except String (γ × Tr Blk × Log) :=
  match r with
  | .error e => .error e
  | .ok (x, h, l) => G x h l

def opRun (dr : Dr) (M : List Entry) (lg : Bool) (P : Program) (ρ : Operand → Value) (o : Oper) (c : Nat) (h : Tr Blk) (l : Log) : Except String Out :=
  andX ((opT P M ρ o c).runL lg h l) fun u h l => match unpackV u with
    | some v => .ok ((v, u.c), h, l)
    | none => dr lg u.fs u.c h l

def okOperand (g : Nat) : Operand → Bool
  | .const v => still v
  | .global i => i < g
  | _ => true

def okOper (g : Nat) (o : Oper) : Bool := o.op.operands.all (okOperand g) && (match o.op with | .select .. => false | _ => true)

/-- the operations of a drawn region that may change places -/
def mayPass (ops : Array Oper) (done : List (Nat × Log)) (o : Oper) (l : Log) : Bool :=
  done.all fun (j, lj) => o.after.any (fun e => Region.binds .any e && e.on == j) || (match ops[j]? with | some p => p.apart ops o && Log.apart lj l | none => false)

def regGo (dr : Dr) (M : List Entry) (P : Program) (g : Nat) (lg : Bool) (ops : Array Oper) : List Nat → AFr → Nat → Tr Blk → List (Nat × Log) → Except String (AFr × Nat × Tr Blk × List (Nat × Log))
  | [], f, c, h, done => .ok (f, c, h, done)
  | i :: r, f, c, h, done => match ops[i]? with
    | none => .error "region"
    | some o =>
      bif o.after.all (fun e => !Region.binds .any e || e.on < i) then
      (bif wantedA f ops o then
        (bif okOper g o then
          match opRun dr M lg P f.eval o c h .leaf with
          | .error e => .error e
          | .ok ((v, c), h, l) =>
            bif mayPass ops done o l then
              match putT f.n f.tmps o.dst v with
              | some t => regGo dr M P g lg ops r { f with tmps := t } c h ((i, l) :: done)
              | none => .error "region: put"
            else .error "region: order"
        else .error "region: operand")
      else bif mayPass ops done o .leaf then match putT f.n f.tmps o.dst undef with
        | some t => regGo dr M P g lg ops r { f with tmps := t } c h ((i, .leaf) :: done)
        | none => .error "region: put"
        else .error "region: order")
      else .error "region: edge"

def unionAll : List (Nat × Log) → Log → Log
  | [], l => l
  | x :: r, l => unionAll r (Log.union x.2 l)

/-- the operands of the step -/
def okStep (g : Nat) (f : AFr) : Bool := match f.mode with
  | .run => (match f.todo with
    | .code (.cond x _ _) :: _ => okOperand g x
    | .code (.rangeFunc x _ _ _) :: _ => okOperand g x
    | .inRegion ops (i :: _) :: _ => (match ops[i]? with | some o => okOper g o | none => true)
    | _ => true)
  | _ => true

def leavingA (f : AFr) : Bool := (match f.mode with | .returning => true | _ => false) && f.defers.isEmpty && (match f.kind with | .normal => true | _ => false)

/-- a round's frame about to leave: by which jump -/
def leavingRound (f : AFr) : Option (Nat × Option Code) := match f.mode, f.kind, f.roundOf with
  | .run, .normal, some l => (match f.todo with
    | [] => some (l, none)
    | .code .ret :: _ => some (l, some .ret)
    | .code (.exit id) :: k => (match exitA id k with | none => some (l, some (.exit id)) | some _ => none)
    | _ => none)
  | _, _, _ => none

def roundV (l : Nat) (jump : Option Code) (c : Nat) : T :=
  .rd l fun
  | .loop r => .wr l (.loop { r with state := if jump.isNone then .ready else .done, pending := jump }) (.ret ⟨[packV (.bool jump.isNone)], c⟩)
  | _ => .fail "round: no loop"

def resV (P : Program) (f : AFr) (c : Nat) : T := match P.funcs[f.fn]? with
  | none => .fail "leaving"
  | some fn => resultsA P f fn.results.toList [] fun v => .ret ⟨[packV v], c⟩

def botOk (bot : Option Nat) (x : Nat) : Bool := match bot with | some g => g == x | none => true

/-- the bottom frame about to leave: what its caller gets -/
def lastT (P : Program) (bot : Option Nat) (f : AFr) (c : Nat) : Option T :=
  bif leavingA f then bif botOk bot f.fn then some (resV P f c) else none
  else match leavingRound f with
  | some (l, jump) => bif bot.isNone then some (roundV l jump c) else none
  | none => none

/-- a drawn region ahead -/
def isDraw (f : AFr) : Option (Array Oper × List Item) := match f.mode with
  | .run => (match f.todo with
    | .code (.region _ ops true) :: k => some (ops, k)
    | _ => none)
  | _ => none

def unpacked : Except String (U × Tr Blk × Log) → Except String Out
  | .error e => .error e
  | .ok (u, h, l) => match unpackV u with
    | some v => .ok ((v, u.c), h, l)
    | none => .error "leaving"

def lastOf (P : Program) (bot : Option Nat) (f : AFr) (rest : List AFr) (c : Nat) : Option T := match rest with
  | [] => lastT P bot f c
  | _ => none

/-- the entry of the call that the frame is about to make -/
def memoAt (M : List Entry) (f : AFr) : Option Entry := match f.mode with
  | .run => (match f.todo with
    | .inRegion ops (i :: _) :: _ => (match ops[i]? with | some o => bif wantedA f ops o then memoOp M o else none | none => none)
    | _ => none)
  | _ => none

def stepM (P : Program) (M : List Entry) (f : AFr) (fs : List AFr) (c : Nat) : T := match memoAt M f with
  | some e => memoT e c fun v c => finishA f v fun f => .ret ⟨f :: fs, c⟩
  | none => astep P ⟨f :: fs, c⟩

def drive (P : Program) (M : List Entry) (g : Nat) : Nat → Option Nat → Dr
  | 0, _, _, _, _, _, _ => .error "fuel"
  | n + 1, bot, lg, fs, c, h, l =>
    match fs with
    | [] => .error "no frame"
    | f :: rest =>
      match isDraw f with
      | some (ops, k) =>
        (match regGo (drive P M g n none) M P g (lg || Nat.blt 1 ops.size) ops (List.range ops.size) f c h [] with
        | .error e => .error e
        | .ok (f, c, h, ls) => drive P M g n bot lg ({ f with todo := k } :: rest) c h (bif lg then unionAll ls l else l))
      | none =>
        match lastOf P bot f rest c with
        | some t => unpacked (t.runL lg h l)
        | none =>
          bif okStep g f then andX ((stepM P M f rest c).runL lg h l) fun u h l => drive P M g n bot lg u.fs u.c h l
          else .error "operand"

def deads : Nat → Tr Blk → Tr Blk
  | 0, t => t
  | n + 1, t => deads n (t.set width (n + 1) .dead)

def yesOut : Except String Out → Bool
  | .ok ((.bool true, _), _) => true
  | _ => false

def startA (P : Program) (g : Nat) (vs : List Value) : List AFr :=
  match P.funcs[g]? with
  | some fn => [{ fn := g, n := fn.ntmps, tmps := argTmps vs 0 .leaf, todo := [.code (fn.body.getD .ret)], defers := [], mode := .run, kind := .normal, roundOf := none }]
  | none => []
end Go.Proofs.YtfjaemckpmoomaaGreatDoor.Lane

namespace Go.Proofs.YtfjaemckpmoomaaGreatDoor.Lane

/-! ### the trie -/

theorem Tr.get_leaf {α : Type} (n : Nat) : (Tr.leaf : Tr α).get n = none := by unfold Tr.get; rfl

theorem Tr.get_set_leaf {α : Type} (x : α) : ∀ (f n m : Nat), n + 1 < 2 ^ f → (Tr.set f .leaf n x).get m = if m = n then some x else none := by
  intro f
  induction f with
  | zero => intro n m h; simp at h
  | succ f ih =>
    intro n m h
    cases n with
    | zero => cases m with
      | zero => simp [Tr.set, Tr.get]
      | succ m => simp [Tr.set, Tr.get]
    | succ n =>
      have hn : n / 2 + 1 < 2 ^ f := by rw [Nat.pow_succ] at h; omega
      cases m with
      | zero => simp only [Tr.set]; cases hb : (n % 2 == 0) <;> simp [Tr.get]
      | succ m =>
        simp only [Tr.set]
        cases hb : (n % 2 == 0) <;> cases hc : (m % 2 == 0) <;> simp only [cond_true, cond_false, Tr.get, hc] <;> simp only [beq_iff_eq, beq_eq_false_iff_ne] at hb hc
        · rw [ih _ _ hn]; by_cases e : m = n <;> simp [e]; omega
        · have : m ≠ n := by intro e; subst e; exact hb hc
          simp [this]
        · have : m ≠ n := by intro e; subst e; exact hc hb
          simp [this]
        · rw [ih _ _ hn]; by_cases e : m = n <;> simp [e]; omega

theorem Tr.get_set {α : Type} (x : α) : ∀ (f : Nat) (t : Tr α) (n m : Nat), n + 1 < 2 ^ f → (t.set f n x).get m = if m = n then some x else t.get m := by
  intro f
  induction f with
  | zero => intro t n m h; simp at h
  | succ f ih =>
    intro t n m h
    cases t with
    | leaf => rw [Tr.get_set_leaf x (f + 1) n m h, Tr.get_leaf]
    | node l v r =>
    cases n with
    | zero => cases m with
      | zero => simp [Tr.set, Tr.get]
      | succ m => simp [Tr.set, Tr.get]
    | succ n =>
      have hn : n / 2 + 1 < 2 ^ f := by rw [Nat.pow_succ] at h; omega
      cases m with
      | zero => simp only [Tr.set]; cases hb : (n % 2 == 0) <;> simp [Tr.get]
      | succ m =>
        simp only [Tr.set]
        cases hb : (n % 2 == 0) <;> cases hc : (m % 2 == 0) <;> simp only [cond_true, cond_false, Tr.get, hc] <;> simp only [beq_iff_eq, beq_eq_false_iff_ne] at hb hc
        · rw [ih _ _ _ hn]; by_cases e : m = n <;> simp [e]; omega
        · have : m ≠ n := by intro e; subst e; exact hb hc
          simp [this]
        · have : m ≠ n := by intro e; subst e; exact hc hb
          simp [this]
        · rw [ih _ _ _ hn]; by_cases e : m = n <;> simp [e]; omega

/-! ### the relation -/

structure Img where
  blk : Nat
  base : Nat
  avail : Nat
  es : Nat

abbrev Inj := Nat → Option Img

def Inj.le (β β' : Inj) : Prop := ∀ i m, β i = some m → β' i = some m
theorem Inj.le_refl (β : Inj) : β.le β := fun _ _ h => h
theorem Inj.le_trans {a b c : Inj} (h : a.le b) (h' : b.le c) : a.le c := fun i m e => h' i m (h i m e)

def ARel (β : Inj) (a a' : Addr) : Prop :=
  a.spot = none ∧ a'.spot = none ∧ a.block ≠ 0 ∧ ∃ m, β a.block = some m ∧ a'.block = m.blk ∧ a'.off = m.base + a.off

theorem ARel.mono {β β' : Inj} (hb : β.le β') {a a' : Addr} (h : ARel β a a') : ARel β' a a' :=
  let ⟨h1, h2, h3, m, h4, h5⟩ := h; ⟨h1, h2, h3, m, hb _ _ h4, h5⟩

def SRel (β : Inj) (a : Addr) (len c2 : Nat) (a' : Addr) (len' cap' : Nat) : Prop :=
  len = len' ∧ ((a = ⟨0, 0, none⟩ ∧ len = 0 ∧ c2 = 0) ∨
    (ARel β a a' ∧ (c2 % 2 = 1 → cap' = c2 / 2) ∧ c2 / 2 ≤ cap' ∧ ∀ m, β a.block = some m → c2 % 2 = 0 → a.off + cap' * m.es ≤ m.avail))

theorem SRel.mono {β β' : Inj} (hb : β.le β') {a a' : Addr} {l c l' c' : Nat} (h : SRel β a l c a' l' c') : SRel β' a l c a' l' c' := by
  refine ⟨h.1, h.2.imp id fun ⟨h1, h2, h3, h4⟩ => ⟨h1.mono hb, h2, h3, ?_⟩⟩
  obtain ⟨_, _, _, m, hm, _⟩ := h1
  intro m' hm' e
  have := hb _ _ hm
  rw [this] at hm'
  injection hm' with e'
  subst e'
  exact h4 m hm e

def FnRel (β : Inj) (f f' : Fn) : Prop :=
  match f with
  | .yield l => ∃ m, β l = some m ∧ f' = .yield m.blk
  | g => f' = g

theorem FnRel.mono {β β' : Inj} (hb : β.le β') {f f' : Fn} (h : FnRel β f f') : FnRel β' f f' := by
  cases f <;> simp only [FnRel] at h ⊢ <;> first | exact h | exact let ⟨m, h1, h2⟩ := h; ⟨m, hb _ _ h1, h2⟩

mutual
inductive VRel (β : Inj) : Value → Value → Prop
  | plain {v : Value} : plainV v = true → VRel β v v
  | ptr {a a' : Addr} : ARel β a a' → VRel β (.pointer (some a)) (.pointer (some a'))
  | slice {a a' : Addr} {l c l' c' : Nat} : SRel β a l c a' l' c' → VRel β (.slice (some a) l c) (.slice (some a') l' c')
  | map {r : Nat} {m : Img} : β r = some m → VRel β (.map (some r)) (.map (some m.blk))
  | func {f f' : Fn} {x x' y y' : Array Value} : FnRel β f f' → LRel β x.toList x'.toList → LRel β y.toList y'.toList → VRel β (.func f x y) (.func f' x' y')
  | iface {t : TypeId} {v v' : Value} : VRel β v v' → VRel β (.iface t v) (.iface t v')
  | agg {x x' : Array Value} : LRel β x.toList x'.toList → VRel β (.agg x) (.agg x')
  | tuple {x x' : Array Value} : LRel β x.toList x'.toList → VRel β (.tuple x) (.tuple x')
inductive LRel (β : Inj) : List Value → List Value → Prop
  | nil : LRel β [] []
  | cons {v v' : Value} {l l' : List Value} : VRel β v v' → LRel β l l' → LRel β (v :: l) (v' :: l')
end

mutual
theorem VRel.mono {β β' : Inj} (hb : β.le β') {v v' : Value} : VRel β v v' → VRel β' v v'
  | .plain h => .plain h
  | .ptr h => .ptr (h.mono hb)
  | .slice h => .slice (h.mono hb)
  | .map h => .map (hb _ _ h)
  | .func h x y => .func (h.mono hb) (LRel.mono hb x) (LRel.mono hb y)
  | .iface h => .iface (VRel.mono hb h)
  | .agg h => .agg (LRel.mono hb h)
  | .tuple h => .tuple (LRel.mono hb h)
theorem LRel.mono {β β' : Inj} (hb : β.le β') {v v' : List Value} : LRel β v v' → LRel β' v v'
  | .nil => .nil
  | .cons h t => .cons (VRel.mono hb h) (LRel.mono hb t)
end

section
variable {β : Inj}

theorem LRel.length {l l' : List Value} : LRel β l l' → l.length = l'.length
  | .nil => rfl
  | .cons _ t => by simp [LRel.length t]

theorem LRel.append {a a' b b' : List Value} : LRel β a a' → LRel β b b' → LRel β (a ++ b) (a' ++ b')
  | .nil, h => h
  | .cons x t, h => .cons x (LRel.append t h)

theorem LRel.get {l l' : List Value} : LRel β l l' → ∀ {i : Nat} {v : Value}, l[i]? = some v → ∃ v', l'[i]? = some v' ∧ VRel β v v'
  | .nil, i, v, h => by simp at h
  | .cons x t, 0, v, h => by simp at h; subst h; exact ⟨_, rfl, x⟩
  | .cons x t, i + 1, v, h => by simp at h; simpa using LRel.get t h

theorem LRel.of_get : ∀ {l l' : List Value}, l.length = l'.length → (∀ (i : Nat) (v v' : Value), l[i]? = some v → l'[i]? = some v' → VRel β v v') → LRel β l l'
  | [], [], _, _ => .nil
  | a :: l, b :: l', h, hh => .cons (hh 0 a b rfl rfl) (LRel.of_get (by simpa using h) fun i v v' h1 h2 => hh (i + 1) v v' (by simpa using h1) (by simpa using h2))
  | [], _ :: _, h, _ => by simp at h
  | _ :: _, [], h, _ => by simp at h

theorem LRel.drop {l l' : List Value} : LRel β l l' → ∀ n, LRel β (l.drop n) (l'.drop n)
  | .nil, n => by simpa using LRel.nil
  | .cons x t, 0 => .cons x t
  | .cons x t, n + 1 => by simpa using LRel.drop t n

theorem LRel.take {l l' : List Value} : LRel β l l' → ∀ n, LRel β (l.take n) (l'.take n)
  | .nil, n => by simpa using LRel.nil
  | .cons x t, 0 => by simpa using LRel.nil
  | .cons x t, n + 1 => by simpa using LRel.cons x (LRel.take t n)

theorem LRel.map {γ : Type} {f g : γ → Value} : ∀ (l : List γ), (∀ x ∈ l, VRel β (f x) (g x)) → LRel β (l.map f) (l.map g)
  | [], _ => .nil
  | a :: l, h => .cons (h a (by simp)) (LRel.map l fun x hx => h x (by simp [hx]))

theorem LRel.set {l l' : List Value} {v v' : Value} (hv : VRel β v v') : LRel β l l' → ∀ n, LRel β (l.set n v) (l'.set n v')
  | .nil, n => by simpa using LRel.nil
  | .cons x t, 0 => .cons hv t
  | .cons x t, n + 1 => by simpa using LRel.cons x (LRel.set hv t n)

theorem LRel.replicate {v v' : Value} (h : VRel β v v') : ∀ n, LRel β (List.replicate n v) (List.replicate n v')
  | 0 => .nil
  | n + 1 => .cons h (LRel.replicate h n)

theorem undef_rel : VRel β undef undef := .tuple .nil

/-- a list that holds plain values and flat aggregates alone stands for itself -/
theorem LRel.of_plain : ∀ {l : List Value}, (∀ v ∈ l, plainV v = true) → LRel β l l
  | [], _ => .nil
  | a :: l, h => .cons (.plain (h a (by simp))) (LRel.of_plain fun v hv => h v (by simp [hv]))

theorem LRel.plain_eq : ∀ {l l' : List Value}, LRel β l l' → (∀ v ∈ l, plainV v = true) → l' = l
  | _, _, .nil, _ => rfl
  | _, _, .cons x t, h => by
    rw [LRel.plain_eq t fun v hv => h v (by simp [hv])]
    have := h _ (List.mem_cons_self ..)
    cases x <;> first | rfl | simp [plainV] at this

theorem VRel.plain_eq {v v' : Value} (h : VRel β v v') (hp : plainV v = true) : v' = v := by
  cases h <;> first | rfl | simp [plainV] at hp

def scalar : Value → Bool
  | .bool _ | .int .. | .string _ => true
  | _ => false

theorem scalar_plain {v : Value} (h : scalar v = true) : plainV v = true := by cases v <;> simp_all [scalar, plainV]

theorem flat_cases {v : Value} (h : flat v = true) : plainV v = true ∨ ∃ cs, v = .agg cs ∧ ∀ x ∈ cs.toList, scalar x = true := by
  cases v with
  | agg cs =>
    right
    refine ⟨cs, rfl, fun x hx => ?_⟩
    simp only [flat, List.all_eq_true] at h
    have := h x hx
    cases x <;> simp_all [scalar]
  | slice a l c => left; cases a <;> cases l <;> cases c <;> simp_all [flat, plainV]
  | pointer a => left; cases a <;> simp_all [flat, plainV]
  | map a => left; cases a <;> simp_all [flat, plainV]
  | chan a => left; cases a <;> simp_all [flat, plainV]
  | _ => left; simp_all [flat, plainV]

theorem VRel.flat_eq {v v' : Value} (h : VRel β v v') (hf : flat v = true) : v' = v := by
  rcases flat_cases hf with hp | ⟨cs, rfl, hs⟩
  · exact h.plain_eq hp
  · cases h with
    | plain hp => rfl
    | agg hl =>
      have := hl.plain_eq fun v hv => scalar_plain (hs v hv)
      rw [Array.toList_inj] at this
      rw [this]

theorem VRel.of_flat {v : Value} (hf : flat v = true) : VRel β v v := by
  rcases flat_cases hf with hp | ⟨cs, rfl, hs⟩
  · exact .plain hp
  · exact .agg (LRel.of_plain fun v hv => scalar_plain (hs v hv))

/-- the cells of two values -/
theorem VRel.cells {v v' : Value} (h : VRel β v v') : LRel β v.cells.toList v'.cells.toList := by
  cases h with
  | agg h => exact h
  | plain h => exact LRel.of_plain (by cases ‹Value› <;> simp_all [Value.cells, plainV])
  | ptr h => exact .cons (.ptr h) .nil
  | slice h => exact .cons (.slice h) .nil
  | map h => exact .cons (.map h) .nil
  | func h x y => exact .cons (.func h x y) .nil
  | iface h => exact .cons (.iface h) .nil
  | tuple h => exact .cons (.tuple h) .nil
end

/-! ### heaps -/

def wrB : Blk → Bool
  | .cells ro .. => !ro
  | .dead => false
  | _ => true
def liveB : Blk → Bool
  | .dead => false
  | _ => true

def TRel (β : Inj) (n : Nat) (t : Tr Value) (tmps : Array Value) : Prop :=
  tmps.size = n ∧ ∀ i, VRel β ((t.get i).getD undef) (tmps.getD i undef)

def TgtRel (β : Inj) : Target → Target → Prop
  | .fn f cap, t' => ∃ f' cap', t' = .fn f' cap' ∧ FnRel β f f' ∧ LRel β cap.toList cap'.toList
  | .collected r, t' => ∃ m, β r = some m ∧ t' = .collected m.blk
  | _, _ => False

def DRel (β : Inj) (d d' : Deferred) : Prop := TgtRel β d.target d'.target ∧ LRel β d.args.toList d'.args.toList

inductive L2 {α α' : Type} (R : α → α' → Prop) : List α → List α' → Prop
  | nil : L2 R [] []
  | cons {a a' l l'} : R a a' → L2 R l l' → L2 R (a :: l) (a' :: l')

theorem L2.mono {α α' : Type} {R R' : α → α' → Prop} (h : ∀ a b, R a b → R' a b) {l : List α} {l' : List α'} (hl : L2 R l l') : L2 R' l l' := by
  induction hl with
  | nil => exact .nil
  | cons x _ ih => exact .cons (h _ _ x) ih

theorem L2.append {α α' : Type} {R : α → α' → Prop} {a b : List α} {a' b' : List α'} (h : L2 R a a') (h' : L2 R b b') : L2 R (a ++ b) (a' ++ b') := by
  induction h with
  | nil => exact h'
  | cons x _ ih => exact .cons x ih

theorem L2.length {α α' : Type} {R : α → α' → Prop} {l : List α} {l' : List α'} (h : L2 R l l') : l.length = l'.length := by
  induction h with
  | nil => rfl
  | cons _ _ ih => simp [ih]

theorem TgtRel.mono {β β' : Inj} (hb : β.le β') {t t' : Target} (h : TgtRel β t t') : TgtRel β' t t' := by
  cases t with
  | fn f cap => obtain ⟨f', cap', h1, h2, h3⟩ := h; exact ⟨f', cap', h1, h2.mono hb, h3.mono hb⟩
  | collected r => obtain ⟨m, h1, h2⟩ := h; exact ⟨m, hb _ _ h1, h2⟩
  | nil => exact h.elim
  | builtin => exact h.elim
  | coroexit => exact h.elim

theorem DRel.mono {β β' : Inj} (hb : β.le β') {d d' : Deferred} (h : DRel β d d') : DRel β' d d' := ⟨h.1.mono hb, h.2.mono hb⟩

theorem TRel.mono {β β' : Inj} (hb : β.le β') {n : Nat} {t : Tr Value} {a : Array Value} (h : TRel β n t a) : TRel β' n t a :=
  ⟨h.1, fun i => (h.2 i).mono hb⟩

def ERel (β : Inj) (e : Value × Value) (r : MapEntry) : Prop := r.key = e.1 ∧ flat e.1 = true ∧ VRel β e.2 r.val

def LoopRel (β : Inj) (l : ALoop) (r : Loop) : Prop :=
  r.state = l.state ∧ r.pending = l.pending ∧ r.fn = l.fn ∧ TRel β l.n l.tmps r.tmps ∧ r.params = l.params ∧ r.assign = l.assign ∧ r.body = l.body ∧ ∃ m, β l.defers = some m ∧ r.defers = m.blk

def DsRel (β : Inj) : Option (List Deferred) → Option (List Deferred) → Prop
  | none, none => True
  | some l, some l' => L2 (DRel β) l l'
  | _, _ => False

def cellV (v : Value) : Bool := v.oneCell'

def BRel (β : Inj) (P : Program) (w : World) (id : Nat) : Blk → Prop
  | .cells ro ex et c => ∃ m real fz, β id = some m ∧ w.heap[m.blk]? = some (.cells real et fz) ∧ m.base + m.avail = real.size ∧ c.length ≤ m.avail ∧
      m.es = P.cellsOf et ∧ (ex = true → m.base = 0 ∧ c.length = m.avail) ∧
      (∀ i v, c[i]? = some v → ∃ v', real[m.base + i]? = some v' ∧ VRel β v v') ∧
      (ro = false → ∀ i, m.base ≤ i → i < real.size → ¬ (fz.1 ≤ i ∧ i < fz.2))
  | .dead => True
  | .map es => ∃ m ents clock, β id = some m ∧ m.base = 0 ∧ w.heap[m.blk]? = some (.map ents clock) ∧ L2 (ERel β) es ents.toList
  | .siter s pos => ∃ m, β id = some m ∧ m.base = 0 ∧ w.heap[m.blk]? = some (.stringIter s pos)
  | .loop l => ∃ m r, β id = some m ∧ m.base = 0 ∧ w.heap[m.blk]? = some (.loop r) ∧ LoopRel β l r
  | .deferred ds => ∃ m ds', β id = some m ∧ m.base = 0 ∧ w.heap[m.blk]? = some (.deferred ds') ∧ DsRel β ds ds'

structure HRel (P : Program) (β : Inj) (h : Tr Blk) (w : World) : Prop where
  blk : ∀ id x, h.get id = some x → BRel β P w id x
  inj : ∀ i j mi mj xi xj, i ≠ j → h.get i = some xi → h.get j = some xj → liveB xi = true → liveB xj = true → (wrB xi = true ∨ wrB xj = true) →
    β i = some mi → β j = some mj → mi.blk ≠ mj.blk
  bound : ∀ id m, β id = some m → m.blk < w.heap.size
  dom : ∀ id m, β id = some m → ∃ x, h.get id = some x
  zero : β 0 = none

/-- the blocks that the abstract heap may write -/
def Own (β : Inj) (h : Tr Blk) (b : Nat) : Prop := ∃ id x m, h.get id = some x ∧ wrB x = true ∧ β id = some m ∧ m.blk = b

structure Ext (β : Inj) (h : Tr Blk) (w : World) (β' : Inj) (h' : Tr Blk) (w' : World) : Prop where
  mono : β.le β'
  size : w.heap.size ≤ w'.heap.size
  keep : ∀ b, b < w.heap.size → ¬ Own β h b → w'.heap[b]? = w.heap[b]?
  own : ∀ b, b < w.heap.size → Own β' h' b → Own β h b
  tape : w'.tape = w.tape
  os : w'.os = w.os
  output : w'.output = w.output

theorem Ext.refl (β : Inj) (h : Tr Blk) (w : World) : Ext β h w β h w :=
  ⟨Inj.le_refl _, Nat.le_refl _, fun _ _ _ => rfl, fun _ _ h => h, rfl, rfl, rfl⟩

theorem Ext.trans {β β1 β2 : Inj} {h h1 h2 : Tr Blk} {w w1 w2 : World} (a : Ext β h w β1 h1 w1) (b : Ext β1 h1 w1 β2 h2 w2) : Ext β h w β2 h2 w2 :=
  ⟨Inj.le_trans a.mono b.mono, Nat.le_trans a.size b.size,
   fun i hi ho => by rw [b.keep i (Nat.lt_of_lt_of_le hi a.size) (fun o => ho (a.own i hi o)), a.keep i hi ho],
   fun i hi o => a.own i hi (b.own i (Nat.lt_of_lt_of_le hi a.size) o), b.tape.trans a.tape, b.os.trans a.os, b.output.trans a.output⟩

end Go.Proofs.YtfjaemckpmoomaaGreatDoor.Lane

namespace Go.Proofs.YtfjaemckpmoomaaGreatDoor.Lane

def Inj.upd (β : Inj) (i : Nat) (m : Img) : Inj := fun j => if j = i then some m else β j
theorem Inj.upd_same (β : Inj) (i : Nat) (m : Img) : β.upd i m i = some m := by simp [Inj.upd]
theorem Inj.upd_other (β : Inj) {i j : Nat} (m : Img) (h : j ≠ i) : β.upd i m j = β j := by simp [Inj.upd, h]
theorem Inj.le_upd {β : Inj} {i : Nat} (m : Img) (h : β i = none) : β.le (β.upd i m) := fun j m' e => by
  by_cases hj : j = i
  · subst hj; rw [h] at e; cases e
  · rw [Inj.upd_other _ _ hj]; exact e

theorem ERel.mono {β β' : Inj} (hb : β.le β') {e : Value × Value} {r : MapEntry} (h : ERel β e r) : ERel β' e r := ⟨h.1, h.2.1, h.2.2.mono hb⟩
theorem LoopRel.mono {β β' : Inj} (hb : β.le β') {l : ALoop} {r : Loop} (h : LoopRel β l r) : LoopRel β' l r := by
  obtain ⟨h1, h2, h3, h4, h5, h6, h7, m, h8, h9⟩ := h
  exact ⟨h1, h2, h3, h4.mono hb, h5, h6, h7, m, hb _ _ h8, h9⟩
theorem DsRel.mono {β β' : Inj} (hb : β.le β') {a b : Option (List Deferred)} (h : DsRel β a b) : DsRel β' a b := by
  cases a <;> cases b <;> simp only [DsRel] at h ⊢
  exact L2.mono (fun _ _ h => DRel.mono hb h) h

variable {P : Program}

theorem BRel.mono {β β' : Inj} (hb : β.le β') {w w' : World} {id : Nat} {x : Blk} (hw : ∀ m, β id = some m → w'.heap[m.blk]? = w.heap[m.blk]?)
    (h : BRel β P w id x) : BRel β' P w' id x := by
  cases x with
  | cells ro ex et c =>
    obtain ⟨m, real, fz, h1, h2, h3, h4, h5, h6, h7, h8⟩ := h
    exact ⟨m, real, fz, hb _ _ h1, by rw [hw _ h1]; exact h2, h3, h4, h5, h6, fun i v hv => let ⟨v', a, b⟩ := h7 i v hv; ⟨v', a, b.mono hb⟩, h8⟩
  | dead => trivial
  | map es =>
    obtain ⟨m, ents, clock, h1, h2, h3, h4⟩ := h
    exact ⟨m, ents, clock, hb _ _ h1, h2, by rw [hw _ h1]; exact h3, L2.mono (fun _ _ h => ERel.mono hb h) h4⟩
  | siter s pos =>
    obtain ⟨m, h1, h2, h3⟩ := h
    exact ⟨m, hb _ _ h1, h2, by rw [hw _ h1]; exact h3⟩
  | loop l =>
    obtain ⟨m, r, h1, h2, h3, h4⟩ := h
    exact ⟨m, r, hb _ _ h1, h2, by rw [hw _ h1]; exact h3, h4.mono hb⟩
  | deferred ds =>
    obtain ⟨m, ds', h1, h2, h3, h4⟩ := h
    exact ⟨m, ds', hb _ _ h1, h2, by rw [hw _ h1]; exact h3, h4.mono hb⟩

theorem idOk_lt {b : Nat} (h : idOk b = true) : b + 1 < 2 ^ width := by simp [idOk] at h; simp [width]; omega
theorem idOk_pos {b : Nat} (h : idOk b = true) : b ≠ 0 := by simp [idOk] at h; omega

theorem wrB_live {x : Blk} (h : wrB x = true) : liveB x = true := by cases x <;> simp_all [wrB, liveB]

/-- A block that may be written gets another content. -/
theorem HRel.update {β : Inj} {h : Tr Blk} {w w' : World} {id : Nat} {x x' : Blk} {m : Img} (hH : HRel P β h w) (hok : idOk id = true) (hx : h.get id = some x) (hw : wrB x = true)
    (hm : β id = some m) (hsz : w'.heap.size = w.heap.size) (hother : ∀ b, b ≠ m.blk → w'.heap[b]? = w.heap[b]?) (hB : BRel β P w' id x')
    (ht : w'.tape = w.tape) (ho : w'.os = w.os) (hout : w'.output = w.output) :
    HRel P β (h.set width id x') w' ∧ Ext β h w β (h.set width id x') w' := by
  have hg : ∀ j, (h.set width id x').get j = if j = id then some x' else h.get j := fun j => Tr.get_set x' width h id j (idOk_lt hok)
  refine ⟨⟨?_, ?_, ?_, ?_, hH.zero⟩, ⟨Inj.le_refl _, by omega, ?_, ?_, ht, ho, hout⟩⟩
  · intro j y hj
    rw [hg] at hj
    by_cases e : j = id
    · subst e; simp at hj; subst hj; exact hB
    · simp [e] at hj
      cases hl : liveB y with
      | false => cases y <;> simp [liveB] at hl; trivial
      | true =>
        exact (hH.blk j y hj).mono (Inj.le_refl _) fun m' hm' => hother _ (hH.inj j id m' m y x e hj hx hl (wrB_live hw) (.inr hw) hm' hm)
  · intro i j mi mj xi xj hij hi hj li lj hwr hmi hmj
    rw [hg] at hi hj
    by_cases ei : i = id
    · subst ei
      have ej : j ≠ i := fun e => hij e.symm
      simp [ej] at hj
      exact hH.inj i j mi mj x xj hij hx hj (wrB_live hw) lj (.inl hw) hmi hmj
    · simp [ei] at hi
      by_cases ej : j = id
      · subst ej
        exact hH.inj i j mi mj xi x hij hi hx li (wrB_live hw) (.inr hw) hmi hmj
      · simp [ej] at hj
        exact hH.inj i j mi mj xi xj hij hi hj li lj hwr hmi hmj
  · intro j mj hj; rw [hsz]; exact hH.bound j mj hj
  · intro j mj hj; rw [hg]; by_cases e : j = id
    · simp [e]
    · simp [e]; exact hH.dom j mj hj
  · intro b hb hn
    exact hother b fun e => hn ⟨id, x, m, hx, hw, hm, e.symm⟩
  · rintro b hb ⟨j, y, mj, hj, hy, hmj, e⟩
    rw [hg] at hj
    by_cases ej : j = id
    · subst ej; exact ⟨j, x, mj, hx, hw, hmj, e⟩
    · simp [ej] at hj; exact ⟨j, y, mj, hj, hy, hmj, e⟩

/-- A block is forgotten. -/
theorem HRel.kill {β : Inj} {h : Tr Blk} {w : World} {id : Nat} {x : Blk} (hH : HRel P β h w) (hok : idOk id = true) (hx : h.get id = some x) :
    HRel P β (h.set width id .dead) w ∧ Ext β h w β (h.set width id .dead) w := by
  have hg : ∀ j, (h.set width id .dead).get j = if j = id then some .dead else h.get j := fun j => Tr.get_set .dead width h id j (idOk_lt hok)
  refine ⟨⟨?_, ?_, hH.bound, ?_, hH.zero⟩, ⟨Inj.le_refl _, Nat.le_refl _, fun _ _ _ => rfl, ?_, rfl, rfl, rfl⟩⟩
  · intro j y hj
    rw [hg] at hj
    by_cases e : j = id
    · subst e; simp at hj; subst hj; trivial
    · simp [e] at hj; exact hH.blk j y hj
  · intro i j mi mj xi xj hij hi hj li lj hwr hmi hmj
    rw [hg] at hi hj
    by_cases ei : i = id
    · simp [ei] at hi; subst hi; simp [liveB] at li
    · by_cases ej : j = id
      · simp [ej] at hj; subst hj; simp [liveB] at lj
      · simp [ei] at hi; simp [ej] at hj
        exact hH.inj i j mi mj xi xj hij hi hj li lj hwr hmi hmj
  · intro j mj hj; rw [hg]; by_cases e : j = id
    · simp [e]
    · simp [e]; exact hH.dom j mj hj
  · rintro b hb ⟨j, y, mj, hj, hy, hmj, e⟩
    rw [hg] at hj
    by_cases ej : j = id
    · simp [ej] at hj; subst hj; simp [wrB] at hy
    · simp [ej] at hj; exact ⟨j, y, mj, hj, hy, hmj, e⟩

/-- A new block, for a new object of the real heap. -/
theorem HRel.fresh {β : Inj} {h : Tr Blk} {w : World} {id : Nat} {x : Blk} {o : Obj} {m : Img} (hH : HRel P β h w) (hok : idOk id = true) (hx : h.get id = none)
    (hm : m.blk = w.heap.size) (hB : BRel (β.upd id m) P (w.alloc o) id x) :
    β.le (β.upd id m) ∧ HRel P (β.upd id m) (h.set width id x) (w.alloc o) ∧ Ext β h w (β.upd id m) (h.set width id x) (w.alloc o) := by
  have hn : β id = none := by
    cases e : β id with
    | none => rfl
    | some m' => obtain ⟨y, hy⟩ := hH.dom id m' e; rw [hx] at hy; cases hy
  have hle := Inj.le_upd m hn
  have hg : ∀ j, (h.set width id x).get j = if j = id then some x else h.get j := fun j => Tr.get_set x width h id j (idOk_lt hok)
  have hold : ∀ b, b < w.heap.size → (w.alloc o).heap[b]? = w.heap[b]? := fun b hb => by
    show (w.heap.push o)[b]? = _
    simp [Array.getElem?_push, Nat.ne_of_lt hb]
  have hback : ∀ j mj, j ≠ id → β.upd id m j = some mj → β j = some mj := fun j mj e hj => by rwa [Inj.upd_other _ _ e] at hj
  refine ⟨hle, ⟨?_, ?_, ?_, ?_, ?_⟩, ⟨hle, by simp, ?_, ?_, rfl, rfl, rfl⟩⟩
  · intro j y hj
    rw [hg] at hj
    by_cases e : j = id
    · subst e; simp at hj; subst hj; exact hB
    · simp [e] at hj
      exact (hH.blk j y hj).mono hle fun m' hm' => hold _ (hH.bound j m' hm')
  · intro i j mi mj xi xj hij hi hj li lj hwr hmi hmj
    rw [hg] at hi hj
    by_cases ei : i = id
    · subst ei
      rw [Inj.upd_same] at hmi; injection hmi with hmi; subst hmi
      have ej : j ≠ i := fun e => hij e.symm
      have := hH.bound j mj (hback j mj ej hmj)
      omega
    · have hmi2 := hback i mi ei hmi
      by_cases ej : j = id
      · subst ej
        rw [Inj.upd_same] at hmj; injection hmj with hmj; subst hmj
        have := hH.bound i mi hmi2
        omega
      · have hmj := hback j mj ej hmj
        simp [ei] at hi; simp [ej] at hj
        exact hH.inj i j mi mj xi xj hij hi hj li lj hwr hmi2 hmj
  · intro j mj hj
    by_cases e : j = id
    · subst e; rw [Inj.upd_same] at hj; injection hj with hj; subst hj; simp [hm]
    · have := hH.bound j mj (hback j mj e hj); simp; omega
  · intro j mj hj; rw [hg]; by_cases e : j = id
    · simp [e]
    · simp [e]; exact hH.dom j mj (hback j mj e hj)
  · rw [Inj.upd_other _ _ (idOk_pos hok).symm]; exact hH.zero
  · intro b hb _; exact hold b hb
  · rintro b hb ⟨j, y, mj, hj, hy, hmj, e⟩
    rw [hg] at hj
    by_cases ej : j = id
    · subst ej; rw [Inj.upd_same] at hmj; injection hmj with hmj; subst hmj; omega
    · simp [ej] at hj; exact ⟨j, y, mj, hj, hy, hback j mj ej hmj, e⟩

/-- A new block for a part of a real block that nothing else speaks of any more. -/
theorem HRel.adopt {β : Inj} {h : Tr Blk} {w w' : World} {id old : Nat} {x y : Blk} {m mo : Img} (hH : HRel P β h w) (hok : idOk id = true) (hoko : idOk old = true) (hx : h.get id = none)
    (hy : h.get old = some y) (hyw : wrB y = true) (hmo : β old = some mo) (hm : m.blk = mo.blk)
    (hsz : w'.heap.size = w.heap.size) (hother : ∀ b, b ≠ mo.blk → w'.heap[b]? = w.heap[b]?) (hB : BRel (β.upd id m) P w' id x)
    (ht : w'.tape = w.tape) (ho : w'.os = w.os) (hout : w'.output = w.output) :
    HRel P (β.upd id m) ((h.set width old .dead).set width id x) w' ∧ Ext β h w (β.upd id m) ((h.set width old .dead).set width id x) w' := by
  have hn : β id = none := by
    cases e : β id with
    | none => rfl
    | some m' => obtain ⟨y, hy⟩ := hH.dom id m' e; rw [hx] at hy; cases hy
  have hle := Inj.le_upd m hn
  have hne : old ≠ id := fun e => by subst e; rw [hx] at hy; cases hy
  have hg : ∀ j, ((h.set width old .dead).set width id x).get j = if j = id then some x else if j = old then some .dead else h.get j := fun j => by
    rw [Tr.get_set x width _ id j (idOk_lt hok), Tr.get_set .dead width h old j (idOk_lt hoko)]
  have hback : ∀ j mj, j ≠ id → β.upd id m j = some mj → β j = some mj := fun j mj e hj => by rwa [Inj.upd_other _ _ e] at hj
  have apart : ∀ j z mj, j ≠ old → h.get j = some z → liveB z = true → β j = some mj → mj.blk ≠ mo.blk := fun j z mj e hz hl hmj =>
    hH.inj j old mj mo z y e hz hy hl (wrB_live hyw) (.inr hyw) hmj hmo
  refine ⟨⟨?_, ?_, ?_, ?_, ?_⟩, ⟨hle, by omega, ?_, ?_, ht, ho, hout⟩⟩
  · intro j z hj
    rw [hg] at hj
    by_cases e : j = id
    · subst e; simp at hj; subst hj; exact hB
    · by_cases e' : j = old
      · simp [e'] at hj
        rw [if_neg (by intro e2; exact hne (e2))] at hj
        injection hj with hj; subst hj; trivial
      · simp [e, e'] at hj
        cases hl : liveB z with
        | false => cases z <;> simp [liveB] at hl; trivial
        | true => exact (hH.blk j z hj).mono hle fun m' hm' => hother _ (apart j z m' e' hj hl hm')
  · intro i j mi mj xi xj hij hi hj li lj hwr hmi hmj
    rw [hg] at hi hj
    by_cases ei : i = id
    · subst ei
      rw [Inj.upd_same] at hmi; injection hmi with hmi; subst hmi
      have ej : j ≠ i := fun e => hij e.symm
      by_cases ej' : j = old
      · simp [ej'] at hj
        rw [if_neg (by intro e2; exact hne (e2))] at hj
        injection hj with hj; subst hj; simp [liveB] at lj
      · simp [ej, ej'] at hj
        rw [hm]; exact (apart j xj mj ej' hj lj (hback j mj ej hmj)).symm
    · have hmi2 := hback i mi ei hmi
      by_cases ei' : i = old
      · simp [ei'] at hi
        rw [if_neg (by intro e2; exact hne (e2))] at hi
        injection hi with hi; subst hi; simp [liveB] at li
      · simp [ei, ei'] at hi
        by_cases ej : j = id
        · subst ej
          rw [Inj.upd_same] at hmj; injection hmj with hmj; subst hmj
          rw [hm]; exact apart i xi mi ei' hi li hmi2
        · have hmj := hback j mj ej hmj
          by_cases ej' : j = old
          · simp [ej'] at hj
            rw [if_neg (by intro e2; exact hne (e2))] at hj
            injection hj with hj; subst hj; simp [liveB] at lj
          · simp [ej, ej'] at hj
            exact hH.inj i j mi mj xi xj hij hi hj li lj hwr hmi2 hmj
  · intro j mj hj
    rw [hsz]
    by_cases e : j = id
    · subst e; rw [Inj.upd_same] at hj; injection hj with hj; subst hj; rw [hm]; exact hH.bound old mo hmo
    · exact hH.bound j mj (hback j mj e hj)
  · intro j mj hj; rw [hg]; by_cases e : j = id
    · simp [e]
    · by_cases e' : j = old
      · rw [if_neg e, if_pos e']; exact ⟨_, rfl⟩
      · simp [e, e']; exact hH.dom j mj (hback j mj e hj)
  · rw [Inj.upd_other _ _ (idOk_pos hok).symm]; exact hH.zero
  · intro b hb hn'; exact hother b fun e => hn' ⟨old, y, mo, hy, hyw, hmo, e.symm⟩
  · rintro b hb ⟨j, z, mj, hj, hz, hmj, e⟩
    rw [hg] at hj
    by_cases ej : j = id
    · subst ej; rw [Inj.upd_same] at hmj; injection hmj with hmj; subst hmj
      exact ⟨old, y, mo, hy, hyw, hmo, by rw [← hm]; exact e⟩
    · by_cases ej' : j = old
      · rw [if_neg ej, if_pos ej'] at hj; injection hj with hj; subst hj; simp [wrB] at hz
      · simp [ej, ej'] at hj; exact ⟨j, z, mj, hj, hz, hback j mj ej hmj, e⟩

/-! ### cells of the real heap -/

theorem cell_of {w : World} {b o : Nat} {real : Array Value} {et : TypeId} {fz : Nat × Nat} (h : w.heap[b]? = some (.cells real et fz)) : w.cell? ⟨b, o, none⟩ = real[o]? := by
  simp [World.cell?, h]

theorem shape_of {w : World} {b : Nat} {real : Array Value} {et : TypeId} {fz : Nat × Nat} (h : w.heap[b]? = some (.cells real et fz)) : w.shape? b = some (et, real.size) := by
  simp [World.shape?, h]

theorem add_none (b o i : Nat) : (⟨b, o, none⟩ : Addr).add i = ⟨b, o + i, none⟩ := by unfold Addr.add; split <;> simp_all

theorem run_loadRow {w : World} {b o : Nat} {real : Array Value} {et : TypeId} {fz : Nat × Nat} {x : List Value} (h : w.heap[b]? = some (.cells real et fz))
    (hx : ∀ j v, x[j]? = some v → real[o + j]? = some v) : (loadCells ⟨b, o, none⟩ x.length).run P w = .ok x.toArray w :=
  run_loadCells_list (P := P) (w := w) ⟨b, o, none⟩ x (fun j v hv => by rw [add_none, cell_of h]; exact hx j v hv)

structure Wrote (w w' : World) (b : Nat) (real real' : Array Value) (et : TypeId) (fz : Nat × Nat) : Prop where
  heap : w'.heap[b]? = some (.cells real' et fz)
  size : real'.size = real.size
  other : ∀ b', b' ≠ b → w'.heap[b']? = w.heap[b']?
  hsize : w'.heap.size = w.heap.size
  tape : w'.tape = w.tape
  os : w'.os = w.os
  output : w'.output = w.output

theorem run_storeRow {b : Nat} {et : TypeId} {fz : Nat × Nat} : ∀ (vs : List Value) (o i : Nat) (w : World) (real : Array Value), w.heap[b]? = some (.cells real et fz) →
    (∀ v ∈ vs, Value.oneCell' v = true) → o + i + vs.length ≤ real.size → (∀ j, o + i ≤ j → j < o + i + vs.length → ¬ (fz.1 ≤ j ∧ j < fz.2)) →
    ∃ w' real', (storeCells ⟨b, o, none⟩ vs i).run P w = .ok () w' ∧ Wrote w w' b real real' et fz ∧
      ∀ j, real'[j]? = if o + i ≤ j ∧ j < o + i + vs.length then vs[j - (o + i)]? else real[j]?
  | [], o, i, w, real, h, _, _, _ => ⟨w, real, by simp [storeCells], ⟨h, rfl, fun _ _ => rfl, rfl, rfl, rfl, rfl⟩, fun j => by rw [if_neg (by simp)]⟩
  | v :: vs, o, i, w, real, h, h1, h2, h3 => by
    simp only [List.length_cons] at h2 h3
    have hlt : o + i < real.size := by omega
    have hc : w.cell? ⟨b, o + i, none⟩ = some real[o + i] := by rw [cell_of h]; simp
    have hf : w.frozen? ⟨b, o + i, none⟩ = false := by
      have := h3 (o + i) (Nat.le_refl _) (by omega)
      simp [World.frozen?, h]; omega
    have hheap : (w.setCell ⟨b, o + i, none⟩ v).heap[b]? = some (.cells (real.setIfInBounds (o + i) v) et fz) := by
      simp [World.setCell, Array.getElem?_modify, h]
    have hoth : ∀ b', b' ≠ b → (w.setCell ⟨b, o + i, none⟩ v).heap[b']? = w.heap[b']? := fun b' hb => by
      simp [World.setCell, Array.getElem?_modify, hb.symm]
    obtain ⟨w', real', hr, hw, hj⟩ := run_storeRow vs o (i + 1) (w.setCell ⟨b, o + i, none⟩ v) (real.setIfInBounds (o + i) v) hheap (fun v hv => h1 v (by simp [hv]))
      (by simp; omega) (fun j a c => h3 j (by omega) (by omega))
    refine ⟨w', real', ?_, ⟨hw.heap, by rw [hw.size]; simp, fun b' hb => by rw [hw.other b' hb, hoth b' hb], by rw [hw.hsize]; simp, hw.tape, hw.os, hw.output⟩, fun j => ?_⟩
    · simp only [storeCells, Sem.run_bind, add_none, store]
      have hone := h1 v (by simp)
      have hst := run_store P w ⟨b, o + i, none⟩ v .plain hone
      simp only [store] at hst
      rw [hst]
      simp [hc, hf, hr]
    · rw [hj j]
      by_cases e : j = o + i
      · subst e
        rw [if_neg (by omega), if_pos (by simp)]
        simp [hlt]
      · rw [Array.getElem?_setIfInBounds_ne (by omega)]
        by_cases c : o + (i + 1) ≤ j ∧ j < o + (i + 1) + vs.length
        · rw [if_pos c, if_pos (by simp; omega)]
          have : j - (o + i) = (j - (o + (i + 1))) + 1 := by omega
          rw [this]; simp
        · rw [if_neg c, if_neg (by simp; omega)]

end Go.Proofs.YtfjaemckpmoomaaGreatDoor.Lane

namespace Go.Proofs.YtfjaemckpmoomaaGreatDoor.Lane
variable {P : Program}

theorem pureOf_run {α : Type} {s : Sem α} {a : α} (h : pureOf P s = some a) (w : World) : s.run P w = .ok a w := by
  induction s generalizing w with
  | pure b => simp [pureOf] at h; subst h; rfl
  | program k ih => simp only [pureOf] at h; exact ih P h w
  | mark m k ih => simp only [pureOf] at h; exact ih h w
  | _ => simp [pureOf] at h

theorem opt_run {α : Type} {s : String} {x : Option α} {k : α → T} {h : Tr Blk} {r : U × Tr Blk} (hr : (opt s x k).run h = .ok r) : ∃ a, x = some a ∧ (k a).run h = .ok r := by
  cases x with
  | none => simp [opt, T.run] at hr
  | some a => exact ⟨a, rfl, hr⟩

theorem fail_run {s : String} {h : Tr Blk} {r : U × Tr Blk} (hr : (T.fail s).run h = .ok r) : False := by simp [T.run] at hr

theorem rd_run {b : Nat} {k : Blk → T} {h : Tr Blk} {r : U × Tr Blk} (hr : (T.rd b k).run h = .ok r) : ∃ x, h.get b = some x ∧ (k x).run h = .ok r := by
  simp only [T.run] at hr
  cases hg : h.get b with
  | none => simp [hg] at hr
  | some x => simp only [hg] at hr; exact ⟨x, rfl, hr⟩

theorem wr_run {b : Nat} {x : Blk} {k : T} {h : Tr Blk} {r : U × Tr Blk} (hr : (T.wr b x k).run h = .ok r) : idOk b = true ∧ (∃ y, h.get b = some y) ∧ k.run (h.set width b x) = .ok r := by
  simp only [T.run] at hr
  cases hi : idOk b with
  | false => simp [hi] at hr
  | true =>
    simp only [hi, cond_true] at hr
    cases hg : h.get b with
    | none => simp [hg] at hr
    | some y => simp only [hg] at hr; exact ⟨rfl, ⟨y, rfl⟩, hr⟩

theorem nw_run {b : Nat} {x : Blk} {k : T} {h : Tr Blk} {r : U × Tr Blk} (hr : (T.nw b x k).run h = .ok r) : idOk b = true ∧ h.get b = none ∧ k.run (h.set width b x) = .ok r := by
  simp only [T.run] at hr
  cases hi : idOk b with
  | false => simp [hi] at hr
  | true =>
    simp only [hi, cond_true] at hr
    cases hg : h.get b with
    | none => simp only [hg] at hr; exact ⟨rfl, rfl, hr⟩
    | some y => simp [hg] at hr

theorem rdCells_run {b : Nat} {k : Bool → Bool → TypeId → List Value → T} {h : Tr Blk} {r : U × Tr Blk} (hr : (rdCells b k).run h = .ok r) :
    ∃ ro ex et c, h.get b = some (.cells ro ex et c) ∧ (k ro ex et c).run h = .ok r := by
  obtain ⟨x, hx, hk⟩ := rd_run hr
  cases x with
  | cells ro ex et c => exact ⟨ro, ex, et, c, hx, hk⟩
  | _ => exact (fail_run hk).elim

theorem bif_run {b : Bool} {s : String} {k : T} {h : Tr Blk} {r : U × Tr Blk} (hr : (bif b then k else .fail s).run h = .ok r) : b = true ∧ k.run h = .ok r := by
  cases b
  · exact (fail_run hr).elim
  · exact ⟨rfl, hr⟩

theorem bif_run' {b : Bool} {s : String} {k : T} {h : Tr Blk} {r : U × Tr Blk} (hr : (bif b then .fail s else k).run h = .ok r) : b = false ∧ k.run h = .ok r := by
  cases b
  · exact ⟨rfl, hr⟩
  · exact (fail_run hr).elim

theorem ite_run {c : Prop} [Decidable c] {s : String} {k : T} {h : Tr Blk} {r : U × Tr Blk} (hr : (if c then k else .fail s).run h = .ok r) : c ∧ k.run h = .ok r := by
  by_cases hc : c
  · rw [if_pos hc] at hr; exact ⟨hc, hr⟩
  · rw [if_neg hc] at hr; exact (fail_run hr).elim

theorem ite_run' {c : Prop} [Decidable c] {s : String} {k : T} {h : Tr Blk} {r : U × Tr Blk} (hr : (if c then .fail s else k).run h = .ok r) : ¬ c ∧ k.run h = .ok r := by
  by_cases hc : c
  · rw [if_pos hc] at hr; exact (fail_run hr).elim
  · rw [if_neg hc] at hr; exact ⟨hc, hr⟩

/-! ### the model's small words -/

theorem ru {t : TypeId} {d : TypeDesc} (h : P.underlying t = some d) (w : World) : (underlying t).run P w = .ok d w := run_underlying h w
theorem rti {t : TypeId} {i : TypeInfo} (h : P.info? t = some i) (w : World) : (typeInfo t).run P w = .ok i w := by simp [typeInfo, h]
theorem rso {t : TypeId} {n : Nat} (h : sizeOfT P t = some n) (w : World) : (sizeOf t).run P w = .ok n w := by
  simp only [sizeOfT, Option.map_eq_some_iff] at h
  obtain ⟨i, hi, rfl⟩ := h
  simp [sizeOf, rti hi]
theorem zeroOf_some {t : TypeId} {z : Value} (h : zeroOf P t = some z) : (∃ i, P.info? t = some i ∧ i.zero = some z) ∧ still z = true := by
  unfold zeroOf at h
  cases hb : (P.info? t).bind (·.zero) with
  | none => simp [hb] at h
  | some y =>
    simp only [hb] at h
    by_cases hs : still y = true
    · rw [if_pos hs] at h; injection h with h; subst h
      obtain ⟨i, hi, hz⟩ := Option.bind_eq_some_iff.1 hb
      exact ⟨⟨i, hi, hz⟩, hs⟩
    · rw [if_neg hs] at h; cases h
theorem rzv {t : TypeId} {z : Value} (h : zeroOf P t = some z) (w : World) : (zeroValue t).run P w = .ok z w := by
  obtain ⟨⟨i, hi, hz⟩, _⟩ := zeroOf_some h
  simp [zeroValue, rti hi, hz]
theorem still_cells {z : Value} (h : still z = true) : ∀ v ∈ z.cells.toList, plainV v = true := by
  cases z with
  | agg cs => simp only [still, List.all_eq_true] at h; exact h
  | _ => simp only [Value.cells, List.mem_singleton]; intro v hv; subst hv; exact h
theorem still_rel {β : Inj} {z : Value} (h : still z = true) : VRel β z z := by
  cases z with
  | agg cs => simp only [still, List.all_eq_true] at h; exact .agg (LRel.of_plain h)
  | _ => exact .plain h
theorem ria {t : TypeId} {b : Bool} (h : isAggT P t = some b) (w : World) : (isAgg t).run P w = .ok b w := by
  simp only [isAggT, Option.map_eq_some_iff] at h
  obtain ⟨d, hd, rfl⟩ := h
  simp only [isAgg, Sem.run_bind, ru hd, Result.andThen_ok]
  cases d <;> rfl

/-! ### loads and stores -/

theorem slab_some {c : List Value} {i n : Nat} {x : List Value} (h : slab c i n = some x) : i + n ≤ c.length ∧ x = (c.drop i).take n ∧ x.length = n := by
  unfold slab at h
  cases hb : decide (i + n ≤ c.length) with
  | false => simp [hb] at h
  | true =>
    simp only [hb, cond_true, Option.some.injEq] at h
    have : i + n ≤ c.length := by simpa using hb
    subst h
    exact ⟨this, rfl, by simp; omega⟩

theorem slab_get {c : List Value} {i n : Nat} {x : List Value} (h : slab c i n = some x) {j : Nat} (hj : j < n) : x[j]? = c[i + j]? := by
  obtain ⟨_, rfl, _⟩ := slab_some h
  rw [List.getElem?_take_of_lt hj, List.getElem?_drop]

variable {β : Inj} {h : Tr Blk} {w : World}

/-- The real cells that stand for a part of a block. -/
theorem slab_real {m : Img} {real : Array Value} {c : List Value} {i n : Nat} {x : List Value}
    (hc : ∀ (i : Nat) v, c[i]? = some v → ∃ v', real[m.base + i]? = some v' ∧ VRel β v v') (hs : slab c i n = some x) :
    ∃ x' : List Value, LRel β x x' ∧ x'.length = n ∧ ∀ (j : Nat) v, x'[j]? = some v → real[m.base + i + j]? = some v := by
  obtain ⟨hle, _, hlen⟩ := slab_some hs
  have hex : ∀ j, j < n → ∃ v v', x[j]? = some v ∧ real[m.base + i + j]? = some v' ∧ VRel β v v' := fun j hj => by
    have h1 := slab_get hs hj
    have hlt : i + j < c.length := by omega
    have h2 : c[i + j]? = some c[i + j] := by simp
    obtain ⟨v', h3, h4⟩ := hc _ _ h2
    exact ⟨_, v', h1.trans h2, by rw [Nat.add_assoc]; exact h3, h4⟩
  refine ⟨(List.range n).map fun j => (real[m.base + i + j]?).getD undef, LRel.of_get (by simp [hlen]) fun j v v' hv hv' => ?_, by simp, fun j v hv => ?_⟩
  · by_cases hj : j < n
    · obtain ⟨u, u', h1, h2, h3⟩ := hex j hj
      rw [h1] at hv; injection hv with hv; subst hv
      simp [hj, h2] at hv'; subst hv'; exact h3
    · rw [List.getElem?_eq_none (by omega)] at hv; cases hv
  · by_cases hj : j < n
    · obtain ⟨u, u', h1, h2, h3⟩ := hex j hj
      simp [hj, h2] at hv; subst hv; exact h2
    · simp [hj] at hv

theorem loadA_run {t : TypeId} {a a' : Addr} {k : Value → T} {r : U × Tr Blk} (hr : (loadA P t a k).run h = .ok r) (ha : ARel β a a') (hH : HRel P β h w) :
    ∃ v v', (k v).run h = .ok r ∧ (loadVar t a').run P w = .ok v' w ∧ VRel β v v' := by
  obtain ⟨hs, hs', h0, m, hm, hb, ho⟩ := ha
  unfold loadA at hr
  rw [hs] at hr
  obtain ⟨ro, ex, et, c, hg, hr⟩ := rdCells_run hr
  obtain ⟨m2, real, fz, hm2, hheap, hsz, hlen, hes, hexx, hcell, hfr⟩ := hH.blk _ _ hg
  rw [hm] at hm2; injection hm2 with hm2; subst hm2
  obtain ⟨ab, ao, asp⟩ := a'
  simp only at hs' hb ho
  subst hs'; subst hb; subst ho
  cases hag : isAggT P t with
  | none => simp only [hag] at hr; exact (fail_run hr).elim
  | some b =>
    cases b with
    | true =>
      simp only [hag] at hr
      obtain ⟨n, hn, hr⟩ := opt_run hr
      obtain ⟨x, hx, hr⟩ := opt_run hr
      obtain ⟨x', hxr, hxl, hxx⟩ := slab_real hcell hx
      refine ⟨_, .agg x'.toArray, hr, ?_, .agg (by simpa using hxr)⟩
      have := run_loadRow (P := P) (o := m.base + a.off) hheap hxx
      rw [hxl] at this
      simp [loadVar, ria hag, rso hn, this]
    | false =>
      simp only [hag] at hr
      obtain ⟨v, hv, hr⟩ := opt_run hr
      obtain ⟨v', h1, h2⟩ := hcell _ _ hv
      refine ⟨v, v', hr, ?_, h2⟩
      simp [loadVar, ria hag, load, Sem.run, cell_of hheap, h1]

/-- The block behind a write. -/
theorem BRel.patched {m : Img} {c x x' : List Value} {i id : Nat} {ro ex : Bool} {et : TypeId} {w w' : World} {real real' : Array Value} {fz : Nat × Nat} (hm : β id = some m)
    (hsz : m.base + m.avail = real.size) (hlen : c.length ≤ m.avail) (hes : m.es = P.cellsOf et) (hex : ex = true → m.base = 0 ∧ c.length = m.avail)
    (hcell : ∀ (i : Nat) v, c[i]? = some v → ∃ v', real[m.base + i]? = some v' ∧ VRel β v v')
    (hfr : ∀ i, m.base ≤ i → i < real.size → ¬ (fz.1 ≤ i ∧ i < fz.2)) (hW : Wrote w w' m.blk real real' et fz)
    (hx : LRel β x x') (hle : i + x.length ≤ c.length) (hj : ∀ j, real'[j]? = if m.base + i ≤ j ∧ j < m.base + i + x'.length then x'[j - (m.base + i)]? else real[j]?) :
    BRel β P w' id (.cells ro ex et (patch c i x)) := by
  have hpl : (patch c i x).length = c.length := by simp [Lane.patch]; omega
  refine ⟨m, real', fz, hm, hW.heap, by rw [hW.size]; exact hsz, by rw [hpl]; exact hlen, hes, fun e => by rw [hpl]; exact hex e, ?_, fun _ i h1 h2 => hfr i h1 (by rw [← hW.size]; exact h2)⟩
  intro j v hv
  have hxl := hx.length
  rw [hj]
  have hpj : (Lane.patch c i x)[j]? = if j < i then c[j]? else if j < i + x.length then x[j - i]? else c[j]? := by
    unfold Lane.patch
    by_cases h1 : j < i
    · rw [if_pos h1, List.append_assoc, List.getElem?_append_left (by simp; omega), List.getElem?_take_of_lt h1]
    · rw [if_neg h1, List.append_assoc, List.getElem?_append_right (by simp; omega)]
      have : min i c.length = i := by omega
      simp only [List.length_take, this]
      by_cases h2 : j < i + x.length
      · rw [if_pos h2, List.getElem?_append_left (by omega)]
      · rw [if_neg h2, List.getElem?_append_right (by omega), List.getElem?_drop]
        congr 1; omega
  rw [hpj] at hv
  by_cases h1 : j < i
  · rw [if_pos h1] at hv
    rw [if_neg (by omega)]
    exact hcell j v hv
  · rw [if_neg h1] at hv
    by_cases h2 : j < i + x.length
    · rw [if_pos h2] at hv
      rw [if_pos (by omega)]
      obtain ⟨v', h3, h4⟩ := hx.get hv
      exact ⟨v', by rw [← h3]; congr 1; omega, h4⟩
    · rw [if_neg h2] at hv
      rw [if_neg (by omega)]
      exact hcell j v hv

theorem oneCell_rel {v v' : Value} (h : VRel β v v') : Value.oneCell' v' = Value.oneCell' v := by cases h <;> rfl

theorem LRel.all_one {l l' : List Value} : LRel β l l' → l.all Value.oneCell' = true → ∀ v ∈ l', Value.oneCell' v = true
  | .nil, _ => fun v hv => by simp at hv
  | .cons x t, h => fun v hv => by
    simp only [List.all_cons, Bool.and_eq_true] at h
    rcases List.mem_cons.1 hv with rfl | hv
    · rw [oneCell_rel x]; exact h.1
    · exact LRel.all_one t h.2 v hv

/-- Cells written into a block. -/
theorem write_run {a a' : Addr} {ro ex : Bool} {et : TypeId} {c x x' : List Value} {off : Nat} (ha : ARel β a a') (hH : HRel P β h w) (hg : h.get a.block = some (.cells ro ex et c)) (hro : ro = false)
    (hid : idOk a.block = true) (hx : LRel β x x') (hone : x.all Value.oneCell' = true) (hle : a.off + off + x.length ≤ c.length) :
    ∃ w', (storeCells (a'.add off) x').run P w = .ok () w' ∧ HRel P β (h.set width a.block (.cells ro ex et (patch c (a.off + off) x))) w' ∧
      Ext β h w β (h.set width a.block (.cells ro ex et (patch c (a.off + off) x))) w' := by
  obtain ⟨hs, hs', h0, m, hm, hb, ho⟩ := ha
  obtain ⟨m2, real, fz, hm2, hheap, hsz, hlen, hes, hexx, hcell, hfr⟩ := hH.blk _ _ hg
  rw [hm] at hm2; injection hm2 with hm2; subst hm2
  obtain ⟨ab, ao, asp⟩ := a'
  simp only at hs' hb ho
  subst hs'; subst hb; subst ho
  have hxl := hx.length
  obtain ⟨w', real', hst, hW, hj⟩ := run_storeRow (P := P) x' (m.base + a.off + off) 0 w real hheap (hx.all_one hone) (by omega) (fun j h1 h2 => hfr hro j (by omega) (by omega))
  rw [add_none]
  have hB : BRel β P w' a.block (.cells ro ex et (patch c (a.off + off) x)) :=
    BRel.patched hm hsz hlen hes hexx hcell (fun i => hfr hro i) hW hx hle (fun j => by
      have e : m.base + a.off + off + 0 = m.base + (a.off + off) := by omega
      rw [hj j, e])
  obtain ⟨h1, h2⟩ := hH.update hid hg (by simp [wrB, hro]) hm hW.hsize hW.other hB hW.tape hW.os hW.output
  exact ⟨w', hst, h1, h2⟩

theorem storeA_run {t : TypeId} {a a' : Addr} {v v' : Value} {k : T} {r : U × Tr Blk} (hr : (storeA P t a v k).run h = .ok r) (ha : ARel β a a') (hv : VRel β v v') (hH : HRel P β h w) :
    ∃ h1 w1, k.run h1 = .ok r ∧ (storeVar t a' v').run P w = .ok () w1 ∧ HRel P β h1 w1 ∧ Ext β h w β h1 w1 := by
  unfold storeA at hr
  rw [ha.1] at hr
  obtain ⟨n, hn, hr⟩ := opt_run hr
  obtain ⟨hc, hr⟩ := bif_run hr
  simp only [Bool.and_eq_true, beq_iff_eq] at hc
  obtain ⟨ro, ex, et, c, hg, hr⟩ := rdCells_run hr
  obtain ⟨hro, hr⟩ := bif_run' hr
  obtain ⟨hle, hr⟩ := bif_run hr
  obtain ⟨hid, _, hr⟩ := wr_run hr
  have hle : a.off + n ≤ c.length := by simpa using hle
  have hvc := hv.cells
  have hlen := hvc.length
  have hs1 : v.cells.size = v.cells.toList.length := by simp
  have hs2 : v'.cells.size = v'.cells.toList.length := by simp
  obtain ⟨w', h1, h2, h3⟩ := write_run (P := P) (off := 0) ha hH hg hro hid hvc hc.2 (by omega)
  refine ⟨_, w', hr, ?_, by simpa using h2, by simpa using h3⟩
  have e : a'.add 0 = a' := by simp [Addr.add]
  rw [e] at h1
  have hn' : v'.cells.size = n := by omega
  simp [storeVar, rso hn, hn', h1]

/-- A new row of cells. -/
theorem new_run {id : Nat} {ex : Bool} {et : TypeId} {c c' spare : List Value} (hH : HRel P β h w) (hid : idOk id = true) (hx : h.get id = none) (hc : LRel β c c') (hex : ex = true → spare = []) :
    ∃ m, m.base = 0 ∧ m.blk = w.heap.size ∧ m.avail = c.length + spare.length ∧ m.es = P.cellsOf et ∧ ∀ real : Array Value, real.toList = c' ++ spare →
      β.le (β.upd id m) ∧ HRel P (β.upd id m) (h.set width id (.cells false ex et c)) (w.alloc (.cells real et)) ∧
      Ext β h w (β.upd id m) (h.set width id (.cells false ex et c)) (w.alloc (.cells real et)) := by
  refine ⟨⟨w.heap.size, 0, c.length + spare.length, P.cellsOf et⟩, rfl, rfl, rfl, rfl, fun real hreal => ?_⟩
  have hl := hc.length
  have hsz : real.size = c.length + spare.length := by rw [← Array.length_toList, hreal]; simp [hl]
  have hn : β id = none := by
    cases e : β id with
    | none => rfl
    | some m' => obtain ⟨y, hy⟩ := hH.dom id m' e; rw [hx] at hy; cases hy
  have hle := Inj.le_upd (β := β) ⟨w.heap.size, 0, c.length + spare.length, P.cellsOf et⟩ hn
  refine hH.fresh hid hx rfl ⟨_, real, (0, 0), Inj.upd_same .., ?_, by simp [hsz], by simp, rfl, fun e => ⟨rfl, by simp [hex e]⟩, ?_, fun _ i _ _ => by simp⟩
  · show (w.heap.push _)[w.heap.size]? = _; simp
  · intro i v hv
    obtain ⟨v', h1, h2⟩ := hc.get hv
    have hi : i < c'.length := by
      rcases Nat.lt_or_ge i c'.length with h | h
      · exact h
      · rw [List.getElem?_eq_none h] at h1; cases h1
    refine ⟨v', ?_, h2.mono hle⟩
    rw [Nat.zero_add, ← Array.getElem?_toList, hreal, List.getElem?_append_left hi]; exact h1

end Go.Proofs.YtfjaemckpmoomaaGreatDoor.Lane

namespace Go.Proofs.YtfjaemckpmoomaaGreatDoor.Lane
variable {P : Program} {β : Inj} {h : Tr Blk} {w : World} {r : U × Tr Blk}

/-- What a step leaves: an extended image, a related heap. -/
structure Went (P : Program) (β : Inj) (h : Tr Blk) (w : World) (β1 : Inj) (h1 : Tr Blk) (w1 : World) : Prop where
  ext : Ext β h w β1 h1 w1
  rel : HRel P β1 h1 w1

theorem Went.refl (hH : HRel P β h w) : Went P β h w β h w := ⟨Ext.refl .., hH⟩
theorem Went.trans {β1 β2 : Inj} {h1 h2 : Tr Blk} {w1 w2 : World} (a : Went P β h w β1 h1 w1) (b : Went P β1 h1 w1 β2 h2 w2) : Went P β h w β2 h2 w2 := ⟨a.ext.trans b.ext, b.rel⟩

theorem HRel.drew (hH : HRel P β h w) : HRel P β h w.drew :=
  ⟨fun id x hx => (hH.blk id x hx).mono (Inj.le_refl _) fun _ _ => rfl, hH.inj, hH.bound, hH.dom, hH.zero⟩
theorem Went.drew (hH : HRel P β h w) : Went P β h w β h w.drew := ⟨⟨Inj.le_refl _, Nat.le_refl _, fun _ _ _ => rfl, fun _ _ h => h, rfl, rfl, rfl⟩, hH.drew⟩

def VOK (P : Program) (β : Inj) (h : Tr Blk) (w : World) (sv : Sem Value) (k : Value → Nat → T) (r : U × Tr Blk) : Prop :=
  ∃ v c1 h1 β1 w1 v', (k v c1).run h1 = .ok r ∧ sv.run P w = .ok v' w1 ∧ VRel β1 v v' ∧ Went P β h w β1 h1 w1

theorem VOK.here {sv : Sem Value} {k : Value → Nat → T} {v v' : Value} {c : Nat} (hr : (k v c).run h = .ok r) (hs : sv.run P w = .ok v' w) (hv : VRel β v v') (hH : HRel P β h w) : VOK P β h w sv k r :=
  ⟨v, c, h, β, w, v', hr, hs, hv, .refl hH⟩

theorem pureV_run {msg : String} {s : Sem Value} {k : Value → T} (hr : (pureV P msg s k).run h = .ok r) : ∃ v, (k v).run h = .ok r ∧ (∀ w, s.run P w = .ok v w) ∧ flat v = true := by
  unfold pureV at hr
  cases hp : pureOf P s with
  | none => simp only [hp] at hr; exact (fail_run hr).elim
  | some v =>
    simp only [hp] at hr
    obtain ⟨hf, hr⟩ := ite_run hr
    exact ⟨v, hr, pureOf_run hp, hf⟩

theorem newA_run {v v' : Value} {et : TypeId} {c : Nat} {k : Value → Nat → T} (hr : (newA v et c k).run h = .ok r) (hv : VRel β v v') (hH : HRel P β h w) :
    VOK P β h w (do pure (.pointer (some (← newVar et v')))) k r := by
  unfold newA at hr
  obtain ⟨hid, hx, hr⟩ := nw_run hr
  obtain ⟨m, hb, hm, _, _, hall⟩ := new_run (P := P) (et := et) (ex := true) (spare := []) hH hid hx hv.cells (fun _ => rfl)
  obtain ⟨hle, h1, h2⟩ := hall v'.cells (by simp)
  refine ⟨_, _, _, _, _, .pointer (some ⟨w.heap.size, 0, none⟩), hr, ?_, .ptr ⟨rfl, rfl, idOk_pos hid, m, Inj.upd_same .., hm.symm, by simp [hb]⟩, ⟨h2, h1⟩⟩
  simp [newVar, newRow]

def cellsIn (size n : Nat) : Value → Nat
  | .slice none _ _ => 0
  | _ => n * size

theorem firstA_run {size n : Nat} {x x' : Value} {k : List Value → T} (hr : (firstA size n x k).run h = .ok r) (hx : VRel β x x') (hn : lenA x = some n ∨ ∃ m, lenA x = some m ∧ n ≤ m) (hH : HRel P β h w) :
    ∃ l l', (k l).run h = .ok r ∧ (∀ w1 : World, w1.heap = w.heap → (Builtin.firstCells size n x').run P w1 = .ok l'.toArray w1) ∧ LRel β l l' ∧ l.length = cellsIn size n x := by
  cases hx with
  | slice hs =>
    rename_i a a' len c2 len' cap'
    simp only [firstA] at hr
    cases h0 : (n == 0) with
    | true =>
      simp only [h0, cond_true] at hr
      have : n = 0 := by simpa using h0
      subst this
      exact ⟨[], [], hr, fun w1 _ => by simp [Builtin.firstCells, loadCells, loadCellsFrom], .nil, by simp [cellsIn]⟩
    | false =>
      have hn0 : n ≠ 0 := by simpa using h0
      simp only [h0, cond_false] at hr
      obtain ⟨hsp, hr⟩ := bif_run' hr
      obtain ⟨ro, ex, et, c, hg, hr⟩ := rdCells_run hr
      obtain ⟨l, hl, hr⟩ := opt_run hr
      rcases hs.2 with ⟨rfl, h2, h3⟩ | ⟨ha, _⟩
      · exfalso
        subst h2
        simp only [lenA, Option.some.injEq] at hn
        rcases hn with hn | ⟨m, hn, hle⟩ <;> omega
      · obtain ⟨_, hs', _, m, hm, hb, ho⟩ := ha
        obtain ⟨m2, real, fz, hm2, hheap, hsz, hlen, hes, hexx, hcell, hfr⟩ := hH.blk _ _ hg
        rw [hm] at hm2; injection hm2 with hm2; subst hm2
        obtain ⟨ab, ao, asp⟩ := a'
        simp only at hs' hb ho
        subst hs'; subst hb; subst ho
        obtain ⟨l', h1, h2, h3⟩ := slab_real hcell hl
        refine ⟨l, l', hr, fun w1 hw1 => ?_, h1, (slab_some hl).2.2⟩
        have := run_loadRow (P := P) (w := w1) (o := m.base + a.off) (by rw [hw1]; exact hheap) h3
        rw [h2] at this
        simpa [Builtin.firstCells] using this
  | plain hp =>
    cases x with
    | slice a l c =>
      cases a with
      | none => exact ⟨[], [], by simpa [firstA] using hr, fun w1 _ => by simp [Builtin.firstCells], .nil, by simp [cellsIn]⟩
      | some a => simp [plainV] at hp
    | string s =>
      simp only [firstA] at hr
      obtain ⟨hone, hr⟩ := bif_run hr
      have hone : size = 1 := by simpa using hone
      subst hone
      have hsz : n ≤ s.size := by
        simp only [lenA, Option.some.injEq] at hn
        rcases hn with hn | ⟨m, hn, hle⟩ <;> omega
      refine ⟨_, _, hr, fun w1 _ => ?_, LRel.of_plain ?_, ?_⟩
      · simp only [Builtin.firstCells, Sem.run_pure]
        congr 1
        apply Array.ext'
        simp
      · intro v hv; simp only [List.mem_map] at hv; obtain ⟨b, _, rfl⟩ := hv; rfl
      · have : (s.extract 0 n).data.toList.length = (s.extract 0 n).size := rfl
        simp only [List.length_map, this, ByteArray.size_extract, cellsIn]; omega
    | _ => exact (fail_run hr).elim
  | _ => exact (fail_run hr).elim

theorem lenA_run {x x' : Value} {n : Nat} (hx : VRel β x x') (hn : lenA x = some n) : (Builtin.lenOf x').run P w = .ok n w := by
  cases hx with
  | slice hs => simp only [lenA, Option.some.injEq] at hn; subst hn; simp [Builtin.lenOf, hs.1]
  | plain hp => cases x <;> simp_all [lenA, Builtin.lenOf]
  | _ => simp [lenA] at hn

end Go.Proofs.YtfjaemckpmoomaaGreatDoor.Lane

namespace Go.Proofs.YtfjaemckpmoomaaGreatDoor.Lane
variable {P : Program} {β : Inj} {h : Tr Blk} {w : World} {r : U × Tr Blk}

theorem roomy_le {n b : Nat} (h : roomy n b = true) : n ≤ 2 ^ 30 ∧ b ≤ 2 ^ 12 := by simpa [roomy] using h

theorem roomy_grow {need old bytes : Nat} (h : roomy need bytes = true) (ho : old < need) : Builtin.nextslicecap need old * bytes ≤ 281474976710656 := by
  obtain ⟨h1, h2⟩ := roomy_le h
  apply growslice_fits ho
  calc need * bytes ≤ 2 ^ 30 * 2 ^ 12 := Nat.mul_le_mul h1 h2
    _ ≤ 140737488355328 := by decide

theorem zeroCells_length (zero : Array Value) (n : Nat) : (Builtin.zeroCells zero n).toList.length = n * zero.size := by simp [Builtin.zeroCells]

def Second (P : Program) (argTypes : Array TypeId) : Prop :=
  argTypes[1]? = none ∨ ∃ xT, argTypes[1]? = some xT ∧ (P.underlying xT = some .string ∨ ∃ e, P.underlying xT = some (.slice e))

section
variable {argTypes : Array TypeId} {ty : TypeId} {args : Array Value} {sType elem : TypeId} {i : TypeInfo} {z x : Value} {base : Option Addr} {sLen sCap n : Nat}
  (ht : argTypes[0]? = some sType) (hu : P.underlying sType = some (.slice elem)) (h1 : Second P argTypes)
  (hi : P.info? elem = some i) (hz : zeroOf P elem = some z) (ha0 : args[0]? = some (.slice base sLen sCap)) (ha1 : args[1]? = some x)
  (hn : ∀ w1 : World, (Builtin.lenOf x).run P w1 = .ok n w1) (new : Array Value) (hnew : ∀ w1 : World, w1.heap = w.heap → (Builtin.firstCells i.size n x).run P w1 = .ok new w1)
include ht hu h1 hi ha0 ha1 hn hnew

/-- What 'append' does in the real world: within the capacity. -/
theorem append_in (hle : sLen + n ≤ sCap) : (Builtin.append_ argTypes ty args).run P w =
      (match base with
       | some a => ((storeCells (a.add (sLen * i.size)) new.toList).run P w).andThen fun _ w1 => .ok (.slice base (sLen + n) sCap) w1
       | none => .ok (.slice base (sLen + n) sCap) w) := by
  rcases h1 with e | ⟨xT, e, e2 | ⟨e', e2⟩⟩
  · cases base <;> simp [Builtin.append_, ht, ha0, ha1, ru hu, sizeOf, rti hi, e, hn, hle, hnew w rfl]
  · cases base <;> simp [Builtin.append_, ht, ha0, ha1, ru hu, sizeOf, rti hi, e, ru e2, hn, hle, hnew w rfl]
  · cases base <;> simp [Builtin.append_, ht, ha0, ha1, ru hu, sizeOf, rti hi, e, ru e2, hn, hle, hnew w rfl]

/-- .. and past it. -/
theorem append_out (hz : zeroOf P elem = some z) (hgt : sCap < sLen + n) (hro : roomy (sLen + n) i.bytes = true) (old : Array Value)
    (hold : ∀ w1 : World, w1.heap = w.heap → (Builtin.firstCells i.size sLen (.slice base sLen sCap)).run P w1 = .ok old w1) :
    ∃ newCap, sLen + n ≤ newCap ∧ (Builtin.append_ argTypes ty args).run P w =
        .ok (.slice (some ⟨w.heap.size, 0, none⟩) (sLen + n) newCap) (w.drew.alloc (.cells (old ++ new ++ Builtin.zeroCells z.cells (newCap - (sLen + n))) elem)) := by
  refine ⟨(Question.appendCap (sLen + n) sCap elem).cut (w.tape w.drawn (.appendCap (sLen + n) sCap elem)), ?_, ?_⟩
  · simp only [Question.cut]; omega
  · have hb := roomy_grow hro hgt
    obtain ⟨hl, _⟩ := roomy_le hro
    have hng : ¬ (sLen + n ≤ sCap) := by omega
    have h63 : ¬ (9223372036854775807 < ((sLen : Int) + (n : Int))) := by omega
    have h48 : ¬ (281474976710656 < Builtin.nextslicecap (sLen + n) sCap * i.bytes) := by omega
    rcases h1 with e | ⟨xT, e, e2 | ⟨e', e2⟩⟩
    · simp [Builtin.append_, ht, ha0, ha1, ru hu, sizeOf, rti hi, e, hn, hng, h63, h48, Question.forced, hnew w.drew rfl, hold w.drew rfl, rzv hz, newRow]
    · simp [Builtin.append_, ht, ha0, ha1, ru hu, sizeOf, rti hi, e, ru e2, hn, hng, h63, h48, Question.forced, hnew w.drew rfl, hold w.drew rfl, rzv hz, newRow]
    · simp [Builtin.append_, ht, ha0, ha1, ru hu, sizeOf, rti hi, e, ru e2, hn, hng, h63, h48, Question.forced, hnew w.drew rfl, hold w.drew rfl, rzv hz, newRow]
end

theorem plain_nil {l c : Nat} (h : plainV (.slice none l c) = true) : l = 0 ∧ c = 0 := by
  cases l with
  | zero => cases c with
    | zero => exact ⟨rfl, rfl⟩
    | succ c => simp [plainV] at h
  | succ l => simp [plainV] at h

theorem secondOk_spec {argTypes : Array TypeId} (hs : secondOk P argTypes = true) : Second P argTypes := by
  unfold secondOk at hs
  cases h1 : argTypes[1]? with
  | none => exact .inl h1
  | some xT =>
    simp only [h1] at hs
    cases h2 : P.underlying xT with
    | none => simp [h2] at hs
    | some d =>
      simp only [h2] at hs
      cases d with
      | string => exact .inr ⟨xT, h1, .inl h2⟩
      | slice e => exact .inr ⟨xT, h1, .inr ⟨e, h2⟩⟩
      | _ => simp at hs

theorem cellsOf_info {t : TypeId} {i : TypeInfo} (hi : P.info? t = some i) : P.cellsOf t = i.size := by simp [Program.cellsOf, hi]

/-- Past the capacity, into new memory. -/
theorem append_new {argTypes : Array TypeId} {ty : TypeId} {args' : Array Value} {sType elem : TypeId} {i : TypeInfo} {z x' : Value} {base' : Option Addr} {sLen sCap n c : Nat} {old old' new new' : List Value} {k : Value → Nat → T}
    (ht : argTypes[0]? = some sType) (hu : P.underlying sType = some (.slice elem)) (h1 : Second P argTypes)
    (hi : P.info? elem = some i) (hz : zeroOf P elem = some z) (hzs : z.cells.size = i.size) (ha0 : args'[0]? = some (.slice base' sLen sCap)) (ha1 : args'[1]? = some x')
    (hn : ∀ w1 : World, (Builtin.lenOf x').run P w1 = .ok n w1) (hnew : ∀ w1 : World, w1.heap = w.heap → (Builtin.firstCells i.size n x').run P w1 = .ok new'.toArray w1)
    (hold : ∀ w1 : World, w1.heap = w.heap → (Builtin.firstCells i.size sLen (.slice base' sLen sCap)).run P w1 = .ok old'.toArray w1)
    (hgt : sCap < sLen + n) (hro : roomy (sLen + n) i.bytes = true) (hnl : new.length = n * i.size) (hol : old.length = sLen * i.size) (hnr : LRel β new new') (hor : LRel β old old') (hH : HRel P β h w)
    (hr : (T.nw c (.cells false false elem (old ++ new)) (k (.slice (some ⟨c, 0, none⟩) (sLen + n) (2 * (sLen + n))) (c + 1))).run h = .ok r) :
    VOK P β h w (Builtin.append_ argTypes ty args') k r := by
  obtain ⟨hid, hfresh, hr⟩ := nw_run hr
  obtain ⟨newCap, hcap, hrun⟩ := append_out (ty := ty) (w := w) ht hu h1 hi ha0 ha1 hn new'.toArray hnew hz hgt hro old'.toArray hold
  obtain ⟨m, hb, hm, hav, hes, hall⟩ := new_run (P := P) (w := w.drew) (et := elem) (ex := false) (spare := (Builtin.zeroCells z.cells (newCap - (sLen + n))).toList) hH.drew hid hfresh (hor.append hnr) (fun e => by cases e)
  obtain ⟨hle, g1, g2⟩ := hall (old'.toArray ++ new'.toArray ++ Builtin.zeroCells z.cells (newCap - (sLen + n))) (by simp)
  refine ⟨_, _, _, _, _, _, hr, hrun, .slice ⟨rfl, .inr ⟨⟨rfl, rfl, idOk_pos hid, m, Inj.upd_same .., by rw [hm]; rfl, by simp [hb]⟩, by omega, by omega, ?_⟩⟩, ⟨(Went.drew hH).ext.trans g2, g1⟩⟩
  intro m' hm' _
  rw [Inj.upd_same] at hm'; injection hm' with hm'; subst hm'
  rw [hav, hes, cellsOf_info hi, List.length_append, hnl, hol, zeroCells_length, hzs, ← Nat.add_mul, ← Nat.add_mul]
  simp only [Nat.zero_add]
  exact Nat.mul_le_mul_right _ (by omega)

theorem append_run {argTypes : Array TypeId} {ty : TypeId} {args args' : Array Value} {c : Nat} {k : Value → Nat → T} (hr : (appendA P argTypes args c k).run h = .ok r)
    (ha : LRel β args.toList args'.toList) (hH : HRel P β h w) : VOK P β h w (Builtin.append_ argTypes ty args') k r := by
  unfold appendA at hr
  cases ht : argTypes[0]? with
  | none => simp only [ht] at hr; exact (fail_run hr).elim
  | some sType =>
  cases hs : (args[0]? : Option Value) with
  | none => simp only [ht, hs] at hr; exact (fail_run hr).elim
  | some s =>
  cases hx : (args[1]? : Option Value) with
  | none => simp only [ht, hs, hx] at hr; cases s <;> exact (fail_run hr).elim
  | some x =>
  simp only [ht, hs, hx] at hr
  cases s with
  | slice base sLen c2 =>
    obtain ⟨s', hs1, hsr⟩ := ha.get (i := 0) (v := .slice base sLen c2) (by simpa using hs)
    obtain ⟨x', hx1, hxr⟩ := ha.get (i := 1) (v := x) (by simpa using hx)
    have hs' : args'[0]? = some s' := by simpa using hs1
    have hx' : args'[1]? = some x' := by simpa using hx1
    cases hu : P.underlying sType with
    | none => simp only [hu] at hr; exact (fail_run hr).elim
    | some d =>
    cases d with
    | slice elem =>
      simp only [hu] at hr
      obtain ⟨i, hi, hr⟩ := opt_run hr
      obtain ⟨z, hz, hr⟩ := opt_run hr
      obtain ⟨hzs, hr⟩ := bif_run hr
      simp only [Bool.and_eq_true, beq_iff_eq] at hzs
      obtain ⟨hzs, hsec⟩ := hzs
      have hsec := secondOk_spec hsec
      obtain ⟨n, hn, hr⟩ := opt_run hr
      obtain ⟨new, new', hr, hnew, hnr, hnl⟩ := firstA_run hr hxr (.inl hn) hH
      have hlen : ∀ w1 : World, (Builtin.lenOf x').run P w1 = .ok n w1 := fun w1 => lenA_run hxr hn
      have hnl2 : new.length = n * i.size := by
        rw [hnl]; unfold cellsIn
        split
        · cases hxr with
          | plain hp =>
            obtain ⟨rfl, rfl⟩ := plain_nil hp
            simp only [lenA, Option.some.injEq] at hn
            subst hn; simp
        · rfl
      unfold appendBody at hr
      cases base with
      | none =>
        cases hsr with
        | plain hp =>
          obtain ⟨rfl, rfl⟩ := plain_nil hp
          simp only at hr
          cases h0 : (n == 0) with
          | true =>
            simp only [h0, cond_true] at hr
            have hk := hr
            have h0 : n = 0 := by simpa using h0
            subst h0
            exact .here hk (append_in (ty := ty) (w := w) ht hu hsec hi hs' hx' hlen new'.toArray (fun w1 e => hnew w1 e) (by simp)) (.plain rfl) hH
          | false =>
            simp only [h0, cond_false] at hr
            have h0 : n ≠ 0 := by simpa using h0
            obtain ⟨hroom, hr⟩ := bif_run hr
            exact append_new ht hu hsec hi hz hzs hs' hx' hlen hnew (fun w1 _ => by simp [Builtin.firstCells]) (by omega) hroom hnl2 (old := []) (old' := []) (by simp) hnr .nil hH (by simpa using hr)
      | some a =>
        cases hsr with
        | plain hp => simp [plainV] at hp
        | slice hsl =>
        rename_i a' sLen' sCap'
        obtain ⟨hll, hsl⟩ := hsl
        subst hll
        simp only at hr
        cases h0 : (n == 0) with
        | true =>
          simp only [h0, cond_true] at hr
          obtain ⟨hle, hk⟩ := bif_run hr
          have hle : sLen ≤ c2 / 2 := by simpa using hle
          have h0 : n = 0 := by simpa using h0
          subst h0
          have hnn : new' = [] := by
            have := hnr.length; rw [hnl2] at this; simp at this; exact List.length_eq_zero_iff.1 this.symm
          have hcap : sLen + 0 ≤ sCap' := by
            rcases hsl with ⟨_, rfl, rfl⟩ | ⟨_, _, h3, _⟩ <;> omega
          have := append_in (ty := ty) (w := w) ht hu hsec hi hs' hx' hlen new'.toArray (fun w1 e => hnew w1 e) hcap
          refine .here hk (by rw [this, hnn]; simp [storeCells]) (.slice ⟨rfl, hsl⟩) hH
        | false =>
          simp only [h0, cond_false] at hr
          have h0 : n ≠ 0 := by simpa using h0
          obtain ⟨hnz, hr⟩ := bif_run' hr
          have hnz : a.block ≠ 0 := by simpa using hnz
          obtain ⟨ro, ex, et, cs, hg, hr⟩ := rdCells_run hr
          rcases hsl with ⟨rfl, _⟩ | ⟨har, hex, hcle, hback⟩
          · exact absurd rfl hnz
          cases hin : decide (sLen + n ≤ c2 / 2) with
          | true =>
            simp only [hin, cond_true] at hr
            have hin : sLen + n ≤ c2 / 2 := by simpa using hin
            obtain ⟨hro, hr⟩ := bif_run' hr
            obtain ⟨hone, hr⟩ := bif_run hr
            simp only [Bool.and_eq_true, decide_eq_true_eq] at hone
            obtain ⟨hone, hle⟩ := hone
            obtain ⟨hid, _, hr⟩ := wr_run hr
            have hmul : (sLen + n) * i.size = sLen * i.size + n * i.size := Nat.add_mul ..
            obtain ⟨w', g1, g2, g3⟩ := write_run (P := P) (off := sLen * i.size) har hH hg hro hid hnr hone (by omega)
            have := append_in (ty := ty) (w := w) ht hu hsec hi hs' hx' hlen new'.toArray (fun w1 e => hnew w1 e) (by omega)
            refine ⟨_, _, _, _, _, _, hr, by rw [this]; simp [g1], .slice ⟨rfl, .inr ⟨har.mono g3.mono, hex, hcle, ?_⟩⟩, ⟨g3, g2⟩⟩
            exact hback
          | false =>
            simp only [hin, cond_false] at hr
            have hin : ¬ (sLen + n ≤ c2 / 2) := by simpa using hin
            obtain ⟨hroom, hr⟩ := bif_run hr
            obtain ⟨old, hold, hr⟩ := opt_run hr
            obtain ⟨hs0, hs0', hne, m, hm, hb, ho⟩ := id har
            obtain ⟨m2, real, fz, hm2, hheap, hsz, hlenc, hes, hexx, hcell, hfr⟩ := hH.blk _ _ hg
            rw [hm] at hm2; injection hm2 with hm2; subst hm2
            obtain ⟨ab, ao, asp⟩ := a'
            simp only at hs0' hb ho
            subst hs0'; subst hb; subst ho
            obtain ⟨old', o1, o2, o3⟩ := slab_real hcell hold
            have holdr : ∀ w1 : World, w1.heap = w.heap → (Builtin.firstCells i.size sLen (.slice (some ⟨m.blk, m.base + a.off, none⟩) sLen sCap')).run P w1 = .ok old'.toArray w1 := fun w1 hw1 => by
              have := run_loadRow (P := P) (w := w1) (o := m.base + a.off) (by rw [hw1]; exact hheap) o3
              rw [o2] at this
              simpa [Builtin.firstCells] using this
            have hol := (slab_some hold).2.2
            cases hodd : (c2 % 2 == 1) with
            | true =>
              simp only [hodd, cond_true] at hr
              have hodd : c2 % 2 = 1 := by simpa using hodd
              have := hex hodd
              exact append_new ht hu hsec hi hz hzs hs' hx' hlen hnew holdr (by omega) hroom hnl2 hol hnr o1 hH hr
            | false =>
              simp only [hodd, cond_false] at hr
              have hodd : c2 % 2 = 0 := by have : c2 % 2 ≠ 1 := by simpa using hodd
                                           omega
              obtain ⟨hc3, hr⟩ := bif_run' hr
              simp only [Bool.or_eq_false_iff, Bool.not_eq_false', beq_iff_eq] at hc3
              obtain ⟨⟨hro, het⟩, hone⟩ := hc3
              obtain ⟨hid0, _, hr⟩ := wr_run hr
              by_cases hreal : sLen + n ≤ sCap'
              · -- in place, though the abstract heap does not know it
                obtain ⟨hid, hfresh, hr⟩ := nw_run hr
                rw [Tr.get_set .dead width h a.block c (idOk_lt hid0)] at hfresh
                have hca : c ≠ a.block := by intro e; rw [if_pos e] at hfresh; cases hfresh
                rw [if_neg hca] at hfresh
                have hav := hback m hm hodd
                have hmes : m.es = i.size := by rw [hes, het, cellsOf_info hi]
                rw [hmes] at hav
                have hmul : (sLen + n) * i.size ≤ sCap' * i.size := Nat.mul_le_mul_right _ hreal
                rw [Nat.add_mul] at hmul
                have hn'l := hnr.length
                obtain ⟨w', real', hst, hW, hj⟩ := run_storeRow (P := P) new' (m.base + a.off + sLen * i.size) 0 w real hheap (hnr.all_one hone) (by omega) (fun j q1 q2 => hfr hro j (by omega) (by omega))
                have hrun := append_in (ty := ty) (w := w) ht hu hsec hi hs' hx' hlen new'.toArray (fun w1 e => hnew w1 e) hreal
                simp only [add_none] at hrun
                rw [hst] at hrun
                have hnone : β c = none := by
                  cases e : β c with
                  | none => rfl
                  | some m' => obtain ⟨y, hy⟩ := hH.dom c m' e; rw [hfresh] at hy; cases hy
                have hle := Inj.le_upd (β := β) (i := c) ⟨m.blk, m.base + a.off, m.avail - a.off, m.es⟩ hnone
                have hol' := o1.length
                obtain ⟨g1, g2⟩ := hH.adopt (id := c) (old := a.block) (x := .cells false false elem (old ++ new)) (m := ⟨m.blk, m.base + a.off, m.avail - a.off, m.es⟩) hid hid0 hfresh hg (by simp [wrB, hro]) hm rfl hW.hsize hW.other
                  ⟨_, real', fz, Inj.upd_same .., by rw [← het]; exact hW.heap, by rw [hW.size]; simp only; omega, by simp only [List.length_append]; omega, by rw [hes, het], (fun e => by cases e), by
                    intro j v hv
                    simp only [hj]
                    by_cases hjo : j < old.length
                    · rw [List.getElem?_append_left hjo] at hv
                      obtain ⟨v', p1, p2⟩ := o1.get hv
                      rw [if_neg (by omega)]
                      exact ⟨v', o3 j v' p1, p2.mono hle⟩
                    · rw [List.getElem?_append_right (by omega)] at hv
                      obtain ⟨v', p1, p2⟩ := hnr.get hv
                      have hjn : j - old.length < new'.length := by
                        rcases Nat.lt_or_ge (j - old.length) new'.length with q | q
                        · exact q
                        · rw [List.getElem?_eq_none q] at p1; cases p1
                      rw [if_pos (by omega)]
                      exact ⟨v', by rw [← p1]; congr 1; omega, p2.mono hle⟩,
                    fun _ j q1 q2 => hfr hro j (by simp only at q1; omega) (by rw [← hW.size]; exact q2)⟩ hW.tape hW.os hW.output
                refine ⟨_, _, _, _, _, _, hr, hrun, .slice ⟨rfl, .inr ⟨⟨rfl, rfl, idOk_pos hid, ⟨m.blk, m.base + a.off, m.avail - a.off, m.es⟩, Inj.upd_same .., rfl, by simp⟩, by omega, by omega, ?_⟩⟩, ⟨g2, g1⟩⟩
                intro m' hm' _
                rw [Inj.upd_same] at hm'; injection hm' with hm'; subst hm'
                simp only [hmes]; omega
              · obtain ⟨k1, k2⟩ := hH.kill hid0 hg
                obtain ⟨v, c1, h1, β1, w1, v', a1, a2, a3, a4⟩ := append_new (ty := ty) ht hu hsec hi hz hzs hs' hx' hlen hnew holdr (by omega) hroom hnl2 hol hnr o1 k1 hr
                exact ⟨v, c1, h1, β1, w1, v', a1, a2, a3, ⟨k2.trans a4.ext, a4.rel⟩⟩
    | _ => simp only [hu] at hr; exact (fail_run hr).elim
  | _ => exact (fail_run hr).elim
end Go.Proofs.YtfjaemckpmoomaaGreatDoor.Lane

namespace Go.Proofs.YtfjaemckpmoomaaGreatDoor.Lane
variable {P : Program} {β : Inj} {h : Tr Blk} {w : World} {r : U × Tr Blk}

theorem natOf_some {x : Value} {i : Nat} (hx : natOf x = some i) : ∃ k n, x = .int k n ∧ 0 ≤ n ∧ n.toNat = i := by
  cases x with
  | int k n =>
    simp only [natOf] at hx
    by_cases hn : 0 ≤ n
    · rw [if_pos hn] at hx; injection hx with hx; exact ⟨k, n, rfl, hn, hx⟩
    · rw [if_neg hn] at hx; cases hx
  | _ => simp [natOf] at hx

theorem natOf_eq {x x' : Value} {i : Nat} (hv : VRel β x x') (hx : natOf x = some i) : x' = x := by
  obtain ⟨k, n, rfl, _⟩ := natOf_some hx
  exact hv.plain_eq rfl

theorem copy_run {argTypes : Array TypeId} {ty : TypeId} {args args' : Array Value} {c : Nat} {k : Value → Nat → T} (hr : (copyA P argTypes args c k).run h = .ok r)
    (ha : LRel β args.toList args'.toList) (hH : HRel P β h w) : VOK P β h w (Builtin.copy_ argTypes ty args') k r := by
  unfold copyA at hr
  cases ht : argTypes[0]? with
  | none => simp only [ht] at hr; exact (fail_run hr).elim
  | some dType =>
  cases hs : (args[0]? : Option Value) with
  | none => simp only [ht, hs] at hr; exact (fail_run hr).elim
  | some s =>
  cases hx : (args[1]? : Option Value) with
  | none => simp only [ht, hs, hx] at hr; cases s <;> exact (fail_run hr).elim
  | some x =>
  simp only [ht, hs, hx] at hr
  cases s with
  | slice base dLen c2 =>
    obtain ⟨s', hs1, hsr⟩ := ha.get (i := 0) (v := .slice base dLen c2) (by simpa using hs)
    obtain ⟨x', hx1, hxr⟩ := ha.get (i := 1) (v := x) (by simpa using hx)
    have hs' : args'[0]? = some s' := by simpa using hs1
    have hx' : args'[1]? = some x' := by simpa using hx1
    cases hu : P.underlying dType with
    | none => simp only [hu] at hr; exact (fail_run hr).elim
    | some d =>
    cases d with
    | slice elem =>
      simp only [hu] at hr
      obtain ⟨i, hi, hr⟩ := opt_run hr
      obtain ⟨sl, hsl, hr⟩ := opt_run hr
      obtain ⟨new, new', hr, hnew, hnr, hnl⟩ := firstA_run hr hxr (.inr ⟨sl, hsl, Nat.min_le_left _ _⟩) hH
      have hlen : (Builtin.lenOf x').run P w = .ok sl w := lenA_run hxr hsl
      have hnew := hnew w rfl
      cases base with
      | none =>
        cases hsr with
        | plain hp => exact .here hr (by simp [Builtin.copy_, ht, hs', hx', ru hu, hlen, sizeOf, rti hi, hnew]) (.plain rfl) hH
      | some a =>
        cases hsr with
        | plain hp => simp [plainV] at hp
        | slice hsl2 =>
        rename_i a' dLen' dCap'
        obtain ⟨hll, hsl2⟩ := hsl2
        subst hll
        simp only at hr
        cases h0 : (Nat.min sl dLen == 0) with
        | true =>
          simp only [h0, cond_true] at hr
          have h0 : Nat.min sl dLen = 0 := by simpa using h0
          have hnn : new' = [] := by
            have := hnr.length
            rw [hnl, h0] at this
            have e : cellsIn i.size 0 x = 0 := by unfold cellsIn; split <;> simp
            rw [e] at this; exact List.length_eq_zero_iff.1 this.symm
          exact .here hr (by simp [Builtin.copy_, ht, hs', hx', ru hu, hlen, sizeOf, rti hi, hnew, hnn, storeCells]) (.plain rfl) hH
        | false =>
          simp only [h0, cond_false] at hr
          have h0 : Nat.min sl dLen ≠ 0 := by simpa using h0
          obtain ⟨ro, ex, et, cs, hg, hr⟩ := rdCells_run hr
          obtain ⟨hro, hr⟩ := bif_run' hr
          obtain ⟨hone, hr⟩ := bif_run hr
          simp only [Bool.and_eq_true, decide_eq_true_eq] at hone
          obtain ⟨hone, hle⟩ := hone
          obtain ⟨hid, _, hr⟩ := wr_run hr
          have hmle : Nat.min sl dLen ≤ dLen := Nat.min_le_right _ _
          rcases hsl2 with ⟨rfl, hz, _⟩ | ⟨har, _⟩
          · exfalso; omega
          have hnl2 : new.length ≤ Nat.min sl dLen * i.size := by
            rw [hnl]; unfold cellsIn; split <;> simp
          obtain ⟨w', g1, g2, g3⟩ := write_run (P := P) (off := 0) har hH hg hro hid hnr hone (by omega)
          have e : a'.add 0 = a' := by simp [Addr.add]
          rw [e] at g1
          exact ⟨_, _, _, _, _, _, hr, by simp [Builtin.copy_, ht, hs', hx', ru hu, hlen, sizeOf, rti hi, hnew, g1]; rfl, .plain rfl, ⟨by simpa using g3, by simpa using g2⟩⟩
    | _ => simp only [hu] at hr; exact (fail_run hr).elim
  | _ => exact (fail_run hr).elim

/-! ### slices of slices -/

theorem boundA_run {x x' : Value} {y y' i : Nat} (hb : boundA x y = some i) (hv : VRel β x x') (hy : y ≤ y') (code : BoundsCode) : (Instr.sliceBound x' y' code).run P w = .ok i w ∧ i ≤ y := by
  unfold boundA at hb
  obtain ⟨j, hj, hb⟩ := Option.bind_eq_some_iff.1 hb
  by_cases hle : j ≤ y
  · rw [if_pos hle] at hb; injection hb with hb; subst hb
    have := natOf_eq hv hj
    subst this
    obtain ⟨k, n, rfl, hn, rfl⟩ := natOf_some hj
    refine ⟨?_, hle⟩
    simp only [Instr.sliceBound, asIntOf, Sem.run_bind, Sem.run_pure, Result.andThen_ok]
    rw [if_pos ⟨hn, by omega⟩]; rfl
  · rw [if_neg hle] at hb; cases hb

def ORel (β : Inj) : Option Value → Option Value → Prop
  | none, none => True
  | some v, some v' => VRel β v v'
  | _, _ => False

theorem boundsA_run {isSlice : Bool} {len cap cap' : Nat} {lo hi mx lo' hi' mx' : Option Value} {q : Nat × Nat × Nat} (hb : boundsA len cap lo hi mx = some q) (hlo : ORel β lo lo') (hhi : ORel β hi hi') (hmx : ORel β mx mx') (hc : cap ≤ cap') :
    ∃ m', (Instr.sliceBounds isSlice len cap' lo' hi' mx').run P w = .ok (q.1, q.2.1, m') w ∧ (mx.isSome = true → m' = q.2.2) ∧ (mx = none → m' = cap' ∧ q.2.2 = cap) ∧ q.1 ≤ q.2.1 ∧ q.2.2 ≤ cap ∧ (hi.isSome = true → q.2.1 ≤ q.2.2) ∧ (hi = none → q.2.1 = len) ∧ q.2.2 ≤ m' := by
  unfold boundsA at hb
  cases mx with
  | none =>
    cases mx' with
    | some v => exact hmx.elim
    | none =>
    simp only at hb
    cases hi with
    | none =>
      cases hi' with
      | some v => exact hhi.elim
      | none =>
      simp only at hb
      cases lo with
      | none =>
        cases lo' with
        | some v => exact hlo.elim
        | none =>
        simp only [Option.some.injEq] at hb; subst hb
        exact ⟨cap', by simp [Instr.sliceBounds], by simp, fun _ => ⟨rfl, rfl⟩, by simp, by simp, by simp, by simp, hc⟩
      | some v =>
        cases lo' with
        | none => exact hlo.elim
        | some v' =>
        cases hl : boundA v len with
        | none => simp [hl] at hb
        | some l =>
          simp only [hl, Option.some.injEq] at hb; subst hb
          obtain ⟨g, gle⟩ := boundA_run (P := P) (w := w) hl hlo (Nat.le_refl _) .sliceB
          exact ⟨cap', by simp [Instr.sliceBounds, g], by simp, fun _ => ⟨rfl, rfl⟩, gle, by simp, by simp, by simp, hc⟩
    | some hv =>
      cases hi' with
      | none => exact hhi.elim
      | some hv' =>
      simp only at hb
      cases hh : boundA hv cap with
      | none => simp [hh] at hb
      | some hn =>
        simp only [hh] at hb
        have g := fun code => (boundA_run (P := P) (w := w) hh hhi hc code).1
        have gle := (boundA_run (P := P) (w := w) hh hhi hc .sliceB).2
        cases lo with
        | none =>
          cases lo' with
          | some v => exact hlo.elim
          | none =>
          simp only [Option.some.injEq] at hb; subst hb
          exact ⟨cap', by simp [Instr.sliceBounds, g], by simp, fun _ => ⟨rfl, rfl⟩, by simp, by simp, fun _ => gle, by simp, hc⟩
        | some v =>
          cases lo' with
          | none => exact hlo.elim
          | some v' =>
          cases hl : boundA v hn with
          | none => simp [hl] at hb
          | some l =>
            simp only [hl, Option.some.injEq] at hb; subst hb
            obtain ⟨g2, gle2⟩ := boundA_run (P := P) (w := w) hl hlo (Nat.le_refl _) .sliceB
            exact ⟨cap', by simp [Instr.sliceBounds, g, g2], by simp, fun _ => ⟨rfl, rfl⟩, gle2, by simp, fun _ => gle, by simp, hc⟩
  | some mv =>
    cases mx' with
    | none => exact hmx.elim
    | some mv' =>
    simp only at hb
    cases hm : boundA mv cap with
    | none => simp [hm] at hb
    | some m =>
    simp only [hm] at hb
    have gm := fun code => (boundA_run (P := P) (w := w) hm hmx hc code).1
    have gmle := (boundA_run (P := P) (w := w) hm hmx hc .sliceB).2
    cases hi with
    | none => simp at hb
    | some hv =>
      cases hi' with
      | none => exact hhi.elim
      | some hv' =>
      simp only at hb
      cases hh : boundA hv m with
      | none => simp [hh] at hb
      | some hn =>
        simp only [hh] at hb
        obtain ⟨g, gle⟩ := boundA_run (P := P) (w := w) hh hhi (Nat.le_refl _) .slice3B
        cases lo with
        | none =>
          cases lo' with
          | some v => exact hlo.elim
          | none =>
          simp only [Option.some.injEq] at hb; subst hb
          exact ⟨m, by simp [Instr.sliceBounds, g, gm], by simp, by simp, by simp, gmle, fun _ => gle, by simp, Nat.le_refl _⟩
        | some v =>
          cases lo' with
          | none => exact hlo.elim
          | some v' =>
          cases hl : boundA v hn with
          | none => simp [hl] at hb
          | some l =>
            simp only [hl, Option.some.injEq] at hb; subst hb
            obtain ⟨g2, gle2⟩ := boundA_run (P := P) (w := w) hl hlo (Nat.le_refl _) .slice3C
            exact ⟨m, by simp [Instr.sliceBounds, g, g2, gm], by simp, by simp, gle2, gmle, fun _ => gle, by simp, Nat.le_refl _⟩

theorem ARel.add {a a' : Addr} (ha : ARel β a a') (n : Nat) : ARel β (a.add n) (a'.add n) ∧ (a.add n).block = a.block ∧ (a.add n).off = a.off + n := by
  obtain ⟨h1, h2, h3, m, h4, h5, h6⟩ := ha
  obtain ⟨b, o, s⟩ := a
  obtain ⟨b', o', s'⟩ := a'
  simp only at h1 h2 h5 h6 h3 h4
  subst h1; subst h2
  rw [add_none, add_none]
  exact ⟨⟨rfl, rfl, h3, m, h4, h5, by simp only; omega⟩, rfl, rfl⟩

theorem slice_run {t : TypeId} {x x' : Value} {lo hi mx lo' hi' mx' : Option Value} {k : Value → T} (hr : (sliceA P t x lo hi mx k).run h = .ok r) (hx : VRel β x x')
    (hlo : ORel β lo lo') (hhi : ORel β hi hi') (hmx : ORel β mx mx') (hH : HRel P β h w) :
    ∃ v v', (k v).run h = .ok r ∧ (Instr.sliceAt t x' lo' hi' mx').run P w = .ok v' w ∧ VRel β v v' := by
  unfold sliceA at hr
  cases hu : P.underlying t with
  | none => simp only [hu] at hr; exact (fail_run hr).elim
  | some d =>
  cases d with
  | string =>
    simp only [hu] at hr
    cases x with
    | string s =>
      have := hx.plain_eq rfl
      subst this
      simp only at hr
      cases mx with
      | some v => exact (fail_run hr).elim
      | none =>
        cases mx' with
        | some v => exact hmx.elim
        | none =>
        obtain ⟨q, hq, hr⟩ := opt_run hr
        obtain ⟨m', g, _⟩ := boundsA_run (P := P) (w := w) (isSlice := false) hq hlo hhi (mx := none) (mx' := none) trivial (Nat.le_refl _)
        exact ⟨_, _, hr, by simp [Instr.sliceAt, Instr.slice, ru hu, g], .plain rfl⟩
    | _ => exact (fail_run hr).elim
  | slice elem =>
    simp only [hu] at hr
    cases x with
    | slice a len c2 =>
      simp only at hr
      obtain ⟨size, hsz, hr⟩ := opt_run hr
      obtain ⟨q, hq, hr⟩ := opt_run hr
      cases a with
      | none =>
        cases hx with
        | plain hp =>
        have hk := hr
        obtain ⟨rfl, rfl⟩ := plain_nil hp
        obtain ⟨m', g, g1, g2, g3, g4, g5, g6, g7⟩ := boundsA_run (P := P) (w := w) (isSlice := true) hq hlo hhi hmx (Nat.le_refl _)
        refine ⟨_, .slice none (q.2.1 - q.1) (m' - q.1), hk, by simp [Instr.sliceAt, Instr.slice, ru hu, g, rso hsz], ?_⟩
        have e1 : q.2.2 = 0 := by simpa using g4
        have e2 : m' = 0 := by
          cases mx with
          | none => have := (g2 rfl).1; omega
          | some v => have := g1 rfl; omega
        have e3 : q.2.1 = 0 := by
          cases hi with
          | none => exact g6 rfl
          | some v => have := g5 rfl; omega
        rw [e2, e3]; simp; exact .plain rfl
      | some a =>
        cases hx with
        | plain hp => simp [plainV] at hp
        | slice hs =>
        rename_i a' len' cap'
        obtain ⟨hl, hs⟩ := hs
        subst hl
        simp only at hr
        cases hz : (a.block == 0) with
        | true =>
          simp only [hz, cond_true] at hr
          have hz : a.block = 0 := by simpa using hz
          have hk := hr
          rcases hs with ⟨rfl, rfl, rfl⟩ | ⟨har, _⟩
          · obtain ⟨m', g, g1, g2, g3, g4, g5, g6, g7⟩ := boundsA_run (P := P) (w := w) (isSlice := true) hq hlo hhi hmx (cap' := cap') (by simp)
            have e1 : q.2.2 = 0 := by simpa using g4
            have e3 : q.2.1 = 0 := by
              cases hi with
              | none => exact g6 rfl
              | some v => have := g5 rfl; omega
            refine ⟨_, .slice (if m' = q.1 then some a' else some (a'.add (q.1 * size))) (q.2.1 - q.1) (m' - q.1), hk, by simp [Instr.sliceAt, Instr.slice, ru hu, g, rso hsz], ?_⟩
            rw [e3, Nat.zero_sub]
            split
            · exact .slice ⟨rfl, .inl ⟨rfl, rfl, rfl⟩⟩
            · exact .slice ⟨rfl, .inl ⟨rfl, rfl, rfl⟩⟩
          · exact absurd hz har.2.2.1
        | false =>
          simp only [hz, cond_false] at hr
          have hz : a.block ≠ 0 := by simpa using hz
          rcases hs with ⟨rfl, _⟩ | ⟨har, hex, hcle, hback⟩
          · exact absurd rfl hz
          obtain ⟨m', g, g1, g2, g3, g4, g5, g6, g7⟩ := boundsA_run (P := P) (w := w) (isSlice := true) hq hlo hhi hmx hcle
          have hreal : (Instr.sliceAt t (.slice (some a') len cap') lo' hi' mx').run P w = .ok (.slice (if m' = q.1 then some a' else some (a'.add (q.1 * size))) (q.2.1 - q.1) (m' - q.1)) w := by
            simp [Instr.sliceAt, Instr.slice, ru hu, g, rso hsz]
          cases hc : (c2 % 2 == 1 || mx.isSome) with
          | true =>
            simp only [hc, cond_true] at hr
            have hm : m' = q.2.2 := by
              cases mx with
              | some v => exact g1 rfl
              | none =>
                have hodd : c2 % 2 = 1 := by simpa using hc
                have := g2 rfl; have := hex hodd; omega
            subst hm
            refine ⟨_, _, hr, hreal, ?_⟩
            by_cases e : q.2.2 = q.1
            · rw [if_pos e, if_pos e]
              exact .slice ⟨rfl, .inr ⟨har, fun _ => by omega, by omega, fun m hm hodd => by omega⟩⟩
            · rw [if_neg e, if_neg e]
              exact .slice ⟨rfl, .inr ⟨(har.add _).1, fun _ => by omega, by omega, fun m hm hodd => by omega⟩⟩
          | false =>
            simp only [hc, cond_false] at hr
            have hc2 : c2 % 2 = 0 ∧ mx = none := by
              simp only [Bool.or_eq_false_iff] at hc
              refine ⟨by have := hc.1; simp at this; omega, by cases mx <;> simp_all⟩
            have hk := hr
            obtain ⟨heven, rfl⟩ := hc2
            have hmm := g2 rfl
            obtain ⟨ro, ex, et, cs, hg, hr⟩ := rdCells_run hk
            obtain ⟨het, hr⟩ := bif_run hr
            have het : et = elem := by simpa using het
            cases hml : (q.2.2 == q.1) with
            | true =>
              simp only [hml, cond_true] at hr
              obtain ⟨he, hr⟩ := bif_run hr
              have he : q.2.1 = q.1 := by simpa using he
              refine ⟨_, _, hr, hreal, ?_⟩
              rw [he, Nat.sub_self]
              split
              · exact .slice ⟨rfl, .inl ⟨rfl, rfl, rfl⟩⟩
              · exact .slice ⟨rfl, .inl ⟨rfl, rfl, rfl⟩⟩
            | false =>
              simp only [hml, cond_false] at hr
              obtain ⟨hlt, hr⟩ := bif_run hr
              have hlt : q.1 < q.2.2 := by simpa using hlt
              refine ⟨_, _, hr, hreal, ?_⟩
              rw [if_neg (by omega)]
              obtain ⟨s1, s2, s3⟩ := har.add (q.1 * size)
              refine .slice ⟨rfl, .inr ⟨s1, fun e => by omega, by omega, fun m hm _ => ?_⟩⟩
              rw [s2] at hm
              have hb := hback m hm heven
              obtain ⟨m2, real, fz, hm2, hheap, hsz2, hlen, hes, _⟩ := hH.blk _ _ hg
              rw [hm] at hm2; injection hm2 with hm2; subst hm2
              have hmes : m.es = size := by
                rw [hes, het]
                simp only [sizeOfT, Option.map_eq_some_iff] at hsz
                obtain ⟨i, hi', rfl⟩ := hsz
                exact cellsOf_info hi'
              rw [s3, hmes]
              rw [hmes] at hb
              have : m' * size = q.1 * size + (m' - q.1) * size := by rw [← Nat.add_mul]; congr 1; omega
              have e2 : m' = cap' := hmm.1
              rw [← e2] at hb
              omega
    | _ => exact (fail_run hr).elim
  | array n elem =>
    simp only [hu] at hr
    cases x with
    | pointer a =>
      cases a with
      | none => exact (fail_run hr).elim
      | some a =>
        simp only at hr
        obtain ⟨size, hsz, hr⟩ := opt_run hr
        obtain ⟨q, hq, hr⟩ := opt_run hr
        cases hx with
        | plain hp => simp [plainV] at hp
        | ptr har =>
        rename_i a'
        obtain ⟨m', g, g1, g2, g3, g4, g5, g6, g7⟩ := boundsA_run (P := P) (w := w) (isSlice := false) hq hlo hhi hmx (Nat.le_refl _)
        have hm : m' = q.2.2 := by
          cases mx with
          | some v => exact g1 rfl
          | none => have := g2 rfl; omega
        subst hm
        refine ⟨_, .slice (some (if q.2.2 = q.1 then a' else a'.add (q.1 * size))) (q.2.1 - q.1) (q.2.2 - q.1), hr, by simp [Instr.sliceAt, ru hu, Instr.sureAddr, g, rso hsz], ?_⟩
        by_cases e : q.2.2 = q.1
        · rw [if_pos e, if_pos e]
          exact .slice ⟨rfl, .inr ⟨har, fun _ => by omega, by omega, fun m hm hodd => by omega⟩⟩
        · rw [if_neg e, if_neg e]
          exact .slice ⟨rfl, .inr ⟨(har.add _).1, fun _ => by omega, by omega, fun m hm hodd => by omega⟩⟩
    | _ => exact (fail_run hr).elim
  | _ => simp only [hu] at hr; exact (fail_run hr).elim
end Go.Proofs.YtfjaemckpmoomaaGreatDoor.Lane

namespace Go.Proofs.YtfjaemckpmoomaaGreatDoor.Lane
variable {P : Program} {β : Inj} {h : Tr Blk} {w : World} {r : U × Tr Blk}

theorem indexAddr_run {t : TypeId} {x x' ix ix' : Value} {k : Value → T} (hr : (indexAddrA P t x ix k).run h = .ok r) (hx : VRel β x x') (hi : VRel β ix ix') :
    ∃ v v', (k v).run h = .ok r ∧ (Instr.indexAt t x' ix').run P w = .ok v' w ∧ VRel β v v' := by
  unfold indexAddrA at hr
  obtain ⟨i, hn, hr⟩ := opt_run hr
  have := natOf_eq hi hn
  subst this
  obtain ⟨kk, n, rfl, hn0, rfl⟩ := natOf_some hn
  cases hu : P.underlying t with
  | none => simp only [hu] at hr; exact (fail_run hr).elim
  | some d =>
  simp only [hu] at hr
  cases d with
  | array len elem =>
    cases x with
    | pointer a =>
      cases a with
      | none => exact (fail_run hr).elim
      | some a =>
        simp only at hr
        obtain ⟨s, hs, hr⟩ := opt_run hr
        obtain ⟨hlt, hr⟩ := bif_run hr
        have hlt : n.toNat < len := by simpa using hlt
        cases hx with
        | plain hp => simp [plainV] at hp
        | ptr har =>
        rename_i a'
        refine ⟨_, .pointer (some (a'.add (n.toNat * s))), hr, ?_, .ptr (har.add _).1⟩
        have hc : 0 ≤ n ∧ n < (len : Int) := ⟨hn0, by omega⟩
        simp [Instr.indexAt, asIntOf, ru hu, Instr.sureAddr, hc, rso hs]
    | _ => exact (fail_run hr).elim
  | slice elem =>
    cases x with
    | slice a len c2 =>
      cases a with
      | none => exact (fail_run hr).elim
      | some a =>
        simp only at hr
        obtain ⟨s, hs, hr⟩ := opt_run hr
        obtain ⟨hlt, hr⟩ := bif_run hr
        have hlt : n.toNat < len := by simpa using hlt
        cases hx with
        | plain hp => simp [plainV] at hp
        | slice hsl =>
        rename_i a' len' cap'
        obtain ⟨hl, hsl⟩ := hsl
        subst hl
        rcases hsl with ⟨_, hz, _⟩ | ⟨har, _⟩
        · omega
        refine ⟨_, .pointer (some (a'.add (n.toNat * s))), hr, ?_, .ptr (har.add _).1⟩
        have hc : 0 ≤ n ∧ n < (len : Int) := ⟨hn0, by omega⟩
        simp [Instr.indexAt, asIntOf, ru hu, hc, rso hs]
    | _ => exact (fail_run hr).elim
  | _ => exact (fail_run hr).elim

theorem fieldAddr_run {s : TypeId} {x x' : Value} {f : Nat} {k : Value → T} (hr : (fieldAddrA P s x f k).run h = .ok r) (hx : VRel β x x') :
    ∃ v v', (k v).run h = .ok r ∧ (Instr.fieldAt s x' f).run P w = .ok v' w ∧ VRel β v v' := by
  unfold fieldAddrA at hr
  cases hu : P.underlying s with
  | none => simp only [hu] at hr; exact (fail_run hr).elim
  | some d =>
  simp only [hu] at hr
  cases d with
  | struct fields =>
    cases x with
    | pointer a =>
      cases a with
      | none => exact (fail_run hr).elim
      | some a =>
        simp only at hr
        obtain ⟨fd, hf, hr⟩ := opt_run hr
        obtain ⟨n, hn, hr⟩ := opt_run hr
        obtain ⟨hz, hr⟩ := bif_run' hr
        have hz : n ≠ 0 := by simpa using hz
        cases hx with
        | plain hp => simp [plainV] at hp
        | ptr har =>
        rename_i a'
        refine ⟨_, .pointer (some (a'.add fd.offset)), hr, ?_, .ptr (har.add _).1⟩
        simp [Instr.fieldAt, ru hu, hf, Instr.sureAddr, fieldPlace, rso hn, hz]
    | _ => exact (fail_run hr).elim
  | _ => exact (fail_run hr).elim

theorem LRel.extract {x x' : Array Value} (hl : LRel β x.toList x'.toList) (i j : Nat) : LRel β (x.extract i j).toList (x'.extract i j).toList := by
  simp only [Array.toList_extract, List.extract_eq_drop_take']
  exact (hl.take j).drop i

theorem field_run {t : TypeId} {x x' : Value} {f : Nat} {k : Value → T} (hr : (fieldA P t x f k).run h = .ok r) (hx : VRel β x x') :
    ∃ v v', (k v).run h = .ok r ∧ (Instr.field t x' f).run P w = .ok v' w ∧ VRel β v v' := by
  unfold fieldA at hr
  cases hu : P.underlying t with
  | none => simp only [hu] at hr; exact (fail_run hr).elim
  | some d =>
  simp only [hu] at hr
  cases d with
  | struct fields =>
    cases x with
    | agg cs =>
      simp only at hr
      obtain ⟨fd, hf, hr⟩ := opt_run hr
      cases hx with
      | plain hp => simp [plainV] at hp
      | agg hl =>
      rename_i cs'
      cases hag : isAggT P fd.type with
      | none => simp only [hag] at hr; exact (fail_run hr).elim
      | some b =>
        cases b with
        | true =>
          simp only [hag] at hr
          obtain ⟨n, hn, hr⟩ := opt_run hr
          exact ⟨_, .agg (cs'.extract fd.offset (fd.offset + n)), hr, by simp [Instr.field, ru hu, hf, asAgg, part, ria hag, rso hn], .agg (hl.extract _ _)⟩
        | false =>
          simp only [hag] at hr
          obtain ⟨v, hv, hr⟩ := opt_run hr
          obtain ⟨v', h1, h2⟩ := hl.get (i := fd.offset) (v := v) (by simpa using hv)
          have h1 : cs'[fd.offset]? = some v' := by simpa using h1
          exact ⟨v, v', hr, by simp [Instr.field, ru hu, hf, asAgg, part, ria hag, h1], h2⟩
    | _ => exact (fail_run hr).elim
  | _ => exact (fail_run hr).elim

/-! ### building -/

theorem foldl_set_rel {off : Nat} : ∀ {l l' : List Value} (k : Nat) {c c' : Array Value}, LRel β l l' → LRel β c.toList c'.toList →
    LRel β ((l.zipIdx k).foldl (fun (cs : Array Value) (x : Value × Nat) => cs.setIfInBounds (off + x.2) x.1) c).toList ((l'.zipIdx k).foldl (fun (cs : Array Value) (x : Value × Nat) => cs.setIfInBounds (off + x.2) x.1) c').toList
  | _, _, k, c, c', .nil, hc => by simpa using hc
  | _, _, k, c, c', .cons hv ht, hc => by
    simp only [List.zipIdx_cons, List.foldl_cons]
    exact foldl_set_rel (k + 1) ht (by simpa using hc.set hv (off + k))

theorem foldl_set_size {off : Nat} : ∀ (l : List (Value × Nat)) (c : Array Value), (l.foldl (fun (cs : Array Value) (x : Value × Nat) => cs.setIfInBounds (off + x.2) x.1) c).size = c.size
  | [], c => rfl
  | a :: l, c => by simp only [List.foldl_cons]; rw [foldl_set_size l]; simp

def PartsRel (β : Inj) (p p' : List (Nat × Value)) : Prop := L2 (fun a b => a.1 = b.1 ∧ VRel β a.2 b.2) p p'

theorem fill_rel {place : Nat → Option (Nat × Nat)} : ∀ {p p' : List (Nat × Value)} {c c' cs : Array Value}, PartsRel β p p' → LRel β c.toList c'.toList → Instr.fill place c p = some cs →
    ∃ cs', Instr.fill place c' p' = some cs' ∧ LRel β cs.toList cs'.toList := by
  intro p p' c c' cs hp
  induction hp generalizing c c' with
  | nil => intro hc hf; simp only [Instr.fill, Option.some.injEq] at hf; subst hf; exact ⟨c', rfl, hc⟩
  | cons hx ht ih =>
    rename_i a b l l'
    obtain ⟨i, v⟩ := a
    obtain ⟨i', v'⟩ := b
    obtain ⟨e, hv⟩ := hx
    simp only at e hv
    subst e
    intro hc hf
    simp only [Instr.fill] at hf ⊢
    cases hpl : place i with
    | none => simp [hpl] at hf
    | some q =>
      obtain ⟨off, size⟩ := q
      simp only [hpl] at hf ⊢
      have hvc := hv.cells
      have hs : v'.cells.size = v.cells.size := by have := hvc.length; simpa using this.symm
      have hcs : c'.size = c.size := by have := hc.length; simpa using this.symm
      rw [hs, hcs]
      cases hcond : (decide (v.cells.size ≠ size) || decide (off + v.cells.size > c.size)) with
      | true => rw [hcond] at hf; simp at hf
      | false =>
        rw [hcond] at hf
        simp only [Bool.false_eq_true, if_false] at hf ⊢
        refine ih ?_ hf
        have := foldl_set_rel (β := β) (off := off) 0 hvc hc
        rw [← Array.foldl_toList, ← Array.foldl_toList, Array.toList_zipIdx, Array.toList_zipIdx]
        exact this

theorem build_run {t : TypeId} {parts parts' : Array (Nat × Value)} {k : Value → T} (hr : (buildA P t parts k).run h = .ok r) (hp : PartsRel β parts.toList parts'.toList) :
    ∃ v v', (k v).run h = .ok r ∧ (Instr.build t parts').run P w = .ok v' w ∧ VRel β v v' := by
  unfold buildA at hr
  obtain ⟨z, hz, hr⟩ := opt_run hr
  have hzr : LRel β z.cells.toList z.cells.toList := LRel.of_plain (still_cells (zeroOf_some hz).2)
  cases hu : P.underlying t with
  | none => simp only [hu] at hr; exact (fail_run hr).elim
  | some d =>
  simp only [hu] at hr
  cases d with
  | struct fields =>
    simp only at hr
    obtain ⟨places, hpl, hr⟩ := opt_run hr
    obtain ⟨cs, hf, hr⟩ := opt_run hr
    obtain ⟨cs', hf', hl⟩ := fill_rel hp hzr hf
    have := pureOf_run hpl w
    exact ⟨_, .agg cs', hr, by simp [Instr.build, rzv hz, ru hu]; simp at this; simp [this, hf'], .agg hl⟩
  | array n e =>
    simp only at hr
    obtain ⟨size, hs, hr⟩ := opt_run hr
    obtain ⟨cs, hf, hr⟩ := opt_run hr
    obtain ⟨cs', hf', hl⟩ := fill_rel hp hzr hf
    exact ⟨_, .agg cs', hr, by simp [Instr.build, rzv hz, ru hu, rso hs, hf'], .agg hl⟩
  | _ => exact (fail_run hr).elim

end Go.Proofs.YtfjaemckpmoomaaGreatDoor.Lane

namespace Go.Proofs.YtfjaemckpmoomaaGreatDoor.Lane
variable {P : Program} {β : Inj} {h : Tr Blk} {w : World} {r : U × Tr Blk}

theorem zeroCells_rel {e n : Nat} {z : Array Value} (hz : zeroCellsA P e n = some z) : LRel β ((Array.range n).map (z[· % z.size]!)).toList ((Array.range n).map (z[· % z.size]!)).toList := by
  have hp : ∀ v ∈ z.toList, plainV v = true := by
    unfold zeroCellsA at hz
    by_cases h0 : n = 0
    · rw [if_pos h0] at hz; injection hz with hz; subst hz; simp
    · rw [if_neg h0] at hz
      obtain ⟨y, hy, rfl⟩ := Option.map_eq_some_iff.1 hz
      exact still_cells (zeroOf_some hy).2
  refine LRel.of_plain fun v hv => ?_
  simp only [Array.toList_map, List.mem_map] at hv
  obtain ⟨j, _, rfl⟩ := hv
  by_cases hlt : j % z.size < z.size
  · rw [getElem!_pos z _ hlt]; exact hp _ (by simp)
  · rw [getElem!_neg z _ hlt]; rfl

theorem zeroCells_cases {e n : Nat} {z : Array Value} (hz : zeroCellsA P e n = some z) : (n = 0 ∧ z = #[]) ∨ (n ≠ 0 ∧ ∃ y, zeroOf P e = some y ∧ z = y.cells) := by
  unfold zeroCellsA at hz
  by_cases h0 : n = 0
  · rw [if_pos h0] at hz; injection hz with hz; exact .inl ⟨h0, hz.symm⟩
  · rw [if_neg h0] at hz
    obtain ⟨y, hy, rfl⟩ := Option.map_eq_some_iff.1 hz
    exact .inr ⟨h0, y, hy, rfl⟩

/-- A new row that a slice of its own leads to. -/
theorem slice_new {c len cap : Nat} {e : TypeId} {x x' : List Value} {k : Value → Nat → T} (hr : (T.nw c (.cells false true e x) (k (.slice (some ⟨c, 0, none⟩) len (2 * cap + 1)) (c + 1))).run h = .ok r)
    (hx : LRel β x x') (hH : HRel P β h w) (real : Array Value) (hreal : real.toList = x') {sv : Sem Value} (hs : sv.run P w = .ok (.slice (some ⟨w.heap.size, 0, none⟩) len cap) (w.alloc (.cells real e))) : VOK P β h w sv k r := by
  obtain ⟨hid, hfresh, hr⟩ := nw_run hr
  obtain ⟨m, hb, hm, _, _, hall⟩ := new_run (P := P) (et := e) (ex := true) (spare := []) hH hid hfresh hx (fun _ => rfl)
  obtain ⟨hle, h1, h2⟩ := hall real (by simpa using hreal)
  exact ⟨_, _, _, _, _, _, hr, hs, .slice ⟨rfl, .inr ⟨⟨rfl, rfl, idOk_pos hid, m, Inj.upd_same .., hm.symm, by simp [hb]⟩, fun _ => by omega, by omega, fun m hm e => by omega⟩⟩, ⟨h2, h1⟩⟩

theorem buildSlice_run {t : TypeId} {len c : Nat} {parts parts' : Array (Nat × Value)} {k : Value → Nat → T} (hr : (buildSliceA P t len parts c k).run h = .ok r) (hp : PartsRel β parts.toList parts'.toList) (hH : HRel P β h w) :
    VOK P β h w (Instr.buildSlice t len parts') k r := by
  unfold buildSliceA at hr
  cases hu : P.underlying t with
  | none => simp only [hu] at hr; exact (fail_run hr).elim
  | some d =>
  simp only [hu] at hr
  cases d with
  | slice e =>
    simp only at hr
    obtain ⟨size, hs, hr⟩ := opt_run hr
    obtain ⟨hle, hr⟩ := bif_run hr
    have hle : len * size ≤ 16777216 := by simpa using hle
    obtain ⟨z, hz, hr⟩ := opt_run hr
    obtain ⟨cs, hf, hr⟩ := opt_run hr
    obtain ⟨cs', hf', hl⟩ := fill_rel hp (zeroCells_rel (β := β) hz) hf
    refine slice_new (cap := len) hr hl hH cs' rfl ?_
    have hng : ¬ (16777216 < len * size) := by omega
    rcases zeroCells_cases hz with ⟨h0, rfl⟩ | ⟨h0, y, hy, rfl⟩
    · rw [h0] at hf'
      simp only [Instr.buildSlice, Sem.run_bind, ru hu, Result.andThen_ok, rso hs]
      rw [if_neg (by simpa using hle)]
      simp only [h0, if_true, Sem.run_pure, Result.andThen_ok, Sem.run_bind, hf', newRow, run_newObj]
      rfl
    · simp only [Instr.buildSlice, Sem.run_bind, ru hu, Result.andThen_ok, rso hs]
      rw [if_neg (by simpa using hle)]
      simp only [if_neg h0, Sem.run_pure, Result.andThen_ok, Sem.run_bind, rzv hy, hf', newRow, run_newObj]
      rfl
  | _ => exact (fail_run hr).elim

theorem wrap_small {n : Int} (h0 : 0 ≤ n) (h1 : n ≤ 1073741824) : IntKind.i64.wrap n = n := by
  simp [IntKind.wrap, IntKind.bits, IntKind.signed]; omega

theorem makeSlice_run {t : TypeId} {l l' cp cp' : Value} {c : Nat} {k : Value → Nat → T} (hr : (makeSliceA P t l cp c k).run h = .ok r) (hl : VRel β l l') (hc : VRel β cp cp') (hH : HRel P β h w) :
    VOK P β h w (Instr.makeSlice t l' cp') k r := by
  unfold makeSliceA at hr
  cases hu : P.underlying t with
  | none => simp only [hu] at hr; exact (fail_run hr).elim
  | some d =>
  simp only [hu] at hr
  cases d with
  | slice e =>
    simp only at hr
    obtain ⟨i, hi, hr⟩ := opt_run hr
    obtain ⟨ln, hln, hr⟩ := opt_run hr
    obtain ⟨cn, hcn, hr⟩ := opt_run hr
    obtain ⟨hle, hr⟩ := bif_run hr
    simp only [Bool.and_eq_true, decide_eq_true_eq] at hle
    obtain ⟨⟨h1, h2⟩, h3⟩ := hle
    obtain ⟨z, hz, hr⟩ := opt_run hr
    have e1 := natOf_eq hl hln
    have e2 := natOf_eq hc hcn
    subst e1; subst e2
    obtain ⟨kl, nl, rfl, hl0, rfl⟩ := natOf_some hln
    obtain ⟨kc, nc, rfl, hc0, rfl⟩ := natOf_some hcn
    have hwl := wrap_small hl0 (by omega)
    have hwc := wrap_small hc0 (by omega)
    have hbytes : (i.bytes : Int) * nc ≤ 281474976710656 := by
      have hb : (i.bytes : Int) ≤ 4096 := by omega
      calc (i.bytes : Int) * nc ≤ 4096 * nc := Int.mul_le_mul_of_nonneg_right hb hc0
        _ ≤ 281474976710656 := by omega
    refine slice_new hr (zeroCells_rel (β := β) hz) hH _ rfl ?_
    have hn1 : ¬ (nc < 0) := by omega
    have hn2 : ¬ (281474976710656 < (i.bytes : Int) * nc) := by omega
    have hn3 : ¬ (nl < 0) := by omega
    have hn4 : ¬ (nc < nl) := by omega
    have hso := rso (show sizeOfT P e = some i.size by simp [sizeOfT, hi])
    rcases zeroCells_cases hz with ⟨h0, rfl⟩ | ⟨h0, y, hy, rfl⟩
    · simp [Instr.makeSlice, ru hu, asInt, asIntOf, rti hi, hwl, hwc, hn1, hn2, hn3, hn4, hso, h0, newRow]
    · simp [Instr.makeSlice, ru hu, asInt, asIntOf, rti hi, hwl, hwc, hn1, hn2, hn3, hn4, hso, h0, rzv hy, newRow]
  | _ => exact (fail_run hr).elim

/-! ### maps -/

theorem pureOf_bind {α γ : Type} (s : Sem α) (f : α → Sem γ) : pureOf P (s >>= f) = (pureOf P s).bind fun a => pureOf P (f a) := by
  show pureOf P (s.bind f) = _
  induction s with
  | pure a => rfl
  | program k ih => exact ih P
  | mark m k ih => exact ih
  | _ => rfl

def Keys (es : List MapEntry) (es' : List MapEntry) : Prop := L2 (fun a b => a.key = b.key) es es'

def atKey (es : List MapEntry) (i : Nat) : Option (Nat × Value) → Option (Nat × Value)
  | none => none
  | some (j, _) => (es[j - i]?).map fun e => (j, e.val)

theorem findNow_rel {kind : TypeDesc} {k : Value} : ∀ {es es' : List MapEntry} (i : Nat), Keys es es' → ∀ {q : Option (Nat × Value)}, Instr.findNow kind k es i = some q →
    Instr.findNow kind k es' i = some (atKey es' i q) ∧ (∀ j v, q = some (j, v) → i ≤ j ∧ j - i < es.length) := by
  intro es es' i hk
  induction hk generalizing i with
  | nil => intro q hq; simp only [Instr.findNow, Option.some.injEq] at hq; subst hq; exact ⟨rfl, by simp⟩
  | cons hx ht ih =>
    rename_i a b l l'
    intro q hq
    simp only [Instr.findNow] at hq ⊢
    rw [← hx]
    cases hs : Instr.sameNow kind k a.key with
    | none => simp [hs] at hq
    | some t =>
      cases t with
      | true =>
        simp only [hs, Option.some.injEq] at hq ⊢; subst hq
        exact ⟨by simp [atKey], fun j v e => by simp only [Option.some.injEq, Prod.mk.injEq] at e; obtain ⟨rfl, _⟩ := e; simp⟩
      | false =>
        simp only [hs] at hq ⊢
        obtain ⟨h1, h2⟩ := ih (i + 1) hq
        refine ⟨?_, fun j v e => ?_⟩
        · rw [h1]
          cases q with
          | none => rfl
          | some p =>
            obtain ⟨j, v⟩ := p
            obtain ⟨h3, h4⟩ := h2 j v rfl
            have : j - i = (j - (i + 1)) + 1 := by omega
            simp [atKey, this]
        · obtain ⟨h3, h4⟩ := h2 j v e; simp only [List.length_cons]; omega

theorem findNow_none {kind : TypeDesc} {k : Value} : ∀ {es es' : List MapEntry} (i : Nat), Keys es es' → Instr.findNow kind k es i = none → Instr.findNow kind k es' i = none := by
  intro es es' i hk
  induction hk generalizing i with
  | nil => intro hq; simp [Instr.findNow] at hq
  | cons hx ht ih =>
    rename_i a b l l'
    intro hq
    simp only [Instr.findNow] at hq ⊢
    rw [← hx]
    cases hs : Instr.sameNow kind k a.key with
    | none => rfl
    | some t =>
      cases t with
      | true => simp [hs] at hq
      | false => simp only [hs] at hq ⊢; exact ih (i + 1) hq

theorem findAsking_rel {keyT : TypeId} {k : Value} : ∀ {es es' : List MapEntry} (i : Nat), Keys es es' → ∀ {q : Option (Nat × Value)}, pureOf P (Instr.findAsking keyT k es i) = some q →
    pureOf P (Instr.findAsking keyT k es' i) = some (atKey es' i q) ∧ (∀ j v, q = some (j, v) → i ≤ j ∧ j - i < es.length) := by
  intro es es' i hk
  induction hk generalizing i with
  | nil => intro q hq; simp only [Instr.findAsking] at hq; cases hq; exact ⟨rfl, by simp⟩
  | cons hx ht ih =>
    rename_i a b l l'
    intro q hq
    simp only [Instr.findAsking, pureOf_bind] at hq ⊢
    rw [← hx]
    cases hs : pureOf P (Op.equal keyT k a.key) with
    | none => simp [hs] at hq
    | some t =>
      simp only [hs, Option.bind_some] at hq ⊢
      cases t with
      | true =>
        simp only [if_true] at hq ⊢
        cases hq
        exact ⟨by simp [atKey, pureOf, pure], fun j v e => by simp only [Option.some.injEq, Prod.mk.injEq] at e; obtain ⟨rfl, _⟩ := e; simp⟩
      | false =>
        simp only [Bool.false_eq_true, if_false] at hq ⊢
        obtain ⟨h1, h2⟩ := ih (i + 1) hq
        refine ⟨?_, fun j v e => ?_⟩
        · rw [h1]
          cases q with
          | none => rfl
          | some p =>
            obtain ⟨j, v⟩ := p
            obtain ⟨h3, h4⟩ := h2 j v rfl
            have : j - i = (j - (i + 1)) + 1 := by omega
            simp [atKey, this]
        · obtain ⟨h3, h4⟩ := h2 j v e; simp only [List.length_cons]; omega

theorem findKey_rel {keyT : TypeId} {k : Value} {es es' : List MapEntry} (hk : Keys es es') {q : Option (Nat × Value)} (hq : pureOf P (Instr.findKey keyT k es) = some q) :
    (Instr.findKey keyT k es').run P w = .ok (atKey es' 0 q) w ∧ (∀ j v, q = some (j, v) → j < es.length) := by
  have : pureOf P (Instr.findKey keyT k es') = some (atKey es' 0 q) ∧ (∀ j v, q = some (j, v) → 0 ≤ j ∧ j - 0 < es.length) := by
    simp only [Instr.findKey, pureOf_bind] at hq ⊢
    cases hu : pureOf P (underlying keyT) with
    | none => simp [hu] at hq
    | some d =>
      simp only [hu, Option.bind_some] at hq ⊢
      cases hf : Instr.findNow d k es 0 with
      | some p =>
        simp only [hf] at hq
        cases hq
        obtain ⟨h1, h2⟩ := findNow_rel 0 hk hf
        simp only [h1]
        exact ⟨rfl, h2⟩
      | none =>
        simp only [hf] at hq
        simp only [findNow_none 0 hk hf]
        exact findAsking_rel 0 hk hq
  exact ⟨pureOf_run this.1 w, fun j v e => by have := (this.2 j v e).2; omega⟩

theorem keys_of {es : List (Value × Value)} {ents : List MapEntry} (he : L2 (ERel β) es ents) : Keys (keyEntries es) ents := by
  induction he with
  | nil => exact .nil
  | cons hx _ ih => exact .cons hx.1.symm ih

theorem L2.get {α α' : Type} {R : α → α' → Prop} {l : List α} {l' : List α'} (hl : L2 R l l') : ∀ {i : Nat} {a : α}, l[i]? = some a → ∃ a', l'[i]? = some a' ∧ R a a' := by
  induction hl with
  | nil => intro i a h; simp at h
  | cons hx _ ih =>
    intro i a h
    cases i with
    | zero => simp at h; subst h; exact ⟨_, rfl, hx⟩
    | succ i => simpa using ih (by simpa using h)

theorem L2.set {α α' : Type} {R : α → α' → Prop} {l : List α} {l' : List α'} (hl : L2 R l l') {a : α} {a' : α'} (ha : R a a') : ∀ i, L2 R (l.set i a) (l'.set i a') := by
  induction hl with
  | nil => intro i; simpa using L2.nil
  | cons hx ht ih =>
    intro i
    cases i with
    | zero => exact .cons ha ht
    | succ i => simpa using L2.cons hx (ih i)

theorem getObj_run {b : Nat} {o : Obj} (ho : w.heap[b]? = some o) (hc : ∀ c e f, o ≠ .cells c e f) : (getObj b).run P w = .ok o w := by
  cases o <;> first | exact absurd rfl (hc _ _ _) | simp only [getObj, Sem.run, ho]

theorem setObj_run {b : Nat} {o o1 : Obj} (ho : w.heap[b]? = some o) (hc : ∀ c e f, o ≠ .cells c e f) : (setObj b o1).run P w = .ok () { w with heap := w.heap.setIfInBounds b o1 } := by
  cases o <;> first | exact absurd rfl (hc _ _ _) | simp only [setObj, Sem.run, ho]

theorem ok_rel {b ok : Bool} {v v' : Value} (hv : VRel β v v') : VRel β (if ok then .tuple #[v, .bool b] else v) (if ok then .tuple #[v', .bool b] else v') := by
  cases ok
  · exact hv
  · exact .tuple (.cons hv (.cons (.plain rfl) .nil))

theorem lookupIn_run {keyT elem : TypeId} {key : Value} {ok : Bool} {es : List (Value × Value)} {k : Value → T} (hr : (lookupIn P keyT elem key ok es k).run h = .ok r) {ents : Array MapEntry} (he : L2 (ERel β) es ents.toList) :
    flat key = true ∧ ∃ v v', (k v).run h = .ok r ∧ VRel β v v' ∧ (do
      Instr.checkKey ents.isEmpty 10000 keyT key
      let (v, o) ← match ← Instr.findKey keyT key ents.toList with
        | some (_, v) => pure (v, true)
        | none => pure (← zeroValue elem, false)
      pure (if ok then .tuple #[v, .bool o] else v) : Sem Value).run P w = .ok v' w := by
  unfold lookupIn at hr
  obtain ⟨hf, hr⟩ := ite_run hr
  obtain ⟨u, hck, hr⟩ := opt_run hr
  obtain ⟨q, hq, hr⟩ := opt_run hr
  refine ⟨hf, ?_⟩
  have hemp : ents.isEmpty = es.isEmpty := by
    have := he.length
    cases es with
    | nil =>
      have h1 : ents.size = 0 := by rw [← Array.length_toList, ← this]; rfl
      simp only [List.isEmpty_nil, Array.isEmpty, decide_eq_true_eq]; exact h1
    | cons a l =>
      have h1 : ents.size ≠ 0 := by rw [← Array.length_toList, ← this]; simp
      simp only [List.isEmpty_cons, Array.isEmpty, decide_eq_false_iff_not]; exact h1
  have hck' := pureOf_run hck w
  obtain ⟨hfind, hlt⟩ := findKey_rel (P := P) (w := w) (keys_of he) hq
  cases q with
  | none =>
    simp only at hr
    obtain ⟨z, hz, hr⟩ := opt_run hr
    refine ⟨_, _, hr, ok_rel (still_rel (zeroOf_some hz).2), ?_⟩
    simp only [hemp, Sem.run_bind, hck', Result.andThen_ok, hfind, atKey, rzv hz, Sem.run_pure]
  | some p =>
    obtain ⟨i, pv⟩ := p
    simp only at hr
    obtain ⟨e, hei, hr⟩ := opt_run hr
    obtain ⟨e', h1, h2⟩ := he.get hei
    refine ⟨_, _, hr, ok_rel h2.2.2, ?_⟩
    have : atKey ents.toList 0 (some (i, pv)) = some (i, e'.val) := by simp only [atKey, Nat.sub_zero, h1, Option.map_some]
    simp only [hemp, Sem.run_bind, hck', Result.andThen_ok, hfind, this, Sem.run_pure]

theorem lookup_run {t : TypeId} {x x' key key' : Value} {ok : Bool} {k : Value → T} (hr : (lookupA P t x key ok k).run h = .ok r) (hx : VRel β x x') (hk : VRel β key key') (hH : HRel P β h w) :
    ∃ v v', (k v).run h = .ok r ∧ (Instr.lookup t x' key' ok).run P w = .ok v' w ∧ VRel β v v' := by
  unfold lookupA at hr
  cases hu : P.underlying t with
  | none => simp only [hu] at hr; exact (fail_run hr).elim
  | some d =>
  simp only [hu] at hr
  cases d with
  | map keyT elem =>
    cases x with
    | map m =>
      cases m with
      | none =>
        simp only at hr
        obtain ⟨hf, v, v', hk2, hv, hrun⟩ := lookupIn_run (w := w) (ents := #[]) hr .nil
        have e1 := hk.flat_eq hf
        have e2 := hx.plain_eq rfl
        subst e1; subst e2
        exact ⟨v, v', hk2, by simp only [Instr.lookup, Sem.run_bind, ru hu, Result.andThen_ok, Sem.run_pure] at hrun ⊢; exact hrun, hv⟩
      | some rr =>
        simp only at hr
        obtain ⟨b, hb, hr⟩ := rd_run hr
        cases b with
        | map es =>
          obtain ⟨m, ents, clock, hm, hm0, hheap, he⟩ := hH.blk _ _ hb
          simp only at hr
          obtain ⟨hf, v, v', hk2, hv, hrun⟩ := lookupIn_run (w := w) (ents := ents) hr he
          have e1 := hk.flat_eq hf
          subst e1
          cases hx with
          | plain hp => simp [plainV] at hp
          | map hm2 =>
          rw [hm] at hm2; injection hm2 with hm2; subst hm2
          have hg := getObj_run (P := P) hheap (by intros; simp)
          exact ⟨v, v', hk2, by simp only [Instr.lookup, Sem.run_bind, ru hu, Result.andThen_ok, Sem.run_pure, hg] at hrun ⊢; exact hrun, hv⟩
        | _ => exact (fail_run hr).elim
    | _ => exact (fail_run hr).elim
  | _ => exact (fail_run hr).elim

theorem update_run {t : TypeId} {x x' key key' v v' : Value} {k : T} (hr : (updateA P t x key v k).run h = .ok r) (hx : VRel β x x') (hk : VRel β key key') (hv : VRel β v v') (hH : HRel P β h w) :
    ∃ h1 w1, k.run h1 = .ok r ∧ (Instr.mapUpdate t x' key' v').run P w = .ok () w1 ∧ Went P β h w β h1 w1 := by
  unfold updateA at hr
  cases hu : P.underlying t with
  | none => simp only [hu] at hr; exact (fail_run hr).elim
  | some d =>
  simp only [hu] at hr
  cases d with
  | map keyT elem =>
    cases x with
    | map m =>
      cases m with
      | none => exact (fail_run hr).elim
      | some rr =>
        simp only at hr
        obtain ⟨b, hb, hr⟩ := rd_run hr
        cases b with
        | map es =>
          obtain ⟨m, ents, clock, hm, hm0, hheap, he⟩ := hH.blk _ _ hb
          simp only at hr
          obtain ⟨hf, hr⟩ := ite_run hr
          obtain ⟨u, hck, hr⟩ := opt_run hr
          obtain ⟨q, hq, hr⟩ := opt_run hr
          have e1 := hk.flat_eq hf
          subst e1
          cases hx with
          | plain hp => simp [plainV] at hp
          | map hm2 =>
          rw [hm] at hm2; injection hm2 with hm2; subst hm2
          have hg := getObj_run (P := P) hheap (by intros; simp)
          have hck' := pureOf_run hck w
          obtain ⟨hfind, hlt⟩ := findKey_rel (P := P) (w := w) (keys_of he) hq
          have hsz : m.blk < w.heap.size := hH.bound _ _ hm
          have upd : ∀ (es2 : List (Value × Value)) (ents2 : Array MapEntry) (clock2 : Nat), idOk rr = true → L2 (ERel β) es2 ents2.toList →
              Went P β h w β (h.set width rr (.map es2)) { w with heap := w.heap.setIfInBounds m.blk (.map ents2 clock2) } := fun es2 ents2 clock2 hid hl => by
            have hat : ({ w with heap := w.heap.setIfInBounds m.blk (.map ents2 clock2) } : World).heap[m.blk]? = some (.map ents2 clock2) := by
              show (w.heap.setIfInBounds m.blk (.map ents2 clock2))[m.blk]? = _
              simp [hsz]
            obtain ⟨g1, g2⟩ := hH.update (w' := { w with heap := w.heap.setIfInBounds m.blk (.map ents2 clock2) }) (x' := .map es2) hid hb rfl hm (by simp) (fun b' hb' => by
              show (w.heap.setIfInBounds m.blk (.map ents2 clock2))[b']? = _
              rw [Array.getElem?_setIfInBounds_ne (Ne.symm hb')]) ⟨m, ents2, clock2, hm, hm0, hat, hl⟩ rfl rfl rfl
            exact ⟨g2, g1⟩
          cases q with
          | none =>
            simp only at hr
            obtain ⟨hid, _, hr⟩ := wr_run hr
            refine ⟨_, _, hr, ?_, upd (es ++ [(key', v)]) (ents.push { key := key', val := v', born := clock }) (clock + 1) hid (by simpa using he.append (.cons ⟨rfl, hf, hv⟩ .nil))⟩
            simp only [Instr.mapUpdate, Sem.run_bind, ru hu, Result.andThen_ok, hg, hck', hfind, atKey]
            exact setObj_run hheap (by intros; simp)
          | some p =>
            obtain ⟨i, pv⟩ := p
            simp only at hr
            obtain ⟨e, hei, hr⟩ := opt_run hr
            obtain ⟨hsb, hr⟩ := ite_run hr
            obtain ⟨hid, _, hr⟩ := wr_run hr
            obtain ⟨e', h1, h2⟩ := he.get hei
            have hat : atKey ents.toList 0 (some (i, pv)) = some (i, e'.val) := by simp only [atKey, Nat.sub_zero, h1, Option.map_some]
            have h1' : ents[i]? = some e' := by simpa using h1
            refine ⟨_, _, hr, ?_, upd (es.set i (key', v)) (ents.modify i fun e => { e with key := key', val := v' }) clock hid ?_⟩
            · simp only [Instr.mapUpdate, Sem.run_bind, ru hu, Result.andThen_ok, hg, hck', hfind, hat, h1', Option.map_some, Option.getD_some, Instr.keyThatStays]
              rw [h2.1, if_pos hsb]
              simp only [Sem.run_pure, Result.andThen_ok]
              exact setObj_run hheap (by intros; simp)
            · have hlist : (ents.modify i fun e => { e with key := key', val := v' }).toList = ents.toList.set i { e' with key := key', val := v' } := by
                have hlt : i < ents.size := by
                  rcases Nat.lt_or_ge i ents.size with q | q
                  · exact q
                  · rw [Array.getElem?_eq_none q] at h1'; cases h1'
                have he' : ents[i] = e' := by rw [Array.getElem?_eq_getElem hlt] at h1'; injection h1'
                apply List.ext_getElem?
                intro j
                rw [Array.getElem?_toList, Array.getElem?_modify, List.getElem?_set]
                by_cases hj : i = j
                · subst hj; simp [hlt, he']
                · simp [hj]
              rw [hlist]
              exact he.set ⟨rfl, hf, hv⟩ i
        | _ => exact (fail_run hr).elim
    | _ => exact (fail_run hr).elim
  | _ => exact (fail_run hr).elim

end Go.Proofs.YtfjaemckpmoomaaGreatDoor.Lane

namespace Go.Proofs.YtfjaemckpmoomaaGreatDoor.Lane
variable {P : Program} {β : Inj} {h : Tr Blk} {w : World} {r : U × Tr Blk}

theorem alloc_at (o : Obj) : (w.alloc o).heap[w.heap.size]? = some o := Array.getElem?_push_size

/-! ### bytes -/

theorem byteOf_some {v : Value} {b : UInt8} (hv : byteOf v = some b) : ∃ n : Int, v = .int .u8 n ∧ 0 ≤ n ∧ n < 256 ∧ b = UInt8.ofNat n.toNat := by
  cases v with
  | int k n =>
    cases k with
    | u8 =>
      simp only [byteOf] at hv
      by_cases hc : 0 ≤ n ∧ n < 256
      · rw [if_pos hc] at hv; injection hv with hv; exact ⟨n, rfl, hc.1, hc.2, hv.symm⟩
      · rw [if_neg hc] at hv; cases hv
    | _ => simp [byteOf] at hv
  | _ => simp [byteOf] at hv

theorem bytesOf_some : ∀ {l : List Value} {bs : List UInt8}, bytesOf l = some bs → l = bs.map fun b => Value.int .u8 b.toNat
  | [], bs, hb => by simp [bytesOf] at hb; subst hb; rfl
  | v :: l, bs, hb => by
    simp only [bytesOf] at hb
    cases h1 : byteOf v with
    | none => simp [h1] at hb
    | some b =>
      cases h2 : bytesOf l with
      | none => simp [h1, h2] at hb
      | some r =>
        simp only [h1, h2, Option.some.injEq] at hb
        subst hb
        obtain ⟨n, rfl, h3, h4, rfl⟩ := byteOf_some h1
        simp only [List.map_cons]
        rw [← bytesOf_some h2]
        congr 2
        simp; omega

theorem bytes_plain {bs : List UInt8} : ∀ v ∈ bs.map (fun b => Value.int .u8 b.toNat), plainV v = true := by
  intro v hv; simp only [List.mem_map] at hv; obtain ⟨b, _, rfl⟩ := hv; rfl

theorem foldl_push : ∀ (bs : List UInt8) (acc : ByteArray), (bs.map fun b => (b.toNat : Int)).foldl (fun r n => r.push (UInt8.ofNat n.toNat)) acc = ⟨acc.data ++ bs.toArray⟩
  | [], acc => by simp
  | b :: bs, acc => by
    simp only [List.map_cons, List.foldl_cons]
    rw [foldl_push bs]
    apply ByteArray.ext
    simp [ByteArray.push]

/-! ### freezing -/

theorem freeze_heap {b : Nat} {real : Array Value} {et : TypeId} {fz : Nat × Nat} {o n : Nat} (hh : w.heap[b]? = some (.cells real et fz)) (hn : n ≠ 0) :
    ∃ fz', (w.freeze ⟨b, o, none⟩ n).heap[b]? = some (.cells real et fz') ∧ (∀ b', b' ≠ b → (w.freeze ⟨b, o, none⟩ n).heap[b']? = w.heap[b']?) ∧ (w.freeze ⟨b, o, none⟩ n).heap.size = w.heap.size ∧
      (w.freeze ⟨b, o, none⟩ n).tape = w.tape ∧ (w.freeze ⟨b, o, none⟩ n).os = w.os ∧ (w.freeze ⟨b, o, none⟩ n).output = w.output ∧ (fz = (0, 0) → fz' = (o, o + n)) := by
  unfold World.freeze
  rw [if_neg hn]
  refine ⟨_, by simp only [Array.getElem?_modify, hh, if_true, Option.map_some]; rfl, fun b' hb => ?_, by simp, rfl, rfl, rfl, fun e => by subst e; simp⟩
  simp [Array.getElem?_modify, hb.symm]

/-! ### conversions -/

theorem conv_bytes_run {s d e : TypeId} {base : Option Addr} {n c2 c : Nat} {x' : Value} {k : Value → Nat → T} (hs : P.underlying s = some (.slice e)) (he : P.underlying e = some (.int .u8)) (hd : P.underlying d = some .string)
    (hr : (match base with
      | none => k (.string ByteArray.empty) c
      | some ad => bif n == 0 then k (.string ByteArray.empty) c else
          rdCells ad.block fun _ _ _ cs => opt "conv: slab" (slab cs ad.off n) fun x => opt "conv: bytes" (bytesOf x) fun bs => k (.string ⟨bs.toArray⟩) c).run h = .ok r)
    (hx : VRel β (.slice base n c2) x') (hH : HRel P β h w) : VOK P β h w (convert s d x') k r := by
  cases base with
  | none =>
    cases hx with
    | plain hp => exact .here hr (by rw [run_convert_bytes_string w s d e _ _ _ hs he hd]; rfl) (.plain rfl) hH
  | some ad =>
    cases hx with
    | plain hp => simp [plainV] at hp
    | slice hsl =>
    rename_i a' n' cap'
    obtain ⟨hl, hsl⟩ := hsl
    subst hl
    have hconv := run_convert_bytes_string w s d e (some a') n cap' hs he hd
    simp only at hr
    cases h0 : (n == 0) with
    | true =>
      simp only [h0, cond_true] at hr
      have h0 : n = 0 := by simpa using h0
      subst h0
      refine .here hr ?_ (.plain rfl) hH
      rw [hconv]
      have := run_bytesToString (P := P) w a' 0 cap' [] (by simp [loadCells, loadCellsFrom])
      rw [this]; rfl
    | false =>
      have h0 : n ≠ 0 := by simpa using h0
      simp only [show (n == 0) = false by simpa using h0, cond_false] at hr
      obtain ⟨ro, ex, et, cs, hg, hr⟩ := rdCells_run hr
      obtain ⟨x, hx, hr⟩ := opt_run hr
      obtain ⟨bs, hb, hr⟩ := opt_run hr
      rcases hsl with ⟨rfl, hz, _⟩ | ⟨har, _⟩
      · exact absurd hz h0
      obtain ⟨_, hs', _, m, hm, hbk, ho⟩ := har
      obtain ⟨m2, real, fz, hm2, hheap, hsz, hlen, hes, hexx, hcell, hfr⟩ := hH.blk _ _ hg
      rw [hm] at hm2; injection hm2 with hm2; subst hm2
      obtain ⟨ab, ao, asp⟩ := a'
      simp only at hs' hbk ho
      subst hs'; subst hbk; subst ho
      obtain ⟨x', h1, h2, h3⟩ := slab_real hcell hx
      have hxb := bytesOf_some hb
      have hx' : x' = x := h1.plain_eq (by rw [hxb]; exact bytes_plain)
      refine .here hr ?_ (.plain rfl) hH
      rw [hconv]
      have hl := run_loadRow (P := P) (w := w) (o := m.base + ad.off) hheap h3
      rw [h2] at hl
      rw [run_bytesToString (P := P) w _ n cap' (bs.map fun b => (b.toNat : Int)) (by rw [hl, hx', hxb]; simp)]
      rw [foldl_push]
      simp

theorem conv_string_run {s d e : TypeId} {st : ByteArray} {c : Nat} {k : Value → Nat → T} (hs : P.underlying s = some .string) (hd : P.underlying d = some (.slice e)) (he : P.underlying e = some (.int .u8)) (_h0 : st.size ≠ 0)
    (hsz : sizeOfT P e = some 1)
    (hr : (T.nw c (.cells false false e (st.data.toList.map fun b => .int .u8 b.toNat)) (k (.slice (some ⟨c, 0, none⟩) st.size (2 * st.size)) (c + 1))).run h = .ok r)
    (hH : HRel P β h w) : VOK P β h w (convert s d (.string st)) k r := by
  obtain ⟨hid, hfresh, hr⟩ := nw_run hr
  have hcut : ∃ cap, st.size ≤ cap ∧ (choose (.appendCap st.size 0 e)).run P w = .ok cap w.drew := by
    refine ⟨(Question.appendCap st.size 0 e).cut (w.tape w.drawn (.appendCap st.size 0 e)), by simp only [Question.cut]; omega, by simp [Question.forced]⟩
  obtain ⟨cap, hcap, hch⟩ := hcut
  let real : Array Value := st.data.map (fun b => Value.int .u8 b.toNat) ++ Array.replicate (cap - st.size) (.int .u8 0)
  have hrsz : real.size = cap := by
    have : st.data.size = st.size := rfl
    simp [real, this]; omega
  -- the world behind
  have hw1 : ((w.drew.alloc (.cells real e)).freeze ⟨w.heap.size, cap, none⟩ 1) = w.drew.alloc (.cells real e (cap, cap + 1)) := by
    unfold World.freeze
    rw [if_neg (by decide)]
    unfold World.alloc
    simp only
    congr 1
    apply Array.ext_getElem?
    intro j
    simp only [Array.getElem?_modify, Array.getElem?_push, World.size_drew]
    by_cases hj : w.heap.size = j
    · subst hj; simp
    · have : ¬ j = w.heap.size := fun e => hj e.symm
      simp [hj, this]
  have hrun : (convert s d (.string st)).run P w = .ok (.slice (some ⟨w.heap.size, 0, none⟩) st.size cap) (w.drew.alloc (.cells real e (cap, cap + 1))) := by
    rw [← hw1]
    simp only [convert, Sem.run_bind, ru hs, ru hd, ru he, Result.andThen_ok, Conv.stringToBytes, hch, newRow, run_newObj, Sem.run_pure, markStringish, run_shape]
    have hsh : (w.drew.alloc (.cells real e)).shape? w.heap.size = some (e, real.size) :=
      shape_of (fz := (0, 0)) (alloc_at (w := w.drew) _)
    simp only [World.alloc_eq, World.size_drew]
    show ((match (w.drew.alloc (.cells real e)).shape? w.heap.size with | some (_, n) => _ | _ => _ : Sem Unit).run P _).andThen _ = _
    rw [hsh]
    simp [hrsz]
    rfl
  have hce : P.cellsOf e = 1 := by
    simp only [sizeOfT, Option.map_eq_some_iff] at hsz
    obtain ⟨i, hi, h1⟩ := hsz
    rw [cellsOf_info hi, h1]
  have hlen : (st.data.toList.map fun b => Value.int .u8 (b.toNat : Int)).length = st.size := by rw [List.length_map]; rfl
  have hcell : ∀ (j : Nat) v, (st.data.toList.map fun b => Value.int .u8 (b.toNat : Int))[j]? = some v → ∃ v', real[0 + j]? = some v' ∧ VRel (β.upd c ⟨w.heap.size, 0, cap, 1⟩) v v' := by
    intro j v hv
    refine ⟨v, ?_, .plain (bytes_plain v (List.mem_of_getElem? hv))⟩
    rw [Nat.zero_add, ← Array.getElem?_toList]
    simp only [real, Array.toList_append, Array.toList_map]
    rw [List.getElem?_append_left]
    · exact hv
    · rcases Nat.lt_or_ge j (st.data.toList.map fun b => Value.int .u8 (b.toNat : Int)).length with q | q
      · exact q
      · rw [List.getElem?_eq_none q] at hv; cases hv
  have hB : BRel (β.upd c ⟨w.heap.size, 0, cap, 1⟩) P (w.drew.alloc (.cells real e (cap, cap + 1))) c (.cells false false e (st.data.toList.map fun b => .int .u8 b.toNat)) := by
    refine ⟨⟨w.heap.size, 0, cap, 1⟩, real, (cap, cap + 1), Inj.upd_same .., ?_, ?_, ?_, hce.symm, ?_, hcell, ?_⟩
    · exact alloc_at (w := w.drew) _
    · simp [hrsz]
    · rw [hlen]; exact hcap
    · intro e; cases e
    · intro _ j _ h2; simp only; omega
  obtain ⟨hle, g1, g2⟩ := hH.drew.fresh (m := ⟨w.heap.size, 0, cap, 1⟩) hid hfresh rfl hB
  refine ⟨_, _, _, _, _, _, hr, hrun, .slice ⟨rfl, .inr ⟨⟨rfl, rfl, idOk_pos hid, ⟨w.heap.size, 0, cap, 1⟩, Inj.upd_same .., rfl, by simp⟩, by omega, by omega, ?_⟩⟩, ⟨(Went.drew hH).ext.trans g2, g1⟩⟩
  intro m hm _
  rw [Inj.upd_same] at hm; injection hm with hm; subst hm
  simp

theorem cell_shape {a a' : Addr} {ro ex : Bool} {et : TypeId} {cs : List Value} (har : ARel β a a') (hg : h.get a.block = some (.cells ro ex et cs)) (hH : HRel P β h w) :
    ∃ n, w.shape? a'.block = some (et, n) ∧ a'.off + (cs.length - a.off) ≤ n + (a.off - cs.length) ∧ a'.spot = none ∧ (ex = true → n = cs.length ∧ a'.off = a.off) := by
  obtain ⟨_, hs', _, m, hm, hbk, ho⟩ := har
  obtain ⟨m2, real, fz, hm2, hheap, hsz, hlen, hes, hexx, hcell, hfr⟩ := hH.blk _ _ hg
  rw [hm] at hm2; injection hm2 with hm2; subst hm2
  refine ⟨real.size, by rw [hbk]; exact shape_of hheap, by omega, hs', fun e => ?_⟩
  obtain ⟨e1, e2⟩ := hexx e
  omega

theorem seenAt_run {a : Addr} {e n : Nat} (hs : w.shape? a.block = some (e, n)) : (Conv.seenAt a).run P w = .ok a w := by
  simp [Conv.seenAt, viewAt, hs]

theorem convert_run {s d : TypeId} {x x' : Value} {c : Nat} {k : Value → Nat → T} (hr : (convertA P s d x c k).run h = .ok r) (hx : VRel β x x') (hH : HRel P β h w) :
    VOK P β h w (convert s d x') k r := by
  unfold convertA at hr
  cases x with
  | slice base n c2 =>
    simp only at hr
    cases hs : P.underlying s with
    | none => simp only [hs] at hr; exact (fail_run hr).elim
    | some ds =>
    cases hd : P.underlying d with
    | none => simp only [hs, hd] at hr; cases ds <;> exact (fail_run hr).elim
    | some dd =>
    simp only [hs, hd] at hr
    cases ds with
    | slice e =>
      cases dd with
      | string =>
        simp only at hr
        cases he : P.underlying e with
        | none => simp only [he] at hr; exact (fail_run hr).elim
        | some de =>
          simp only [he] at hr
          cases de with
          | int kk =>
            cases kk with
            | u8 =>
              refine conv_bytes_run (c := c) hs he hd (base := base) ?_ hx hH
              cases base <;> exact hr
            | _ => exact (fail_run hr).elim
          | _ => exact (fail_run hr).elim
      | _ => exact (fail_run hr).elim
    | _ => exact (fail_run hr).elim
  | string st =>
    simp only at hr
    have := hx.plain_eq rfl
    subst this
    cases hs : P.underlying s with
    | none => simp only [hs] at hr; exact (fail_run hr).elim
    | some ds =>
    cases hd : P.underlying d with
    | none => simp only [hs, hd] at hr; cases ds <;> exact (fail_run hr).elim
    | some dd =>
    simp only [hs, hd] at hr
    cases ds with
    | string =>
      cases dd with
      | string =>
        simp only at hr
        exact .here hr (by simp [convert, ru hs, ru hd]) (.plain rfl) hH
      | slice e =>
        simp only at hr
        cases he : P.underlying e with
        | none => simp only [he] at hr; exact (fail_run hr).elim
        | some de =>
          simp only [he] at hr
          cases de with
          | int kk =>
            cases kk with
            | u8 =>
              simp only at hr
              obtain ⟨hc, hr⟩ := bif_run' hr
              simp only [Bool.or_eq_false_iff, beq_eq_false_iff_ne, Bool.not_eq_false', beq_iff_eq] at hc
              exact conv_string_run hs hd he hc.1.1 hc.1.2 hr hH
            | _ => exact (fail_run hr).elim
          | _ => exact (fail_run hr).elim
      | _ => exact (fail_run hr).elim
    | _ => exact (fail_run hr).elim
  | pointer a =>
    cases a with
    | none =>
      simp only at hr
      have := hx.plain_eq rfl
      subst this
      cases hs : P.underlying s with
      | none => simp only [hs] at hr; exact (fail_run hr).elim
      | some ds =>
      cases hd : P.underlying d with
      | none => simp only [hs, hd] at hr; cases ds <;> exact (fail_run hr).elim
      | some dd =>
      simp only [hs, hd] at hr
      cases ds <;> cases dd <;> first
        | exact (fail_run hr).elim
        | exact .here hr (by simp [convert, Conv.unsafePointer, ru hs, ru hd]) (.plain rfl) hH
    | some ad =>
      simp only at hr
      cases hx with
      | plain hp => simp [plainV] at hp
      | ptr har =>
      rename_i a'
      cases hs : P.underlying s with
      | none => simp only [hs] at hr; exact (fail_run hr).elim
      | some ds =>
      cases hd : P.underlying d with
      | none => simp only [hs, hd] at hr; cases ds <;> exact (fail_run hr).elim
      | some dd =>
      simp only [hs, hd] at hr
      cases ds <;> cases dd <;> first
        | exact (fail_run hr).elim
        | skip
      · -- back
        rename_i u
        simp only at hr
        obtain ⟨su, hsu, hr⟩ := opt_run hr
        obtain ⟨ro, ex, et, cs, hg, hr⟩ := rdCells_run hr
        obtain ⟨hc, hr⟩ := bif_run hr
        simp only [Bool.and_eq_true] at hc
        obtain ⟨sz, hsh, hle, hsp, hex⟩ := cell_shape har hg hH
        obtain ⟨e1, e2⟩ := hex hc.1
        refine .here hr ?_ (.ptr har) hH
        have hl : liesAt P P.depth et (sz / P.cellsOf et) a'.off u 1 = true := by rw [e1, e2]; exact hc.2
        by_cases h0 : su = 0 <;> simp [convert, Conv.unsafePointer, ru hs, ru hd, seenAt_run hsh, variablesAt, hsh, hl, rso hsu, h0]
      · -- a pointer, to unsafe.Pointer
        rename_i t
        simp only at hr
        obtain ⟨n, hn, hr⟩ := opt_run hr
        obtain ⟨ro, ex, et, cs, hg, hr⟩ := rdCells_run hr
        obtain ⟨hc, hr⟩ := bif_run' hr
        simp only [Bool.or_eq_false_iff, beq_eq_false_iff_ne, decide_eq_false_iff_not] at hc
        obtain ⟨sz, hsh, hle, hsp, _⟩ := cell_shape har hg hH
        refine .here hr ?_ (.ptr har) hH
        have h1 : ¬ (sz ≤ a'.off) := by omega
        simp [convert, Conv.unsafePointer, ru hs, ru hd, seenAt_run hsh, Go.cellsIn, hsh, hsp, rso hn, hc.1, h1]
  | _ =>
    simp only at hr
    first
      | exact (fail_run hr).elim
      | (obtain ⟨hf, hr⟩ := ite_run hr
         obtain ⟨v, hr, hrun, hfv⟩ := pureV_run hr
         have := hx.flat_eq hf
         subst this
         exact .here hr (hrun w) (.of_flat hfv) hH)
end Go.Proofs.YtfjaemckpmoomaaGreatDoor.Lane

namespace Go.Proofs.YtfjaemckpmoomaaGreatDoor.Lane
variable {P : Program} {β : Inj} {h : Tr Blk} {w : World} {r : U × Tr Blk}

theorem isNilish_rel {t : TypeId} {a a' : Value} {p : Bool} (hn : isNilish P t a = some p) (ha : VRel β a a') : isNilish P t a' = some p := by
  unfold isNilish at hn ⊢
  cases hu : P.underlying t with
  | none => simp [hu] at hn
  | some d =>
    simp only [hu] at hn ⊢
    cases ha with
    | plain hp => exact hn
    | ptr => cases d <;> simp_all
    | slice => cases d <;> simp_all
    | map => cases d <;> simp_all
    | func => cases d <;> simp_all
    | iface => cases d <;> simp_all
    | agg => cases d <;> simp_all
    | tuple => cases d <;> simp_all

def wideV : Value → Bool
  | .nilIface | .agg _ => true
  | _ => false

theorem equal_nil_in (n : Nat) {t : TypeId} {a b : Value} {p q : Bool} (ha : isNilish P t a = some p) (hb : isNilish P t b = some q) (hne : p ≠ q) : (Op.equalIn (n + 1) t a b).run P w = .ok false w := by
  unfold isNilish at ha hb
  unfold Op.equalIn
  cases hu : P.underlying t with
  | none => simp [hu] at ha
  | some d =>
    simp only [hu] at ha hb
    simp only [Sem.run_bind, ru hu, Result.andThen_ok]
    cases d with
    | pointer e =>
      cases a <;> simp only [reduceCtorEq, Option.some.injEq] at ha
      cases b <;> simp only [reduceCtorEq, Option.some.injEq] at hb
      rename_i x y
      cases x <;> cases y <;> first | rfl | (subst ha; subst hb; exact absurd rfl hne)
    | slice e =>
      cases a <;> simp only [reduceCtorEq, Option.some.injEq] at ha
      cases b <;> simp only [reduceCtorEq, Option.some.injEq] at hb
      rename_i x _ _ y _ _
      cases x <;> cases y <;> first | rfl | (subst ha; subst hb; exact absurd rfl hne)
    | map e e' =>
      cases a <;> simp only [reduceCtorEq, Option.some.injEq] at ha
      cases b <;> simp only [reduceCtorEq, Option.some.injEq] at hb
      rename_i x y
      cases x <;> cases y <;> first | rfl | (subst ha; subst hb; exact absurd rfl hne)
    | func =>
      cases a <;> simp only [reduceCtorEq, Option.some.injEq] at ha <;> cases b <;> simp only [reduceCtorEq, Option.some.injEq] at hb <;> first | rfl | (subst ha; subst hb; exact absurd rfl hne)
    | interface =>
      cases a <;> simp only [reduceCtorEq, Option.some.injEq] at ha <;> cases b <;> simp only [reduceCtorEq, Option.some.injEq] at hb <;> first | rfl | (subst ha; subst hb; exact absurd rfl hne)
    | _ => simp at ha

theorem equal_nil {t : TypeId} {a b : Value} {p q : Bool} (ha : isNilish P t a = some p) (hb : isNilish P t b = some q) (hne : p ≠ q) : (Op.equal t a b).run P w = .ok false w :=
  equal_nil_in 9999 ha hb hne

/-- 'eqGuard' is idle at values of which one is no nil interface value and no aggregate. -/
theorem eqGuard_idle {op : BinOp} {t : TypeId} {x y : Operand} {a b : Value} (ha : wideV a = false ∨ wideV b = false) : (eqGuard op t x y a b).run P w = .ok () w := by
  unfold eqGuard
  cases op <;> first
    | rfl
    | (rcases ha with ha | ha
       · cases a <;> first | (simp [wideV] at ha; done) | rfl
       · cases a <;> first | rfl | (cases b <;> first | (simp [wideV] at ha; done) | rfl))

theorem isNilish_kind {t : TypeId} {a b : Value} {p q : Bool} (ha : isNilish P t a = some p) (hb : isNilish P t b = some q) (hne : p ≠ q) : (wideV a = false ∨ wideV b = false) ∧
    (∀ op : BinOp, op = .eql ∨ op = .neq → binOp op t a b = (match op with | .eql => (do pure (.bool (← Op.equal t a b))) | _ => (do pure (.bool (!(← Op.equal t a b)))))) := by
  unfold isNilish at ha hb
  cases hu : P.underlying t with
  | none => simp [hu] at ha
  | some d =>
    simp only [hu] at ha hb
    cases d <;> cases a <;> simp only [reduceCtorEq, Option.some.injEq] at ha <;> cases b <;> simp only [reduceCtorEq, Option.some.injEq] at hb <;>
      first
      | (subst ha; subst hb; exact absurd rfl hne)
      | exact ⟨.inl rfl, fun op ho => by rcases ho with rfl | rfl <;> rfl⟩
      | exact ⟨.inr rfl, fun op ho => by rcases ho with rfl | rfl <;> rfl⟩

theorem addr_beq {a a' b b' : Addr} (ha : ARel β a a') (hb : ARel β b b') (hab : a.block = b.block) : (a' == b') = (a == b) ∧ a'.block = b'.block := by
  obtain ⟨h1, h2, _, m, h4, h5, h6⟩ := ha
  obtain ⟨g1, g2, _, m', g4, g5, g6⟩ := hb
  rw [hab, g4] at h4
  injection h4 with h4; subst h4
  obtain ⟨b1, o1, s1⟩ := a
  obtain ⟨b2, o2, s2⟩ := b
  obtain ⟨b1', o1', s1'⟩ := a'
  obtain ⟨b2', o2', s2'⟩ := b'
  simp only at *
  subst h1; subst h2; subst g1; subst g2; subst h5; subst g5; subst hab
  refine ⟨?_, rfl⟩
  rw [Bool.eq_iff_iff]
  simp only [beq_iff_eq, Addr.mk.injEq, true_and, and_true]
  omega

theorem equal_ptr_in (n : Nat) {t e : TypeId} {a b : Addr} {sz : Nat} (hu : P.underlying t = some (.pointer e)) (hs : sizeOfT P e = some sz) (h0 : sz ≠ 0) (hb : a.block = b.block) :
    (Op.equalIn (n + 1) t (.pointer (some a)) (.pointer (some b))).run P w = .ok (a == b) w := by
  simp [Op.equalIn, ru hu, rso hs, h0, sameAddr, hb]

theorem binOp_run {op : BinOp} {t : TypeId} {x y : Operand} {a a' b b' : Value} {k : Value → T} (hr : (binOpA P op t x y a b k).run h = .ok r) (ha : VRel β a a') (hb : VRel β b b') :
    ∃ v v', (k v).run h = .ok r ∧ (do eqGuard op t x y a' b'; binOp op t a' b' : Sem Value).run P w = .ok v' w ∧ VRel β v v' := by
  unfold binOpA at hr
  by_cases hf : (flat a && flat b) = true
  · rw [if_pos hf] at hr
    simp only [Bool.and_eq_true] at hf
    obtain ⟨v, hk, hrun, hfv⟩ := pureV_run hr
    have e1 := ha.flat_eq hf.1
    have e2 := hb.flat_eq hf.2
    exact ⟨v, v, hk, by rw [e1, e2]; exact hrun w, .of_flat hfv⟩
  · rw [if_neg hf] at hr
    cases hsp : samePtr P t a b with
    | some e =>
      simp only [hsp] at hr
      unfold samePtr at hsp
      cases a with
      | pointer pa =>
        cases pa with
        | none => simp at hsp
        | some pa =>
        cases b with
        | pointer pb =>
          cases pb with
          | none => simp at hsp
          | some pb =>
          cases hu : P.underlying t with
          | none => simp [hu] at hsp
          | some d =>
          cases d with
          | pointer el =>
            simp only [hu] at hsp
            cases ha with
            | plain hp => simp [plainV] at hp
            | ptr ha =>
            cases hb with
            | plain hp => simp [plainV] at hp
            | ptr hb =>
            rename_i a' b'
            cases hc : (pa.block == pb.block && pa.block != 0 && ((sizeOfT P el).getD 0 != 0)) with
            | false => simp [hc] at hsp
            | true =>
              simp only [hc, cond_true, Option.some.injEq] at hsp
              simp only [Bool.and_eq_true, beq_iff_eq] at hc
              obtain ⟨⟨hbl, _⟩, hsz⟩ := hc
              cases hs : sizeOfT P el with
              | none => rw [hs] at hsz; simp at hsz
              | some sz =>
                have h0 : sz ≠ 0 := by rw [hs] at hsz; simpa using hsz
                obtain ⟨hbeq, hbl'⟩ := addr_beq ha hb hbl
                have heq := equal_ptr_in (P := P) (w := w) 9999 hu hs h0 hbl'
                rw [hbeq, hsp] at heq
                have hg := eqGuard_idle (P := P) (w := w) (op := op) (t := t) (x := x) (y := y) (a := .pointer (some a')) (b := .pointer (some b')) (.inl rfl)
                have this : (Op.equal t (.pointer (some a')) (.pointer (some b'))).run P w = .ok e w := heq
                have h1 : binOp .eql t (.pointer (some a')) (.pointer (some b')) = (do pure (.bool (← Op.equal t (.pointer (some a')) (.pointer (some b')))) : Sem Value) := rfl
                have h2 : binOp .neq t (.pointer (some a')) (.pointer (some b')) = (do pure (.bool (!(← Op.equal t (.pointer (some a')) (.pointer (some b'))))) : Sem Value) := rfl
                cases op <;> first
                  | exact (fail_run hr).elim
                  | exact ⟨_, .bool e, hr, by rw [Sem.run_bind, hg, Result.andThen_ok, h1, Sem.run_bind, this]; rfl, .plain rfl⟩
                  | exact ⟨_, .bool !e, hr, by rw [Sem.run_bind, hg, Result.andThen_ok, h2, Sem.run_bind, this]; rfl, .plain rfl⟩
          | _ => simp [hu] at hsp
        | _ => simp at hsp
      | _ => simp at hsp
    | none =>
      simp only [hsp] at hr
      cases hp : isNilish P t a with
      | none => simp only [hp] at hr; cases op <;> exact (fail_run hr).elim
      | some p =>
      cases hq : isNilish P t b with
      | none => simp only [hp, hq] at hr; cases op <;> exact (fail_run hr).elim
      | some q =>
      simp only [hp, hq] at hr
      have hp' := isNilish_rel hp ha
      have hq' := isNilish_rel hq hb
      cases op <;> first
        | exact (fail_run hr).elim
        | (obtain ⟨hne, hr⟩ := bif_run hr
           have hne : p ≠ q := by simpa using hne
           obtain ⟨g1, g2⟩ := isNilish_kind hp' hq' hne
           have hg := fun op => eqGuard_idle (P := P) (w := w) (op := op) (x := x) (y := y) (t := t) g1
           have heq := equal_nil (P := P) (w := w) hp' hq' hne
           exact ⟨_, _, hr, by simp only [Sem.run_bind, hg, Result.andThen_ok]; rw [g2 _ (by simp)]; simp only [Sem.run_bind, heq, Result.andThen_ok]; rfl, .plain rfl⟩)

def nilV : Value → Bool
  | .pointer none | .nilIface | .nilFunc => true
  | _ => false

theorem nilCheck_run {x x' : Value} {k : Value → T} (hr : (nilCheckA x k).run h = .ok r) (hx : VRel β x x') :
    (k x).run h = .ok r ∧ nilV x' = false ∧ (∀ n y z, x' ≠ .func (.method n) y z) := by
  unfold nilCheckA at hr
  cases hx with
  | plain hp => cases x <;> first
      | exact (fail_run hr).elim
      | exact ⟨hr, rfl, by intros; simp⟩
      | (rename_i a; cases a <;> first | exact (fail_run hr).elim | exact ⟨hr, rfl, by intros; simp⟩)
      | (rename_i a _ _; cases a <;> first | exact (fail_run hr).elim | exact ⟨hr, rfl, by intros; simp⟩)
  | func hf hx1 hx2 =>
    rename_i f f' _ _ _ _
    cases f with
    | yield l => obtain ⟨m, _, rfl⟩ := hf; exact ⟨hr, rfl, by intros; simp⟩
    | method n => exact (fail_run hr).elim
    | func g => obtain rfl : f' = .func g := hf; exact ⟨hr, rfl, by intros; simp⟩
    | methodOf t n => obtain rfl : f' = .methodOf t n := hf; exact ⟨hr, rfl, by intros; simp⟩
    | via t p f q => obtain rfl : f' = .via t p f q := hf; exact ⟨hr, rfl, by intros; simp⟩
  | _ => exact ⟨hr, rfl, by intros; simp⟩

theorem map_new {c : Nat} {k : Value → Nat → T} (hr : (T.nw c (.map []) (k (.map (some c)) (c + 1))).run h = .ok r) (hH : HRel P β h w) {sv : Sem Value}
    (hs : sv.run P w = .ok (.map (some w.heap.size)) (w.alloc (.map #[] 0))) : VOK P β h w sv k r := by
  obtain ⟨hid, hx, hr⟩ := nw_run hr
  obtain ⟨hle, g1, g2⟩ := hH.fresh (x := .map []) (o := .map #[] 0) (m := ⟨w.heap.size, 0, 0, 0⟩) hid hx rfl ⟨⟨w.heap.size, 0, 0, 0⟩, #[], 0, Inj.upd_same .., rfl, alloc_at _, .nil⟩
  exact ⟨_, _, _, _, _, _, hr, hs, .map (m := ⟨w.heap.size, 0, 0, 0⟩) (Inj.upd_same ..), ⟨g2, g1⟩⟩

theorem makeMap_run {t : TypeId} {hint hint' : Option Value} {c : Nat} {k : Value → Nat → T} (hr : (makeMapA P t hint c k).run h = .ok r) (hh : ORel β hint hint') (hH : HRel P β h w) :
    VOK P β h w (Instr.makeMap t hint') k r := by
  unfold makeMapA at hr
  cases hint with
  | none =>
    cases hint' with
    | some v => exact hh.elim
    | none => exact map_new hr hH (by simp [Instr.makeMap])
  | some v =>
    cases hint' with
    | none => exact hh.elim
    | some v' =>
    simp only at hr
    cases hu : P.underlying t with
    | none => simp only [hu] at hr; exact (fail_run hr).elim
    | some d =>
      simp only [hu] at hr
      cases d with
      | map a b =>
        cases v with
        | int kk n =>
          have := VRel.plain_eq hh rfl
          subst this
          exact map_new hr hH (by simp [Instr.makeMap, ru hu, asInt, asIntOf])
        | _ => exact (fail_run hr).elim
      | _ => exact (fail_run hr).elim

theorem range_run {t : TypeId} {x x' : Value} {c : Nat} {k : Value → Nat → T} (hr : (rangeA P t x c k).run h = .ok r) (hx : VRel β x x') (hH : HRel P β h w) : VOK P β h w (Instr.range t x') k r := by
  unfold rangeA at hr
  cases hu : P.underlying t with
  | none => simp only [hu] at hr; exact (fail_run hr).elim
  | some d =>
  simp only [hu] at hr
  cases d with
  | string =>
    cases x with
    | string s =>
      have := hx.plain_eq rfl
      subst this
      obtain ⟨hid, hx, hr⟩ := nw_run hr
      obtain ⟨hle, g1, g2⟩ := hH.fresh (x := .siter s 0) (o := .stringIter s 0) (m := ⟨w.heap.size, 0, 0, 0⟩) hid hx rfl ⟨⟨w.heap.size, 0, 0, 0⟩, Inj.upd_same .., rfl, alloc_at _⟩
      exact ⟨_, _, _, _, _, .pointer (some ⟨w.heap.size, 0, none⟩), hr, by simp [Instr.range, ru hu], .ptr ⟨rfl, rfl, idOk_pos hid, ⟨w.heap.size, 0, 0, 0⟩, Inj.upd_same .., rfl, rfl⟩, ⟨g2, g1⟩⟩
    | _ => exact (fail_run hr).elim
  | _ => exact (fail_run hr).elim

theorem next_run {x x' : Value} {ty : TypeId} {k : Value → T} (hr : (nextA' x k).run h = .ok r) (hx : VRel β x x') (hH : HRel P β h w) :
    ∃ v v' h1 w1, (k v).run h1 = .ok r ∧ (Instr.next x' true ty).run P w = .ok v' w1 ∧ VRel β v v' ∧ Went P β h w β h1 w1 := by
  unfold nextA' at hr
  cases x with
  | pointer a =>
    cases a with
    | none => exact (fail_run hr).elim
    | some a =>
      obtain ⟨id, off, spot⟩ := a
      cases off with
      | succ n => exact (fail_run hr).elim
      | zero =>
      cases spot with
      | some s => exact (fail_run hr).elim
      | none =>
      simp only at hr
      obtain ⟨b, hb, hr⟩ := rd_run hr
      cases b with
      | siter s pos =>
        obtain ⟨m, hm, hm0, hheap⟩ := hH.blk _ _ hb
        cases hx with
        | plain hp => simp [plainV] at hp
        | ptr har =>
        rename_i a'
        obtain ⟨_, hs', _, m2, hm2, hbk, ho⟩ := har
        simp only at hm2
        rw [hm] at hm2; injection hm2 with hm2; subst hm2
        obtain ⟨ab, ao, asp⟩ := a'
        simp only at hs' hbk ho
        subst hs'; subst hbk
        rw [hm0] at ho
        simp only [Nat.add_zero] at ho
        subst ho
        have hg := getObj_run (P := P) hheap (by intros; simp)
        simp only at hr
        by_cases hlt : pos < s.size
        · rw [if_pos hlt] at hr
          obtain ⟨hid, _, hr⟩ := wr_run hr
          have hsz : m.blk < w.heap.size := hH.bound _ _ hm
          obtain ⟨g1, g2⟩ := hH.update (w' := { w with heap := w.heap.setIfInBounds m.blk (.stringIter s (pos + (Utf8.decode s pos).2)) }) (x' := .siter s (pos + (Utf8.decode s pos).2)) hid hb rfl hm (by simp) (fun b' hb' => by
            show (w.heap.setIfInBounds m.blk _)[b']? = _
            rw [Array.getElem?_setIfInBounds_ne (Ne.symm hb')]) ⟨m, hm, hm0, by show (w.heap.setIfInBounds m.blk _)[m.blk]? = _; simp [hsz]⟩ rfl rfl rfl
          refine ⟨_, _, _, _, hr, ?_, .tuple (.cons (.plain rfl) (.cons (.plain rfl) (.cons (.plain rfl) .nil))), ⟨g2, g1⟩⟩
          have hset := setObj_run (P := P) (o1 := .stringIter s (pos + (Utf8.decode s pos).2)) hheap (by intros; simp)
          simp only [Instr.next, Sem.run_bind, hg, Result.andThen_ok]
          rw [if_pos hlt]
          simp only [Sem.run_bind, hset, Result.andThen_ok, Sem.run_pure]
        · rw [if_neg hlt] at hr
          refine ⟨_, _, _, _, hr, ?_, .tuple (.cons (.plain rfl) .nil), .refl hH⟩
          simp only [Instr.next, Sem.run_bind, hg, Result.andThen_ok]
          rw [if_neg hlt]
          simp only [Sem.run_pure]
      | _ => exact (fail_run hr).elim
  | _ => exact (fail_run hr).elim

end Go.Proofs.YtfjaemckpmoomaaGreatDoor.Lane

namespace Go.Proofs.YtfjaemckpmoomaaGreatDoor.Lane
variable {P : Program} {β : Inj} {h : Tr Blk} {w : World} {r : U × Tr Blk}

theorem LRel.flat_eq {l l' : List Value} : LRel β l l' → l.all flat = true → l' = l
  | .nil, _ => rfl
  | .cons x t, h => by
    simp only [List.all_cons, Bool.and_eq_true] at h
    rw [VRel.flat_eq x h.1, LRel.flat_eq t h.2]

theorem lenB_run {argTypes : Array TypeId} {ty : TypeId} {args args' : Array Value} {k : Value → T} (hr : (lenBA P argTypes args k).run h = .ok r) (ha : LRel β args.toList args'.toList) (hH : HRel P β h w) :
    ∃ v v', (k v).run h = .ok r ∧ (Builtin.len_ argTypes ty args').run P w = .ok v' w ∧ VRel β v v' := by
  unfold lenBA at hr
  cases ht : argTypes[0]? with
  | none => simp only [ht] at hr; exact (fail_run hr).elim
  | some t =>
  cases hs : (args[0]? : Option Value) with
  | none => simp only [ht, hs] at hr; exact (fail_run hr).elim
  | some x =>
  simp only [ht, hs] at hr
  obtain ⟨x', hs1, hx⟩ := ha.get (i := 0) (v := x) (by simpa using hs)
  have hs' : args'[0]? = some x' := by simpa using hs1
  cases hu : P.underlying t with
  | none => simp only [hu] at hr; exact (fail_run hr).elim
  | some d =>
  simp only [hu] at hr
  cases d with
  | string =>
    cases x with
    | string s => have := hx.plain_eq rfl; exact ⟨_, _, hr, by simp [Builtin.len_, ht, hs', ru hu, this], .plain rfl⟩
    | _ => exact (fail_run hr).elim
  | array n e => exact ⟨_, _, hr, by simp [Builtin.len_, ht, hs', ru hu], .plain rfl⟩
  | slice e =>
    cases x with
    | slice a n c =>
      cases hx with
      | plain hp => exact ⟨_, _, hr, by simp [Builtin.len_, ht, hs', ru hu], .plain rfl⟩
      | slice hsl => exact ⟨_, _, hr, by simp [Builtin.len_, ht, hs', ru hu]; exact congrArg (fun x : Nat => goInt x) hsl.1.symm, .plain rfl⟩
    | _ => exact (fail_run hr).elim
  | map a b =>
    cases x with
    | map m =>
      cases m with
      | none => have := hx.plain_eq rfl; exact ⟨_, _, hr, by simp [Builtin.len_, ht, hs', ru hu, this], .plain rfl⟩
      | some rr =>
        simp only at hr
        obtain ⟨bk, hb, hr⟩ := rd_run hr
        cases bk with
        | map es =>
          obtain ⟨m, ents, clock, hm, hm0, hheap, he⟩ := hH.blk _ _ hb
          cases hx with
          | plain hp => simp [plainV] at hp
          | map hm2 =>
          rw [hm] at hm2; injection hm2 with hm2; subst hm2
          have hg := getObj_run (P := P) hheap (by intros; simp)
          have hl : ents.size = es.length := by rw [he.length]; simp
          exact ⟨_, _, hr, by simp [Builtin.len_, ht, hs', ru hu, hg, hl], .plain rfl⟩
        | _ => exact (fail_run hr).elim
    | _ => exact (fail_run hr).elim
  | _ => exact (fail_run hr).elim

theorem capB_run {argTypes : Array TypeId} {ty : TypeId} {args args' : Array Value} {k : Value → T} (hr : (capBA P argTypes args k).run h = .ok r) (ha : LRel β args.toList args'.toList) (_hH : HRel P β h w) :
    ∃ v v', (k v).run h = .ok r ∧ (Builtin.cap_ argTypes ty args').run P w = .ok v' w ∧ VRel β v v' := by
  unfold capBA at hr
  cases ht : argTypes[0]? with
  | none => simp only [ht] at hr; exact (fail_run hr).elim
  | some t =>
  cases hs : (args[0]? : Option Value) with
  | none => simp only [ht, hs] at hr; exact (fail_run hr).elim
  | some x =>
  simp only [ht, hs] at hr
  obtain ⟨x', hs1, hx⟩ := ha.get (i := 0) (v := x) (by simpa using hs)
  have hs' : args'[0]? = some x' := by simpa using hs1
  cases hu : P.underlying t with
  | none => simp only [hu] at hr; exact (fail_run hr).elim
  | some d =>
  simp only [hu] at hr
  cases d with
  | slice e =>
    cases x with
    | slice a n c =>
      cases a with
      | none =>
        cases hx with
        | plain hp =>
          obtain ⟨rfl, rfl⟩ := plain_nil hp
          exact ⟨_, _, hr, by simp [Builtin.cap_, ht, hs', ru hu], .plain rfl⟩
      | some a =>
        simp only at hr
        obtain ⟨hc, hr⟩ := bif_run' hr
        simp only [Bool.or_eq_false_iff, beq_eq_false_iff_ne, Bool.not_eq_false', beq_iff_eq] at hc
        cases hx with
        | plain hp => simp [plainV] at hp
        | slice hsl =>
          rcases hsl.2 with ⟨rfl, _⟩ | ⟨_, hex, _⟩
          · exact absurd rfl hc.1
          · exact ⟨_, _, hr, by simp only [Builtin.cap_, ht, hs', Sem.run_bind, ru hu, Result.andThen_ok, Sem.run_pure, hex hc.2], .plain rfl⟩
    | _ => exact (fail_run hr).elim
  | _ => exact (fail_run hr).elim

theorem LRel.one {v : Value} {l' : List Value} (hl : LRel β [v] l') : ∃ v', l' = [v'] ∧ VRel β v v' := by
  cases hl with
  | cons x t => cases t; exact ⟨_, rfl, x⟩
theorem LRel.two {v u : Value} {l' : List Value} (hl : LRel β [v, u] l') : ∃ v' u', l' = [v', u'] ∧ VRel β v v' ∧ VRel β u u' := by
  cases hl with
  | cons x t => cases t with
    | cons y t => cases t; exact ⟨_, _, rfl, x, y⟩

theorem sliceData_run {argTypes : Array TypeId} {ty : TypeId} {args args' : Array Value} {k : Value → T} (hr : (sliceDataA args k).run h = .ok r) (ha : LRel β args.toList args'.toList) :
    ∃ v v', (k v).run h = .ok r ∧ (Builtin.unsafeSliceData_ argTypes ty args').run P w = .ok v' w ∧ VRel β v v' := by
  unfold sliceDataA at hr
  split at hr
  · rename_i l c e
    rw [e] at ha
    obtain ⟨v', e', hv⟩ := ha.one
    have : args' = #[v'] := by rw [← Array.toList_inj, e']
    subst this
    cases hv with
    | plain hp => exact ⟨_, _, hr, rfl, .plain rfl⟩
  · rename_i a n c2 e
    rw [e] at ha
    obtain ⟨v', e', hv⟩ := ha.one
    have : args' = #[v'] := by rw [← Array.toList_inj, e']
    subst this
    obtain ⟨hc, hr⟩ := bif_run' hr
    simp only [Bool.or_eq_false_iff, beq_eq_false_iff_ne] at hc
    cases hv with
    | plain hp => simp [plainV] at hp
    | slice hsl =>
      rcases hsl.2 with ⟨rfl, _⟩ | ⟨har, _, hcle, _⟩
      · exact absurd rfl hc.1.2
      · exact ⟨_, _, hr, Lib.run_unsafeSliceData_row w _ _ _ _ _ (by omega), .ptr har⟩
  · exact (fail_run hr).elim

theorem liesAt_byte {e : TypeId} (hc : P.cellsOf e = 1) (count off n : Nat) (hn : off + n ≤ count) : liesAt P P.depth e count off e n = true := by
  have hd : P.depth = (2 * (P.types.size + Made.depth) + 1) + 1 := rfl
  rw [hd]
  simp only [liesAt, Bool.or_eq_true]
  left
  rw [hd]
  simp [rowAt, hc, hn, sameLayout, Nat.mod_one]

theorem unsafeString_run {argTypes : Array TypeId} {ty : TypeId} {args args' : Array Value} {k : Value → T} (hr : (unsafeStringA P argTypes args k).run h = .ok r) (ha : LRel β args.toList args'.toList) (hH : HRel P β h w) :
    ∃ v v' h1 w1, (k v).run h1 = .ok r ∧ (Builtin.unsafeString_ argTypes ty args').run P w = .ok v' w1 ∧ VRel β v v' ∧ Went P β h w β h1 w1 := by
  unfold unsafeStringA at hr
  split at hr
  · rename_i pt kk hpt e
    rw [e] at ha
    obtain ⟨v', u', e', hv, hu'⟩ := ha.two
    have : args' = #[v', u'] := by rw [← Array.toList_inj, e']
    subst this
    have e1 := hv.plain_eq rfl
    have e2 := hu'.plain_eq rfl
    subst e1; subst e2
    have hmax : IntKind.i64.max = 9223372036854775807 := rfl
    refine ⟨_, .string .empty, _, _, hr, ?_, .plain rfl, .refl hH⟩
    conv in (Builtin.unsafeString_ _ _ _) => whnf
    simp [hmax, hpt]
  · rename_i pt a kk n hpt e
    rw [e] at ha
    obtain ⟨v', u', e', hv, hu'⟩ := ha.two
    have : args' = #[v', u'] := by rw [← Array.toList_inj, e']
    subst this
    have e2 := hu'.plain_eq rfl
    subst e2
    cases hu : P.underlying pt with
    | none => simp only [hu] at hr; exact (fail_run hr).elim
    | some d =>
    simp only [hu] at hr
    cases d with
    | pointer el =>
      simp only at hr
      obtain ⟨ro, ex, et, cs, hg, hr⟩ := rdCells_run hr
      obtain ⟨hc, hr⟩ := bif_run hr
      simp only [Bool.and_eq_true, beq_iff_eq, decide_eq_true_eq, Bool.not_eq_true'] at hc
      obtain ⟨⟨⟨⟨het, h0⟩, hbig⟩, hro⟩, hsz1⟩ := hc
      obtain ⟨x, hx, hr⟩ := opt_run hr
      obtain ⟨bs, hb, hr⟩ := opt_run hr
      obtain ⟨hid, _, hr⟩ := wr_run hr
      cases hv with
      | plain hp => simp [plainV] at hp
      | ptr har =>
      rename_i a'
      obtain ⟨_, hs', _, m, hm, hbk, ho⟩ := har
      obtain ⟨m2, real, fz, hm2, hheap, hsz, hlen, hes, hexx, hcell, hfr⟩ := hH.blk _ _ hg
      rw [hm] at hm2; injection hm2 with hm2; subst hm2
      obtain ⟨ab, ao, asp⟩ := a'
      simp only at hs' hbk ho
      subst hs'; subst hbk; subst ho
      have hk := hr
      obtain ⟨x', h1, h2, h3⟩ := slab_real hcell hx
      have hxb := bytesOf_some hb
      have hx' : x' = x := h1.plain_eq (by rw [hxb]; exact bytes_plain)
      have hce : P.cellsOf et = 1 := by
        simp only [sizeOfT, Option.map_eq_some_iff] at hsz1
        obtain ⟨i, hi, h1⟩ := hsz1
        rw [het, cellsOf_info hi, h1]
      have hxl := (slab_some hx).2.2
      have hbl : bs.length = n.toNat := by rw [← hxl, hxb]; simp
      have hsle := (slab_some hx).1
      have hlb := Lib.run_loadBytes (P := P) w bs ⟨m.blk, m.base + a.off, none⟩ .empty (fun j b hj => by
        rw [add_none, cell_of hheap]
        apply h3
        rw [hx', hxb]; simp [hj])
      rw [hbl] at hlb
      have hn0 : n.toNat ≠ 0 := by omega
      obtain ⟨fz', f1, f2, f3, f4, f5, f6, f7⟩ := freeze_heap (o := m.base + a.off) hheap hn0
      have hl := liesAt_byte (P := P) hce real.size (m.base + a.off) n.toNat (by omega)
      have hmax : IntKind.i64.max = 9223372036854775807 := rfl
      have hn1 : ¬ (n < 0) := by omega
      have hn2 : ¬ (9223372036854775807 < n) := by omega
      have hn3 : n ≠ 0 := by omega
      obtain ⟨g1, g2⟩ := hH.update (w' := w.freeze ⟨m.blk, m.base + a.off, none⟩ n.toNat) (x' := .cells true ex et cs) hid hg (by simp [wrB, hro]) hm f3 f2
        ⟨m, real, fz', hm, f1, hsz, hlen, hes, hexx, hcell, (fun e => by cases e)⟩ f4 f5 f6
      refine ⟨_, .string ⟨bs.toArray⟩, _, _, hk, ?_, .plain rfl, ⟨g2, g1⟩⟩
      conv in (Builtin.unsafeString_ _ _ _) => whnf
      rw [← het] at hu
      simp [asInt, asIntOf, hpt, hmax, hn1, hn2, hn3, elemOf, ru hu, variablesAt, shape_of hheap, hce, hl, hlb]
    | _ => exact (fail_run hr).elim
  · exact (fail_run hr).elim

/-! ### what an operation yields -/

def NOK (β : Inj) (w1 : World) : ANext → Result Next → Prop
  | .val v, .ok (.value v') w' => w' = w1 ∧ VRel β v v'
  | .skip, .ok .skip w' => w' = w1
  | .enter f args, .ok (.enter f' args') w' => w' = w1 ∧ f' = f ∧ LRel β args.toList args'.toList
  | .round l a tm, .ok (.round l' f tmps assign body) w' => w' = w1 ∧ (∃ m, β l = some m ∧ l' = m.blk) ∧ f = a.fn ∧ TRel β a.n tm tmps ∧ assign = a.assign ∧ body = a.body
  | .defer d, .ok (.defer d') w' => w' = w1 ∧ DRel β d d'
  | .recover, .ok .recover w' => w' = w1
  | .panic v, .halt (.panic v') w' => w' = w1 ∧ VRel β v v'
  | _, _ => False

def NextOK (P : Program) (β : Inj) (h : Tr Blk) (w : World) (s : Sem Next) (k : ANext → Nat → T) (r : U × Tr Blk) : Prop :=
  ∃ x c1 h1 β1 w1, (k x c1).run h1 = .ok r ∧ Went P β h w β1 h1 w1 ∧ NOK β1 w1 x (s.run P w)

theorem NextOK.of_v {sv : Sem Value} {k : ANext → Nat → T} (hv : VOK P β h w sv (fun v c => k (.val v) c) r) : NextOK P β h w (do pure (.value (← sv))) k r := by
  obtain ⟨v, c1, h1, β1, w1, v', hr, hs, hvr, hw⟩ := hv
  exact ⟨.val v, c1, h1, β1, w1, hr, hw, by simp [hs, NOK, hvr]⟩

theorem NextOK.of_here {sv : Sem Value} {c : Nat} {k : ANext → Nat → T} (hH : HRel P β h w) (hv : ∃ v v', (k (.val v) c).run h = .ok r ∧ sv.run P w = .ok v' w ∧ VRel β v v') : NextOK P β h w (do pure (.value (← sv))) k r := by
  obtain ⟨v, v', hr, hs, hvr⟩ := hv
  exact ⟨.val v, c, h, β, w, hr, .refl hH, by simp [hs, NOK, hvr]⟩

theorem findNext_none : Extern.allNextRows.lookup "internal/abi.NoEscape" = none := by kernel_rfl
theorem findNext_none' : Extern.allNextRows.lookup "" = none := by kernel_rfl
theorem find_gen : Extern.allGenericRows.lookup "internal/abi.NoEscape" = none := by kernel_rfl
theorem find_typed : Extern.allTypedRows.lookup "internal/abi.NoEscape" = none := by kernel_rfl
theorem find_all : Extern.allRows.lookup "internal/abi.NoEscape" = some Extern.AbiNoEscape.same := by kernel_rfl

theorem callF_run {f : FuncId} {args args' : Array Value} {c : Nat} {k : ANext → Nat → T} (hr : (callF P f args c k).run h = .ok r) (ha : LRel β args.toList args'.toList) (hH : HRel P β h w) :
    NextOK P β h w (callFunc f args') k r := by
  unfold callF at hr
  cases hf : P.funcs[f]? with
  | none => simp only [hf] at hr; exact (fail_run hr).elim
  | some fn =>
    simp only [hf] at hr
    cases hb : fn.body with
    | some body =>
      simp only [hb] at hr
      obtain ⟨hn, hr⟩ := ite_run' hr
      refine ⟨_, _, _, _, _, hr, .refl hH, ?_⟩
      simp only [callFunc, Sem.run_bind, run_program, Result.andThen_ok, hf]
      rw [if_neg hn]
      simp [hb, NOK, ha]
    | none =>
      simp only [hb] at hr
      by_cases hn : (fn.name == "internal/abi.NoEscape" && fn.origin == "") = true
      · rw [if_pos hn] at hr
        simp only [Bool.and_eq_true, beq_iff_eq] at hn
        split at hr
        · rename_i v e
          rw [e] at ha
          obtain ⟨v', e', hv⟩ := ha.one
          have : args' = #[v'] := by rw [← Array.toList_inj, e']
          subst this
          refine ⟨_, _, _, _, _, hr, .refl hH, ?_⟩
          have h1 : Extern.findNext fn = none := by
            simp [Extern.findNext, hn.1, hn.2, findNext_none, findNext_none']
          have h2 : Extern.find fn = some Extern.AbiNoEscape.same := by
            simp [Extern.find, hn.1, find_gen, find_typed, find_all]
          have h3 : fn.name ≠ "runtime.NumGoroutine" := by rw [hn.1]; decide
          have h4 : Extern.AbiNoEscape.same #[v'] = pure v' := rfl
          simp [callFunc, hf, h3, hb, h1, h2, h4, NOK, hv]
        · exact (fail_run hr).elim
      · rw [if_neg hn] at hr; exact (fail_run hr).elim

theorem putT_rel {n : Nat} {t t1 : Tr Value} {tmps : Array Value} {d : Option Tmp} {v v' : Value} (ht : TRel β n t tmps) (hv : VRel β v v') (hp : putT n t d v = some t1) :
    TRel β n t1 (match d with | some d => tmps.setIfInBounds d v' | none => tmps) := by
  cases d with
  | none => simp only [putT, Option.some.injEq] at hp; subst hp; exact ht
  | some d =>
    simp only [putT] at hp
    cases hc : (decide (d < n) && decide (d < 1099511627775)) with
    | false => simp [hc] at hp
    | true =>
      simp only [hc, cond_true, Option.some.injEq] at hp
      subst hp
      simp only [Bool.and_eq_true, decide_eq_true_eq] at hc
      refine ⟨by simp [ht.1], fun i => ?_⟩
      have hw : 2 ^ width = 1099511627776 := rfl
      have hd : d < 1099511627775 := hc.2
      have hlt : d + 1 < 2 ^ width := by rw [hw]; exact Nat.succ_lt_succ hd
      rw [Tr.get_set v width t d i hlt]
      by_cases e : i = d
      · subst e
        have : i < tmps.size := by rw [ht.1]; exact hc.1
        simp [this, hv]
      · rw [if_neg e]
        have := ht.2 i
        simpa [Array.getD_eq_getD_getElem?, Array.getElem?_setIfInBounds_ne (Ne.symm e)] using this

theorem putAll_rel {n : Nat} : ∀ {ps : List Tmp} {as as' : List Value} {t t1 : Tr Value} {tmps : Array Value}, TRel β n t tmps → LRel β as as' → putAll n (ps.zip as) t = some t1 →
    TRel β n t1 ((ps.zip as').foldl (fun tmps (x : Tmp × Value) => tmps.setIfInBounds x.1 x.2) tmps)
  | [], as, as', t, t1, tmps, ht, hl, hp => by simp [putAll] at hp; subst hp; simpa using ht
  | p :: ps, _, _, t, t1, tmps, ht, .nil, hp => by simp [putAll] at hp; subst hp; simpa using ht
  | p :: ps, _, _, t, t1, tmps, ht, .cons hv hl, hp => by
    simp only [List.zip_cons_cons, putAll] at hp
    rename_i v v' l l'
    cases h1 : putT n t (some p) v with
    | none => simp [h1] at hp
    | some t2 =>
      simp only [h1] at hp
      have := putT_rel ht hv h1
      simp only [List.zip_cons_cons, List.foldl_cons]
      exact putAll_rel this hl hp

theorem invoke_run {t t' : Target} {args args' : Array Value} {c : Nat} {k : ANext → Nat → T} (hr : (invokeA P t args c k).run h = .ok r) (ht : TgtRel β t t') (ha : LRel β args.toList args'.toList) (hH : HRel P β h w) :
    NextOK P β h w (invoke t' args') k r := by
  unfold invokeA at hr
  cases t with
  | fn f cap =>
    obtain ⟨f', cap', rfl, hf, hcap⟩ := ht
    cases f with
    | func g =>
      obtain rfl : f' = .func g := hf
      simp only at hr
      exact callF_run (args' := args' ++ cap') hr (by simpa using ha.append hcap) hH
    | yield l =>
      obtain ⟨m, hm, rfl⟩ := hf
      simp only at hr
      obtain ⟨b, hb, hr⟩ := rd_run hr
      cases b with
      | loop lp =>
        obtain ⟨m2, rl, hm2, hm0, hheap, hlr⟩ := hH.blk _ _ hb
        rw [hm] at hm2; injection hm2 with hm2; subst hm2
        simp only at hr
        obtain ⟨hsz, hr⟩ := bif_run hr
        have hsz : args.size = lp.params.size := by simpa using hsz
        obtain ⟨tm, htm, hr⟩ := opt_run hr
        obtain ⟨l1, l2, l3, l4, l5, l6, l7, _⟩ := hlr
        have hg := getObj_run (P := P) hheap (by intros; simp)
        have hsz' : args'.size = rl.params.size := by
          have := ha.length; simp at this; rw [l5]; omega
        have htr := putAll_rel l4 ha htm
        refine ⟨_, _, _, _, _, hr, .refl hH, ?_⟩
        simp only [invoke, Instr.yield, Instr.getLoop, Sem.run_bind, hg, Result.andThen_ok, Sem.run_pure]
        rw [if_neg (by simp [hsz'])]
        simp only [Sem.run_pure, NOK]
        refine ⟨trivial, ⟨m, hm, rfl⟩, l3, ?_, l6, l7⟩
        rw [l5, ← Array.foldl_toList, Array.toList_zip]
        exact htr
      | _ => exact (fail_run hr).elim
    | _ => exact (fail_run hr).elim
  | _ => exact (fail_run hr).elim

end Go.Proofs.YtfjaemckpmoomaaGreatDoor.Lane

namespace Go.Proofs.YtfjaemckpmoomaaGreatDoor.Lane
variable {P : Program} {β : Inj} {h : Tr Blk} {w : World} {r : U × Tr Blk}

theorem builtin_run {b : Builtin} {argTypes : Array TypeId} {ty : TypeId} {consts : Array Bool} {args args' : Array Value} {c : Nat} {k : ANext → Nat → T} (hr : (builtinA P b argTypes ty args c k).run h = .ok r)
    (ha : LRel β args.toList args'.toList) (hH : HRel P β h w) : NextOK P β h w (builtin b argTypes ty consts args') k r := by
  unfold builtinA at hr
  cases b <;> simp only at hr <;> first
    | exact (fail_run hr).elim
    | exact NextOK.of_v (append_run hr ha hH)
    | exact NextOK.of_v (copy_run hr ha hH)
    | (obtain ⟨v, v', h1, h2, h3⟩ := lenB_run (P := P) (w := w) hr ha hH; exact NextOK.of_here hH ⟨v, v', h1, h2, h3⟩)
    | (obtain ⟨v, v', h1, h2, h3⟩ := capB_run (P := P) (w := w) hr ha hH; exact NextOK.of_here hH ⟨v, v', h1, h2, h3⟩)
    | (obtain ⟨v, v', h1, h2, h3⟩ := sliceData_run (P := P) (w := w) hr ha; exact NextOK.of_here hH ⟨v, v', h1, h2, h3⟩)
    | (obtain ⟨v, v', h1, w1, hk, h2, h3, h4⟩ := unsafeString_run (P := P) (w := w) (ty := ty) hr ha hH; exact ⟨.val v, _, h1, β, w1, hk, h4, by simp [builtin, h2, NOK, h3]⟩)
    | (obtain ⟨hf, hr⟩ := ite_run hr
       obtain ⟨v, hk, hrun, hfv⟩ := pureV_run hr
       have e := ha.flat_eq hf
       have e : args' = args := by rw [← Array.toList_inj, e]
       exact NextOK.of_here hH ⟨v, v, hk, by rw [e]; exact hrun w, .of_flat hfv⟩)
    | exact ⟨_, _, _, _, _, hr, .refl hH, by simp [builtin, NOK]⟩

theorem resolve_run {ρ ρ' : Operand → Value} {cl : Call} {ty : TypeId} {k : Target → Array Value → T} (hr : (resolveA ρ cl k).run h = .ok r) (hρ : ∀ x, VRel β (ρ x) (ρ' x)) :
    ∃ t args d, (k t args).run h = .ok r ∧ (resolve ρ' cl ty).run P w = .ok d w ∧ TgtRel β t d.target ∧ LRel β args.toList d.args.toList := by
  unfold resolveA at hr
  cases hc : cl.callee with
  | value f =>
    simp only [hc] at hr
    cases hf : ρ f with
    | func fn first captured =>
      simp only [hf] at hr
      have := hρ f
      rw [hf] at this
      generalize hf' : ρ' f = v' at this
      cases this with
      | plain hp => simp [plainV] at hp
      | func h1 h2 h3 =>
      rename_i fn' first' captured'
      refine ⟨_, _, { target := .fn fn' captured', args := first' ++ cl.args.map ρ' }, hr, by simp [resolve, hc, hf', Deferred.ofValue], ⟨fn', captured', rfl, h1, h3⟩, ?_⟩
      simp only [Array.toList_append, Array.toList_map]
      exact h2.append (LRel.map _ fun x _ => hρ x)
    | _ => simp only [hf] at hr; exact (fail_run hr).elim
  | invoke a b => simp only [hc] at hr; exact (fail_run hr).elim
  | builtin b => simp only [hc] at hr; exact (fail_run hr).elim

theorem ORel.map {ρ ρ' : Operand → Value} (hρ : ∀ x, VRel β (ρ x) (ρ' x)) (x : Option Operand) : ORel β (x.map ρ) (x.map ρ') := by
  cases x
  · trivial
  · exact hρ _

theorem PartsRel.map {ρ ρ' : Operand → Value} (hρ : ∀ x, VRel β (ρ x) (ρ' x)) (ps : Array (Nat × Operand)) :
    PartsRel β (ps.map fun (i, x) => (i, ρ x)).toList (ps.map fun (i, x) => (i, ρ' x)).toList := by
  simp only [Array.toList_map]
  induction ps.toList with
  | nil => exact .nil
  | cons a l ih => exact .cons ⟨rfl, hρ _⟩ ih

theorem aop_run {ρ ρ' : Operand → Value} {o : Oper} {c : Nat} {k : ANext → Nat → T} (hr : (aop P ρ o c k).run h = .ok r) (hρ : ∀ x, VRel β (ρ x) (ρ' x)) (hH : HRel P β h w) :
    NextOK P β h w (execOp ρ' o) k r := by
  unfold aop at hr
  unfold execOp
  cases ho : o.op <;> simp only [ho] at hr ⊢ <;> first | exact (fail_run hr).elim | skip
  case move x => exact ⟨_, _, _, _, _, hr, .refl hH, by simp [NOK, hρ x]⟩
  case assign x => exact ⟨_, _, _, _, _, hr, .refl hH, by simp [NOK, hρ x]⟩
  case pick cn a b =>
    have hc := hρ cn
    cases hb : ρ cn with
    | bool t =>
      rw [hb] at hc
      have := hc.plain_eq rfl
      simp only [hb] at hr
      refine ⟨_, _, _, _, _, hr, .refl hH, ?_⟩
      simp only [this, asBool, Sem.run_bind, Sem.run_pure, Result.andThen_ok, NOK, true_and]
      cases t
      · exact hρ b
      · exact hρ a
    | _ => simp only [hb] at hr; exact (fail_run hr).elim
  case alloc e =>
    obtain ⟨z, hz, hr⟩ := opt_run hr
    obtain ⟨v, c1, h1, β1, w1, v', a1, a2, a3, a4⟩ := newA_run (P := P) (v' := z) hr (still_rel (zeroOf_some hz).2) hH
    refine NextOK.of_v ⟨v, c1, h1, β1, w1, v', a1, ?_, a3, a4⟩
    simp only [Instr.alloc, Sem.run_bind, rzv hz, Result.andThen_ok]
    simpa using a2
  case box e x =>
    have := newA_run (P := P) hr (hρ x) hH
    exact NextOK.of_v this
  case build t ps =>
    exact NextOK.of_here hH (build_run (P := P) hr (PartsRel.map hρ ps))
  case buildSlice t len ps =>
    exact NextOK.of_v (buildSlice_run hr (PartsRel.map hρ ps) hH)
  case load t a =>
    have ha := hρ a
    cases hb : ρ a with
    | pointer p =>
      cases p with
      | none => simp only [hb] at hr; exact (fail_run hr).elim
      | some p =>
        simp only [hb] at hr
        rw [hb] at ha
        generalize ρ' a = v' at ha
        cases ha with
        | plain hp => simp [plainV] at hp
        | ptr har =>
        obtain ⟨v, v', h1, h2, h3⟩ := loadA_run (P := P) hr har hH
        exact NextOK.of_here hH ⟨v, v', h1, by simp [Instr.loadAt, Instr.sureAddr, h2], h3⟩
    | _ => simp only [hb] at hr; exact (fail_run hr).elim
  case store t a x =>
    have ha := hρ a
    cases hb : ρ a with
    | pointer p =>
      cases p with
      | none => simp only [hb] at hr; exact (fail_run hr).elim
      | some p =>
        simp only [hb] at hr
        rw [hb] at ha
        generalize ρ' a = v' at ha
        cases ha with
        | plain hp => simp [plainV] at hp
        | ptr har =>
        obtain ⟨h1, w1, hk, h2, h3, h4⟩ := storeA_run (P := P) hr har (hρ x) hH
        exact ⟨_, _, _, _, _, hk, ⟨h4, h3⟩, by simp [Instr.storeAt, Instr.sureAddr, h2, NOK]⟩
    | _ => simp only [hb] at hr; exact (fail_run hr).elim
  case nilCheck x =>
    obtain ⟨h1, h2, h3⟩ := nilCheck_run hr (hρ x)
    refine ⟨_, _, _, _, _, h1, .refl hH, ?_⟩
    have hx := hρ x
    generalize ρ' x = x' at h2 h3 hx ⊢
    cases x' with
    | pointer a => cases a <;> first | (simp [nilV] at h2; done) | exact ⟨rfl, hx⟩
    | func f y z => cases f <;> first | exact absurd rfl (h3 _ _ _) | exact ⟨rfl, hx⟩
    | nilFunc => simp [nilV] at h2
    | nilIface => simp [nilV] at h2
    | _ => exact ⟨rfl, hx⟩
  case binOp op t x y yt =>
    exact NextOK.of_here hH (binOp_run (P := P) hr (hρ x) (hρ y))
  case unOp op t x =>
    obtain ⟨hf, hr⟩ := ite_run hr
    obtain ⟨v, hk, hrun, hfv⟩ := pureV_run hr
    have e := (hρ x).flat_eq hf
    exact NextOK.of_here hH ⟨v, v, hk, by rw [e]; exact hrun w, .of_flat hfv⟩
  case convert s d x =>
    exact NextOK.of_v (convert_run hr (hρ x) hH)
  case makeInterface t x =>
    cases hu : P.underlying t with
    | none => simp only [hu] at hr; exact (fail_run hr).elim
    | some d =>
      simp only [hu] at hr
      cases d <;> simp only at hr <;> first
        | exact (fail_run hr).elim
        | exact NextOK.of_here hH ⟨_, _, hr, by simp [Instr.makeInterface, ru hu], .iface (hρ x)⟩
  case makeFunc fn first captured =>
    cases fn <;> simp only at hr <;> first
      | exact (fail_run hr).elim
      | exact NextOK.of_here hH ⟨_, .func _ (first.map ρ') (captured.map ρ'), hr, rfl, .func rfl (by simpa using LRel.map _ fun x _ => hρ x) (by simpa using LRel.map _ fun x _ => hρ x)⟩
  case makeMap t hint =>
    exact NextOK.of_v (makeMap_run hr (ORel.map hρ hint) hH)
  case makeSlice t l cp =>
    exact NextOK.of_v (makeSlice_run hr (hρ l) (hρ cp) hH)
  case slice t x lo hi mx =>
    exact NextOK.of_here hH (slice_run (P := P) hr (hρ x) (ORel.map hρ lo) (ORel.map hρ hi) (ORel.map hρ mx) hH)
  case fieldAddr s x f =>
    exact NextOK.of_here hH (fieldAddr_run (P := P) hr (hρ x))
  case field t x f =>
    exact NextOK.of_here hH (field_run (P := P) hr (hρ x))
  case indexAddr t x ix =>
    exact NextOK.of_here hH (indexAddr_run (P := P) hr (hρ x) (hρ ix))
  case index t x ix =>
    obtain ⟨hf, hr⟩ := ite_run hr
    simp only [Bool.and_eq_true] at hf
    obtain ⟨v, hk, hrun, hfv⟩ := pureV_run hr
    have e1 := (hρ x).flat_eq hf.1
    have e2 := (hρ ix).flat_eq hf.2
    exact NextOK.of_here hH ⟨v, v, hk, by rw [e1, e2]; exact hrun w, .of_flat hfv⟩
  case lookup t x ix ok =>
    exact NextOK.of_here hH (lookup_run (P := P) hr (hρ x) (hρ ix) hH)
  case mapUpdate t m key x =>
    obtain ⟨h1, w1, hk, h2, h3⟩ := update_run (P := P) hr (hρ m) (hρ key) (hρ x) hH
    exact ⟨_, _, _, _, _, hk, h3, by simp [h2, NOK]⟩
  case insert t m key x =>
    obtain ⟨h1, w1, hk, h2, h3⟩ := update_run (P := P) hr (hρ m) (hρ key) (hρ x) hH
    exact ⟨_, _, _, _, _, hk, h3, by simp [h2, NOK]⟩
  case range t x =>
    exact NextOK.of_v (range_run hr (hρ x) hH)
  case next it isString =>
    cases isString with
    | false => exact (fail_run hr).elim
    | true =>
      obtain ⟨v, v', h1, w1, hk, h2, h3, h4⟩ := next_run (P := P) (ty := o.type) hr (hρ it) hH
      exact ⟨_, _, _, _, _, hk, h4, by simp [h2, NOK, h3]⟩
  case extract t i =>
    have ht := hρ t
    cases hb : ρ t with
    | tuple vs =>
      simp only [hb] at hr
      rw [hb] at ht
      generalize ρ' t = v' at ht
      obtain ⟨v, hv, hr⟩ := opt_run hr
      cases ht with
      | plain hp => simp [plainV] at hp
      | tuple hl =>
      obtain ⟨v', h1, h2⟩ := hl.get (i := i) (v := v) (by simpa using hv)
      rename_i vs'
      have h1 : vs'[i]? = some v' := by simpa using h1
      exact NextOK.of_here hH ⟨v, v', hr, by simp [Instr.extract, h1], h2⟩
    | _ => simp only [hb] at hr; exact (fail_run hr).elim
  case call cl =>
    cases hc : cl.callee with
    | builtin b =>
      simp only [hc] at hr
      have := builtin_run (P := P) (consts := (cl.args.map fun | .const _ => true | _ => false)) hr (by simpa using LRel.map _ fun x _ => hρ x) hH (args' := cl.args.map ρ')
      obtain ⟨x, c1, h1, β1, w1, a1, a2, a3⟩ := this
      refine ⟨x, c1, h1, β1, w1, a1, a2, ?_⟩
      simp only [resolve, hc, Sem.run_bind, Sem.run_pure, Result.andThen_ok, invoke]
      exact a3
    | value f =>
      simp only [hc] at hr
      obtain ⟨t, args, d, hk, h2, h3, h4⟩ := resolve_run (P := P) (w := w) (ty := o.type) hr hρ
      obtain ⟨x, c1, h1, β1, w1, a1, a2, a3⟩ := invoke_run (P := P) hk h3 h4 hH
      exact ⟨x, c1, h1, β1, w1, a1, a2, by simp only [Sem.run_bind, h2, Result.andThen_ok]; exact a3⟩
    | invoke a b =>
      simp only [hc] at hr
      obtain ⟨t, args, d, hk, h2, h3, h4⟩ := resolve_run (P := P) (w := w) (ty := o.type) hr hρ
      obtain ⟨x, c1, h1, β1, w1, a1, a2, a3⟩ := invoke_run (P := P) hk h3 h4 hH
      exact ⟨x, c1, h1, β1, w1, a1, a2, by simp only [Sem.run_bind, h2, Result.andThen_ok]; exact a3⟩
  case defer cl =>
    obtain ⟨t, args, d, hk, h2, h3, h4⟩ := resolve_run (P := P) (w := w) (ty := o.type) hr hρ
    exact ⟨_, _, _, _, _, hk, .refl hH, by simp only [Sem.run_bind, h2, Result.andThen_ok, Sem.run_pure]; exact ⟨rfl, h3, h4⟩⟩
  case panic x =>
    have hx := hρ x
    cases hb : ρ x with
    | iface t y =>
      simp only [hb] at hr
      rw [hb] at hx
      generalize ρ' x = v' at hx
      cases hx with
      | plain hp => simp [plainV] at hp
      | iface hy =>
      exact ⟨_, _, _, _, _, hr, .refl hH, by simp only [Instr.panic, Sem.run_bind, run_goPanic, Result.andThen_halt]; exact ⟨rfl, .iface hy⟩⟩
    | _ => simp only [hb] at hr; exact (fail_run hr).elim

end Go.Proofs.YtfjaemckpmoomaaGreatDoor.Lane
