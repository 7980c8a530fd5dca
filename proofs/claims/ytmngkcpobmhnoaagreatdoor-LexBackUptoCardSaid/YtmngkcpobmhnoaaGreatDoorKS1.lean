/- The resolved language of the simulation: abstract values, heaps, operations, code, the evaluator; and the compiler from the model's code to it. -/
import GoSem.Dispatch
import Derived.KernelRfl
import Derived.Laws.Sem
import Derived.RangeFuncLeaves
import Derived.OrdersIn
import Derived.Laws.StructEq
import Derived.Laws.Cells
import Derived.Laws.Entries
import Derived.Laws.Small
import Derived.Laws.CopyRow
import Derived.Below
import Derived.Laws.BytesString
import Derived.Laws.Strings2
set_option linter.all false
namespace Go.Proofs.YtmngkcpobmhnoaaGreatDoor.Sim

inductive Own where
 | nil | shared | full | own (id : Nat) (u8 : Bool)

inductive PV where
 | int (k : IntKind) (n : Int)
 | bool (b : Bool)
 | str (s : List UInt8)
 | ptr (id off : Nat)
 | nilptr
 | cptr (cells : List PV) (off : Nat)
 | slice (o : Own) (es : Nat) (L : List (List PV))
 | func (f : FuncId) (first cap : List PV)
 | nilfunc
 | yield (l : Nat)
 | agg (cells : List PV)
 | tuple (vs : List PV)
 | nilIface
 | ifc
 | ifcI (t : TypeId) (k : IntKind) (n : Int)
 | anyInt (k : IntKind)
 deriving Inhabited

def undefP : PV := .tuple []

abbrev Fr := Nat → PV
def Fr.put (f : Fr) (i : Nat) (v : PV) : Fr := fun j => if j = i then v else f j

inductive Opd where
 | tmp (t : Nat)
 | const (p : PV)

def Opd.ev (f : Fr) : Opd → PV
 | .tmp t => f t
 | .const p => p

inductive EqK where
 | none | bool | ptr | slice | iface | func
 | ifaceI (ts : List TypeId)
 | agg (tags : List TypeDesc)

inductive Cv where
 | int (k : IntKind) | same | s2b | b2s

inductive ROp where
 | mov (x : Opd)
 | pick (c a b : Opd)
 | alloc (ty : TypeId) (z : List PV)
 | box (ty : TypeId) (x : Opd)
 | build (z : List PV) (parts : List (Nat × Nat × Opd))
 | bslice (es len bytes : Nat) (z : List PV) (parts : List (Nat × Nat × Opd))
 | load (n : Option Nat) (a : Opd)
 | store (n : Nat) (a x : Opd)
 | nilck (x : Opd)
 | mkif (t : TypeId) (x : Opd)
 | bin (op : BinOp) (e : EqK) (x y : Opd)
 | un (op : UnOp) (x : Opd)
 | conv (c : Cv) (x : Opd)
 | mkfunc (f : FuncId) (first cap : List Opd)
 | mkslice (es bytes : Nat) (z : List PV) (len cap : Opd)
 | sliceS (x : Opd) (lo hi : Option Opd)
 | slice (es : Nat) (x : Opd) (lo hi mx : Option Opd)
 | faddr (off : Nat) (x : Opd)
 | field (off : Nat) (n : Option Nat) (x : Opd)
 | iaddr (es : Nat) (x i : Opd)
 | iaddrA (len es : Nat) (x i : Opd)
 | indexS (x i : Opd)
 | indexA (len es : Nat) (n : Option Nat) (x i : Opd)
 | extract (i : Nat) (x : Opd)
 | len (str : Bool) (x : Opd)
 | min (x y : Opd)
 | app (es bytes : Nat) (u8 : Bool) (x y : Opd)
 | call (f : Opd) (args : List Opd)
 | pcall (f : FuncId) (args : List Opd)
 | ocall (f : FuncId) (args : List Opd)

structure ROper where
 dst : Option Nat
 op : ROp
 guard : Option (Nat × Bool) := none

structure Chk where
 a : Opd
 n : Nat
 b : Opd
 m : Nat

inductive RCode where
 | skip
 | region (ops : List ROper) (chk : List Chk)
 | seq (a b : RCode)
 | cond (c : Opd) (a b : RCode)
 | block (id : Nat) (b : RCode)
 | scope (b : RCode)
 | loop (b : RCode)
 | rangeFunc (f : Opd) (params : List Nat) (assign body : RCode)
 | exit (id : Nat)
 | ret

inductive RExit where
 | normal
 | exit (id : Nat)
 | ret

inductive LState where
 | ready | busy | done | exhausted

structure LoopRec where
 state : LState
 pending : Option RExit
 tmps : Fr
 params : List Nat
 assign : RCode
 body : RCode

structure Heap where
 n : Nat
 bty : Nat → TypeId
 box : Nat → Option (List PV)
 live : Nat → Bool
 loop : Nat → Option LoopRec

def Heap.empty : Heap := { n := 0, bty := fun _ => 0, box := fun _ => none, live := fun _ => false, loop := fun _ => none }
def Heap.newBox (h : Heap) (ty : TypeId) (cs : List PV) : Heap := { h with n := h.n + 1, bty := fun i => if i = h.n then ty else h.bty i, box := fun i => if i = h.n then some cs else h.box i }
def Heap.setBox (h : Heap) (id : Nat) (cs : List PV) : Heap := { h with box := fun i => if i = id then some cs else h.box i }
def Heap.newArr (h : Heap) : Heap := { h with n := h.n + 1, live := fun i => if i = h.n then true else h.live i }
def Heap.regrow (h : Heap) (id : Nat) : Heap := { h with n := h.n + 1, live := fun i => if i = h.n then true else if i = id then false else h.live i }
def Heap.newLoop (h : Heap) (r : LoopRec) : Heap := { h with n := h.n + 1, loop := fun i => if i = h.n then some r else h.loop i }
def Heap.setLoop (h : Heap) (id : Nat) (r : LoopRec) : Heap := { h with loop := fun i => if i = id then some r else h.loop i }

def PV.one : PV → Bool
 | .agg _ | .tuple _ => false
 | _ => true
def PV.cells : PV → List PV
 | .agg cs => cs
 | p => [p]

def mapO {α β : Type} (g : α → Option β) : List α → Option (List β)
 | [] => some []
 | x :: xs => match g x, mapO g xs with
  | some y, some ys => some (y :: ys)
  | _, _ => none

def PV.st1 : PV → Option PV
 | .slice .nil es L => some (.slice .nil es L)
 | .slice .full es L => some (.slice .full es L)
 | .slice _ es L => some (.slice .shared es L)
 | .ptr .. | .yield _ | .agg _ | .tuple _ => none
 | .func f first cap => if first.isEmpty && cap.isEmpty then some (.func f [] []) else none
 | p => some p
def PV.st2 : PV → Option PV
 | .agg cs => (mapO PV.st1 cs).map .agg
 | p => p.st1
def PV.st3 : PV → Option PV
 | .tuple vs => (mapO PV.st2 vs).map .tuple
 | p => p.st2

def setAt (cs : List PV) (off : Nat) : List PV → List PV
 | [] => cs
 | v :: vs => setAt (cs.set off v) (off + 1) vs

def fillP (f : Fr) : List PV → List (Nat × Nat × Opd) → Option (List PV)
 | cs, [] => some cs
 | cs, (off, sz, x) :: rest =>
  let vs := (x.ev f).cells
  if vs.length = sz ∧ off + sz ≤ cs.length ∧ vs.all PV.one then fillP f (setAt cs off vs) rest else none

def chunk (es : Nat) : Nat → List PV → List (List PV)
 | 0, _ => []
 | n + 1, cs => cs.take es :: chunk es n (cs.drop es)

def readAt (cs : List PV) (off : Nat) : Option Nat → Option PV
 | none => cs[off]?
 | some n => if off + n ≤ cs.length then some (.agg ((cs.drop off).take n)) else none

def byteCell (c : UInt8) : List PV := [.int .u8 c.toNat]
def cellByte : List PV → Option UInt8
 | [.int .u8 n] => some (UInt8.ofNat n.toNat)
 | _ => none

def bytesLess : List UInt8 → List UInt8 → Bool := Op.bytesLess

def tagEq : TypeDesc → PV → PV → Option Bool
 | .bool, .bool a, .bool b => some (a == b)
 | .int _, .int j a, .int k b => if j = k then some (a == b) else none
 | .string, .str a, .str b => some (a == b)
 | _, _, _ => none

def tagsEq : List TypeDesc → List PV → List PV → Option Bool
 | [], [], [] => some true
 | t :: ts, x :: xs, y :: ys => match tagEq t x y, tagsEq ts xs ys with
  | some a, some b => some (a && b)
  | _, _ => none
 | _, _, _ => none

def eqP (e : EqK) (x y : PV) : Option Bool :=
 match e, x, y with
 | .bool, .bool a, .bool b => some (a == b)
 | .ptr, .nilptr, .nilptr => some true
 | .ptr, .nilptr, .ptr .. | .ptr, .ptr .., .nilptr | .ptr, .nilptr, .cptr .. | .ptr, .cptr .., .nilptr => some false
 | .slice, .slice .nil _ _, .slice .nil _ _ => some true
 | .slice, .slice .nil _ _, .slice (.own _ _) _ _ | .slice, .slice (.own _ _) _ _, .slice .nil _ _ => some false
 | .iface, .nilIface, .nilIface => some true
 | .iface, .nilIface, .ifc | .iface, .ifc, .nilIface | .iface, .nilIface, .ifcI .. | .iface, .ifcI .., .nilIface => some false
 | .ifaceI ts, .ifcI t k a, .ifcI t' k' b => if t = t' then (if k = k' ∧ t ∈ ts then some (a == b) else none) else some false
 | .func, .nilfunc, .nilfunc => some true
 | .func, .func .., .nilfunc | .func, .nilfunc, .func .. => some false
 | .agg ts, .agg xs, .agg ys => tagsEq ts xs ys
 | _, _, _ => none

def bitsP (op : BinOp) (k : IntKind) (x y : Int) : Option PV :=
 let a := BitVec.ofInt k.bits x
 let b := BitVec.ofInt k.bits y
 match op with
 | .and => some (.int k (k.wrap (a &&& b).toNat))
 | .or => some (.int k (k.wrap (a ||| b).toNat))
 | .xor => some (.int k (k.wrap (a ^^^ b).toNat))
 | .andNot => some (.int k (k.wrap (a &&& ~~~b).toNat))
 | _ => none

def intP (op : BinOp) (k : IntKind) (a b : Int) : Option PV :=
 match op with
 | .add => some (.int k (k.wrap (a + b)))
 | .sub => some (.int k (k.wrap (a - b)))
 | .mul => some (.int k (k.wrap (a * b)))
 | .quo => if b = 0 then none else some (.int k (k.wrap (a.tdiv b)))
 | .rem => if b = 0 then none else some (.int k (a.tmod b))
 | .and => bitsP .and k a b
 | .or => bitsP .or k a b
 | .xor => bitsP .xor k a b
 | .andNot => bitsP .andNot k a b
 | .eql => some (.bool (a == b))
 | .neq => some (.bool (a != b))
 | .lss => some (.bool (a < b))
 | .leq => some (.bool (a ≤ b))
 | .gtr => some (.bool (a > b))
 | .geq => some (.bool (a ≥ b))
 | _ => none

def strP (op : BinOp) (a b : List UInt8) : Option PV :=
 match op with
 | .add => if a.length + b.length ≤ 9223372036854775807 then some (.str (a ++ b)) else none
 | .eql => some (.bool (a == b))
 | .neq => some (.bool !(a == b))
 | .lss => some (.bool (bytesLess a b))
 | .leq => some (.bool (bytesLess a b || a == b))
 | .gtr => some (.bool !(bytesLess a b || a == b))
 | .geq => some (.bool !(bytesLess a b))
 | _ => none

def binP (op : BinOp) (e : EqK) (x y : PV) : Option PV :=
 match x, y with
 | .int k a, .int k' b =>
  match op with
  | .shl => if b < 0 then none else some (.int k (k.wrap (a * 2 ^ (min b.toNat k.bits))))
  | .shr => if b < 0 then none else some (.int k (a.fdiv (2 ^ (min b.toNat k.bits))))
  | op => if k = k' then intP op k a b else none
 | .str a, .str b => strP op a b
 | x, y => match op with
  | .eql => (eqP e x y).map .bool
  | .neq => (eqP e x y).map fun b => .bool !b
  | _ => none

def unP (op : UnOp) (x : PV) : Option PV :=
 match op, x with
 | .neg, .int k n => some (.int k (k.wrap (0 - n)))
 | .xor, .int k n => bitsP .xor k (if k.signed then -1 else k.max) n
 | .not, .bool b => some (.bool !b)
 | _, _ => none

def boundP (f : Fr) (d y : Nat) : Option Opd → Option Nat
 | none => some d
 | some x => match x.ev f with
  | .int _ i => if 0 ≤ i ∧ i ≤ y then some i.toNat else none
  | _ => none

def elemsOf (u8 : Bool) : PV → Option (List (List PV))
 | .slice _ _ M => some M
 | .str s => if u8 then some (s.map byteCell) else none
 | _ => none

def esOk (es : Nat) : PV → Bool
 | .slice .nil _ _ => true
 | .slice _ e _ => e == es
 | .str _ => es == 1
 | _ => false

def appP (es bytes : Nat) (u8 : Bool) (x y : PV) (h : Heap) : Option (PV × Heap) :=
 match x, elemsOf u8 y with
 | .slice o _ L, some M =>
  if esOk es x = true ∧ esOk es y = true ∧ (2 * (L.length + M.length) + 1000) * bytes ≤ 140737488355328 then
   match o with
   | .nil => if M.isEmpty then some (.slice .nil es [], h) else some (.slice (.own h.n u8) es (L ++ M), h.newArr)
   | .full => if M.isEmpty then none else some (.slice (.own h.n u8) es (L ++ M), h.newArr)
   | .own id ub => if h.live id then some (.slice (.own h.n (ub && u8)) es (L ++ M), h.regrow id) else none
   | .shared => none
  else none
 | _, _ => none

def loadP (h : Heap) (q : PV) (n : Option Nat) : Option (PV × Heap) :=
 match q with
 | .ptr id off => (h.box id).bind fun cs => (readAt cs off n).map fun v => (v, h)
 | .cptr cs off => (readAt cs off n).map fun v => (v, h)
 | _ => none
def storeP (h : Heap) (q : PV) (n : Nat) (vs : List PV) : Option (PV × Heap) :=
 match q with
 | .ptr id off => (h.box id).bind fun cs => if vs.length = n ∧ off + n ≤ cs.length ∧ vs.all PV.one then some (undefP, h.setBox id (setAt cs off vs)) else none
 | _ => none
def faddrP (o : Nat) (q : PV) (h : Heap) : Option (PV × Heap) :=
 match q with
 | .ptr id off => some (.ptr id (off + o), h)
 | .cptr cs off => some (.cptr cs (off + o), h)
 | _ => none
def iaddrAP (len es : Nat) (q : PV) (n : Int) (h : Heap) : Option (PV × Heap) :=
 if 0 ≤ n ∧ n < len then faddrP (n.toNat * es) q h else none
def subOwn (o : Own) (c : Prop) [Decidable c] : Own :=
 match o with
 | .nil => .nil
 | o => if c then o else .shared
def fullOwn (o : Own) (c : Prop) [Decidable c] : Own :=
 match o with
 | .nil => .nil
 | _ => if c then .full else .shared

section eval
variable (orc : FuncId → List PV → Option PV) (pure : FuncId → List PV → Option PV) (call : PV → List PV → Heap → Option (PV × Heap))

def evalOp (op : ROp) (f : Fr) (h : Heap) : Option (PV × Heap) :=
 match op with
 | .mov x => some (x.ev f, h)
 | .pick c a b => match c.ev f with
  | .bool t => some (if t then a.ev f else b.ev f, h)
  | _ => none
 | .alloc ty z => some (.ptr h.n 0, h.newBox ty z)
 | .box ty x => if (x.ev f).cells.all PV.one then some (.ptr h.n 0, h.newBox ty (x.ev f).cells) else none
 | .mkif t x => match x.ev f with
  | .int k n => some (.ifcI t k n, h)
  | .agg _ | .tuple _ => none
  | _ => some (.ifc, h)
 | .build z parts => (fillP f z parts).map fun cs => (.agg cs, h)
 | .bslice es len _ z parts => (fillP f z parts).bind fun cs =>
   match mapO PV.st1 cs with
   | some cs' => some (.slice (.own h.n false) es (chunk es len cs'), h.newArr)
   | none => none
 | .load n a => loadP h (a.ev f) n
 | .store n a x => storeP h (a.ev f) n (x.ev f).cells
 | .nilck x => match x.ev f with
  | .ptr id off => some (.ptr id off, h)
  | .cptr cs off => some (.cptr cs off, h)
  | .func g a b => some (.func g a b, h)
  | _ => none
 | .bin op e x y => (binP op e (x.ev f) (y.ev f)).map fun v => (v, h)
 | .un op x => (unP op (x.ev f)).map fun v => (v, h)
 | .conv c x => match c, x.ev f with
  | .int k, .int _ n => some (.int k (k.wrap n), h)
  | .same, .str s => some (.str s, h)
  | .s2b, .str s => some (.slice (.own h.n false) 1 (s.map byteCell), h.newArr)
  | .b2s, .slice o es L => if es = 1 ∨ L = [] then (mapO cellByte L).map fun s => (.str s, h) else none
  | _, _ => none
 | .mkfunc g first cap => some (.func g (first.map (Opd.ev f)) (cap.map (Opd.ev f)), h)
 | .mkslice es bytes z l c => match l.ev f, c.ev f with
  | .int _ a, .int _ b => if 0 ≤ a ∧ a ≤ b ∧ bytes * b ≤ 281474976710656 ∧ b ≤ 9223372036854775807 then some (.slice (.own h.n false) es (List.replicate a.toNat z), h.newArr) else none
  | _, _ => none
 | .sliceS x lo hi => match x.ev f with
  | .str s => (boundP f s.length s.length hi).bind fun b => (boundP f 0 b lo).map fun a => (.str ((s.take b).drop a), h)
  | _ => none
 | .slice z x lo hi mx => if esOk z (x.ev f) then match x.ev f, mx with
  | .slice o es L, none => (boundP f L.length L.length hi).bind fun b => (boundP f 0 b lo).map fun a =>
    (.slice (subOwn o (a = 0 ∧ b = L.length)) es ((L.take b).drop a), h)
  | .slice o es L, some m => (boundP f L.length L.length (some m)).bind fun c => match hi with
   | some hi => (boundP f 0 c (some hi)).bind fun b => (boundP f 0 b lo).map fun a =>
    (.slice (fullOwn o (b = c)) es ((L.take b).drop a), h)
   | none => none
  | _, _ => none
  else none
 | .faddr o x => faddrP o (x.ev f) h
 | .field o n x => match x.ev f with
  | .agg cs => (readAt cs o n).map fun v => (v, h)
  | _ => none
 | .iaddr es x i => match x.ev f, i.ev f with
  | .slice _ e L, .int _ n => if 0 ≤ n ∧ e = es then (L[n.toNat]?).map fun c => (.cptr c 0, h) else none
  | _, _ => none
 | .iaddrA len es x i => match i.ev f with
  | .int _ n => iaddrAP len es (x.ev f) n h
  | _ => none
 | .indexS x i => match x.ev f, i.ev f with
  | .str s, .int _ n => if 0 ≤ n then (s[n.toNat]?).map fun c => (.int .u8 c.toNat, h) else none
  | _, _ => none
 | .indexA len es n x i => match x.ev f, i.ev f with
  | .agg cs, .int _ j => if 0 ≤ j ∧ j < len then (readAt cs (j.toNat * es) n).map fun v => (v, h) else none
  | _, _ => none
 | .extract i x => match x.ev f with
  | .tuple vs => (vs[i]?).map fun v => (v, h)
  | _ => none
 | .len b x => match b, x.ev f with
  | true, .str s => some (.int .i64 s.length, h)
  | false, .slice _ _ L => some (.int .i64 L.length, h)
  | _, _ => none
 | .min x y => match x.ev f, y.ev f with
  | .int k a, .int _ b => some (.int k (if b < a then b else a), h)
  | _, _ => none
 | .app es bytes u8 x y => appP es bytes u8 (x.ev f) (y.ev f) h
 | .call g args => call (g.ev f) (args.map (Opd.ev f)) h
 | .pcall g args => (mapO (fun x => (Opd.ev f x).st2) args).bind fun as => (pure g as).map fun v => (v, h)
 | .ocall g args => (mapO (fun x => (Opd.ev f x).st2) args).bind fun as => (orc g as).map fun v => (v, h)

def wantedP (f : Fr) : Option (Nat × Bool) → Bool
 | none => true
 | some (t, b) => match f t with
  | .bool c => c == b
  | _ => false

def putD (f : Fr) : Option Nat → PV → Fr
 | some d, v => f.put d v
 | none, _ => f

def evalOps : List ROper → Fr → Heap → Option (Fr × Heap)
 | [], f, h => some (f, h)
 | o :: rest, f, h =>
  if wantedP f o.guard then (evalOp orc pure call o.op f h).bind fun r => evalOps rest (putD f o.dst r.1) r.2
  else evalOps rest (putD f o.dst undefP) h
end eval

def apart (a : PV) (n : Nat) (b : PV) (m : Nat) : Prop :=
 match a, b with
 | .ptr i o, .ptr j q => i ≠ j ∨ o + n ≤ q ∨ q + m ≤ o
 | .cptr .., _ | _, .cptr .. => True
 | .tuple _, .ptr .. | .ptr .., .tuple _ | .tuple _, .tuple _ => True
 | _, _ => False

def chkOk (f : Fr) : List Chk → Prop
 | [] => True
 | c :: cs => apart (c.a.ev f) c.n (c.b.ev f) c.m ∧ chkOk f cs

instance (a : PV) (n : Nat) (b : PV) (m : Nat) : Decidable (apart a n b m) := by
 unfold apart; split <;> infer_instance
instance chkDec (f : Fr) : ∀ l, Decidable (chkOk f l)
 | [] => isTrue trivial
 | c :: cs => have := chkDec f cs; by unfold chkOk; infer_instance

inductive RRes where
 | tmp (t : Nat)
 | cell (t : Nat) (n : Option Nat)

structure RFunc where
 np : Nat
 nt : Nat
 results : List RRes
 body : RCode

structure Env where
 fn : FuncId → Option RFunc
 orc : FuncId → List PV → Option PV
 horc : FuncId → List PV → Heap → Option (PV × Heap)

abbrev DC := RCode → Fr → Heap → Option (RExit × Fr × Heap)

def resP (f : Fr) (h : Heap) : RRes → Option PV
 | .tmp t => some (f t)
 | .cell t n => match f t with
  | .ptr id off => (h.box id).bind fun cs => readAt cs off n
  | _ => none

def packP : List PV → PV
 | [v] => v
 | vs => .tuple vs

def frameOf : List PV → Nat → Fr
 | [], _ => fun _ => undefP
 | v :: vs, i => (frameOf vs (i + 1)).put i v

def putAll (f : Fr) : List Nat → List PV → Fr
 | t :: ts, v :: vs => putAll (f.put t v) ts vs
 | _, _ => f

def enterP (dC : DC) (R : RFunc) (args : List PV) (h : Heap) : Option (PV × Heap) :=
 if args.length = R.np then
  match dC R.body (frameOf args 0) h with
  | some (.normal, f, h') | some (.ret, f, h') => (mapO (resP f h') R.results).map fun vs => (packP vs, h')
  | _ => none
 else none

def roundP (dC : DC) (l : Nat) (r : LoopRec) (args : List PV) (h : Heap) : Option (PV × Heap) :=
 match r.state with
 | .ready =>
  if args.length = r.params.length then
   match dC r.assign (putAll r.tmps r.params args) h with
   | some (.normal, f, h1) => match h1.loop l with
    | some r1 => match r1.state with
     | .ready => match dC r.body f (h1.setLoop l { r1 with state := .busy }) with
      | some (e, _, h2) => match h2.loop l with
       | some r2 => match e with
        | .normal => some (.bool true, h2.setLoop l { r2 with state := .ready, pending := none })
        | e => some (.bool false, h2.setLoop l { r2 with state := .done, pending := some e })
       | none => none
      | none => none
     | _ => none
    | none => none
   | _ => none
  else none
 | _ => none

def callP (E : Env) (dC : DC) (fv : PV) (args : List PV) (h : Heap) : Option (PV × Heap) :=
 match fv with
 | .func g first cap => match E.fn g with
  | some R => enterP dC R (first ++ args ++ cap) h
  | none => E.horc g (first ++ args ++ cap) h
 | .yield l => (h.loop l).bind fun r => roundP dC l r args h
 | _ => none

def pureP (E : Env) (dC : DC) (g : FuncId) (args : List PV) : Option PV :=
 ((E.fn g).bind fun R => enterP dC R args Heap.empty).bind fun r => r.1.st3

def stepC (E : Env) (dC : DC) : DC := fun c f h =>
 match c with
 | .skip => some (.normal, f, h)
 | .region ops chk => (evalOps E.orc (pureP E dC) (callP E dC) ops f h).bind fun r => if chkOk r.1 chk then some (.normal, r.1, r.2) else none
 | .seq a b => match dC a f h with
  | some (.normal, f', h') => dC b f' h'
  | r => r
 | .cond x a b => match x.ev f with
  | .bool true => dC a f h
  | .bool false => dC b f h
  | _ => none
 | .block id b => match dC b f h with
  | some (.exit i, f', h') => some (if i = id then .normal else .exit i, f', h')
  | r => r
 | .scope b => dC b f h
 | .loop b => match dC b f h with
  | some (.normal, f', h') => dC (.loop b) f' h'
  | r => r
 | .exit id => some (.exit id, f, h)
 | .ret => some (.ret, f, h)
 | .rangeFunc g ps as body => match g.ev f with
  | .func k first cap =>
   match callP E dC (.func k first cap) [.yield h.n] (h.newLoop { state := .ready, pending := none, tmps := f, params := ps, assign := as, body := body }) with
   | some (_, h') => match h'.loop h.n with
    | some r => match r.state with
     | .busy => none
     | _ => some ((match r.pending with | none => .normal | some e => e), f, h'.setLoop h.n { r with state := .exhausted })
    | none => none
   | none => none
  | _ => none

def den (E : Env) : Nat → DC
 | 0 => fun _ _ _ => none
 | k + 1 => stepC E (den E k)


def ofVal : Value → Option PV
 | .bool b => some (.bool b)
 | .int k n => some (.int k n)
 | .string s => some (.str s.data.toList)
 | .pointer none => some .nilptr
 | .slice none 0 0 => some (.slice .nil 0 [])
 | .nilFunc => some .nilfunc
 | .nilIface => some .nilIface
 | _ => none

def ofVals (v : Value) : Option (List PV) := mapO ofVal v.cells.toList

structure CEnv where
 glob : Nat → Option (List PV)
 pm : FuncId → Bool
 orc : FuncId → Bool
 ik : List TypeId := []

variable (P : Program) (C : CEnv)

def cOpd : Operand → Option Opd
 | .tmp t => some (.tmp t)
 | .const (.tuple vs) => if vs.size = 0 then some (.const undefP) else none
 | .const v => (ofVal v).map .const
 | .global g => (C.glob g).map fun cs => .const (.cptr cs 0)
 | .func f => some (.const (.func f [] []))

def isAggT (t : TypeId) : Option Bool :=
 (P.underlying t).map fun
  | .struct _ | .array _ _ => true
  | _ => false

def sizeT (t : TypeId) : Option Nat := (P.info? t).map (·.size)
def bytesT (t : TypeId) : Option Nat := (P.info? t).map (·.bytes)
def repT (t : TypeId) : Option (Option Nat) :=
 match isAggT P t, sizeT P t with
 | some true, some n => some (some n)
 | some false, some _ => some none
 | _, _ => none
def zeroT (t : TypeId) : Option (List PV) := ((P.info? t).bind (·.zero)).bind ofVals

def cParts (place : Nat → Option (Nat × Nat)) : List (Nat × Operand) → Option (List (Nat × Nat × Opd))
 | [] => some []
 | (i, x) :: rest => match place i, cOpd C x, cParts place rest with
  | some (o, s), some y, some r => some ((o, s, y) :: r)
  | _, _, _ => none

def repeatL {α : Type} (z : List α) : Nat → List α
 | 0 => []
 | n + 1 => z ++ repeatL z n

def eqTags : List Field → Nat → Option (List TypeDesc)
 | [], _ => some []
 | fd :: rest, off => if fd.offset = off ∧ fd.name ≠ "_" then
   match P.underlying fd.type, eqTags rest (off + 1) with
   | some .bool, some ts => some (.bool :: ts)
   | some (.int k), some ts => some (.int k :: ts)
   | some .string, some ts => some (.string :: ts)
   | _, _ => none
  else none

def cEq (t : TypeId) : EqK :=
 match P.underlying t with
 | some .bool => .bool
 | some (.pointer _) => .ptr
 | some (.slice _) => .slice
 | some (.interface _) => .iface
 | some (.func ..) => .func
 | some (.struct fields) => if P.stoodInHeld t then .none else if P.eqGuardType P.depth t then .none else match eqTags P fields.toList 0 with
  | some ts => .agg ts
  | none => .none
 | _ => .none

def cOpds : List Operand → Option (List Opd) := mapO (cOpd C)

def cOptOpd : Option Operand → Option (Option Opd)
 | none => some none
 | some x => (cOpd C x).map some

def cCall (c : Call) : Option ROp :=
 match c.callee with
 | .value (.func f) => (cOpds C c.args.toList).map fun as => if C.orc f then .ocall f as else if C.pm f then .pcall f as else .call (.const (.func f [] [])) as
 | .value g => match cOpd C g, cOpds C c.args.toList with
  | some g, some as => some (.call g as)
  | _, _ => none
 | .invoke .. => none
 | .builtin .len => match c.args.toList, c.argTypes.toList with
  | [x], [t] => match P.underlying t with
   | some .string => (cOpd C x).map (.len true)
   | some (.slice _) => (cOpd C x).map (.len false)
   | _ => none
  | _, _ => none
 | .builtin .min => match c.args.toList with
  | [x, y] => match cOpd C x, cOpd C y with
   | some x, some y => some (.min x y)
   | _, _ => none
  | _ => none
 | .builtin .append => match c.args.toList, c.argTypes.toList with
  | [x, y], [t, u] => match P.underlying t, P.underlying u with
   | some (.slice e), some d => match d with
    | .slice _ | .string => match cOpd C x, cOpd C y, sizeT P e, bytesT P e, zeroT P e with
     | some x, some y, some es, some bs, some z => if bs = 0 ∨ z.length ≠ es then none else some (.app es bs (match P.underlying e with | some (.int .u8) => es == 1 | _ => false) x y)
     | _, _, _, _, _ => none
    | _ => none
   | _, _ => none
  | _, _ => none
 | .builtin _ => none

def isNilIface : Operand → Bool
 | .const .nilIface => true
 | _ => false

def compInt (t : TypeId) : Bool :=
 match P.underlying t, P.info? t with
 | some (.int _), some i => i.comparable
 | _, _ => false

def ekOf (e : EqK) (x y : Operand) : EqK :=
 match e with
 | .iface => if isNilIface x || isNilIface y then .iface else if C.ik.all (compInt P) then .ifaceI C.ik else .none
 | e => e

def cOp (o : Op) : Option ROp :=
 match o with
 | .move x | .assign x => (cOpd C x).map .mov
 | .pick c a b => match cOpd C c, cOpd C a, cOpd C b with
  | some c, some a, some b => some (.pick c a b)
  | _, _, _ => none
 | .alloc t => (zeroT P t).map (.alloc t)
 | .box t x => (cOpd C x).map (.box t)
 | .makeInterface t x => match P.underlying t with
  | some (.interface _) => none
  | some _ => (cOpd C x).map (.mkif t)
  | none => none
 | .build t parts => match P.underlying t, zeroT P t with
  | some (.struct fields), some z =>
   match mapO (fun fd : Field => sizeT P fd.type) fields.toList with
   | some _ => (cParts C (fun i => (fields[i]?).bind fun fd => (sizeT P fd.type).map fun s => (fd.offset, s)) parts.toList).map (.build z)
   | none => none
  | some (.array _ e), some z => (sizeT P e).bind fun s => (cParts C (fun i => some (i * s, s)) parts.toList).map (.build z)
  | _, _ => none
 | .buildSlice t len parts => match P.underlying t with
  | some (.slice e) => match sizeT P e, bytesT P e, zeroT P e with
   | some es, some bs, some z => if 0 < es ∧ z.length = es ∧ len * es ≤ 16777216 then (cParts C (fun i => some (i * es, es)) parts.toList).map (.bslice es len bs (repeatL z len)) else none
   | _, _, _ => none
  | _ => none
 | .load t a => match repT P t, cOpd C a with
  | some n, some a => some (.load n a)
  | _, _ => none
 | .store t a x => match sizeT P t, cOpd C a, cOpd C x with
  | some n, some a, some x => some (.store n a x)
  | _, _, _ => none
 | .nilCheck x => (cOpd C x).map .nilck
 | .binOp op t x y _ => match cOpd C x, cOpd C y with
  | some x', some y' => some (.bin op (ekOf P C (cEq P t) x y) x' y')
  | _, _ => none
 | .unOp op _ x => (cOpd C x).map (.un op)
 | .convert s d x => match P.underlying s, P.underlying d, cOpd C x with
  | some _, some (.int k), some x => some (.conv (.int k) x)
  | some .string, some .string, some x => some (.conv .same x)
  | some .string, some (.slice e), some x => match P.underlying e, sizeT P e with
   | some (.int .u8), some 1 => some (.conv .s2b x)
   | _, _ => none
  | some (.slice e), some .string, some x => match P.underlying e with
   | some (.int .u8) => some (.conv .b2s x)
   | _ => none
  | _, _, _ => none
 | .makeFunc (.func g) first cap => match cOpds C first.toList, cOpds C cap.toList with
  | some a, some b => some (.mkfunc g a b)
  | _, _ => none
 | .makeSlice t l c => match P.underlying t with
  | some (.slice e) => match sizeT P e, bytesT P e, zeroT P e, cOpd C l, cOpd C c with
   | some es, some bs, some z, some l, some c => if z.length = es ∧ 0 < es then some (.mkslice es bs z l c) else none
   | _, _, _, _, _ => none
  | _ => none
 | .slice t x lo hi mx => match P.underlying t, cOpd C x, cOptOpd C lo, cOptOpd C hi, cOptOpd C mx with
  | some .string, some x, some lo, some hi, some none => some (.sliceS x lo hi)
  | some (.slice e), some x, some lo, some hi, some mx => (sizeT P e).map fun z => .slice z x lo hi mx
  | _, _, _, _, _ => none
 | .fieldAddr s x i => match P.underlying s, cOpd C x with
  | some (.struct fields), some x => match fields[i]? with
   | some fd => match sizeT P fd.type with
    | some n => if n = 0 then none else some (.faddr fd.offset x)
    | none => none
   | none => none
  | _, _ => none
 | .field t x i => match P.underlying t, cOpd C x with
  | some (.struct fields), some x => match fields[i]? with
   | some fd => (repT P fd.type).map fun n => .field fd.offset n x
   | none => none
  | _, _ => none
 | .indexAddr t x i => match P.underlying t, cOpd C x, cOpd C i with
  | some (.slice e), some x, some i => (sizeT P e).map fun es => .iaddr es x i
  | some (.array len e), some x, some i => (sizeT P e).map fun es => .iaddrA len es x i
  | _, _, _ => none
 | .index t x i => match P.underlying t, cOpd C x, cOpd C i with
  | some .string, some x, some i => some (.indexS x i)
  | some (.array len e), some x, some i => match sizeT P e, repT P e with
   | some es, some n => some (.indexA len es n x i)
   | _, _ => none
  | _, _, _ => none
 | .extract t i => (cOpd C t).map (.extract i)
 | .call c => cCall P C c
 | _ => none


def Opd.slot : Opd → List Nat
 | .tmp t => [t]
 | .const _ => []
def Opd.slotO : Option Opd → List Nat
 | some x => x.slot
 | none => []

def ROp.slots : ROp → List Nat
 | .alloc .. => []
 | .mov x | .box _ x | .mkif _ x | .load _ x | .nilck x | .un _ x | .conv _ x | .faddr _ x | .field _ _ x | .extract _ x | .len _ x => x.slot
 | .pick a b c => a.slot ++ b.slot ++ c.slot
 | .build _ ps | .bslice _ _ _ _ ps => ps.flatMap fun p => p.2.2.slot
 | .store _ x y | .bin _ _ x y | .mkslice _ _ _ x y | .iaddr _ x y | .iaddrA _ _ x y | .indexS x y | .indexA _ _ _ x y | .min x y | .app _ _ _ x y => x.slot ++ y.slot
 | .mkfunc _ xs ys => xs.flatMap Opd.slot ++ ys.flatMap Opd.slot
 | .sliceS x lo hi => x.slot ++ Opd.slotO lo ++ Opd.slotO hi
 | .slice _ x lo hi mx => x.slot ++ Opd.slotO lo ++ Opd.slotO hi ++ Opd.slotO mx
 | .call g xs => g.slot ++ xs.flatMap Opd.slot
 | .pcall _ xs | .ocall _ xs => xs.flatMap Opd.slot

def ROper.slots (x : ROper) : List Nat :=
 x.op.slots ++ (match x.guard with | some (t, _) => [t] | none => [])

def maskOf (acc : List Nat) (o : Oper) : Nat :=
 o.after.toList.foldl (fun s e => if Region.binds .any e then s ||| 2 ^ e.on ||| acc.getD e.on 0 else s) 0
def masks : List Oper → List Nat → List Nat
 | [], acc => acc
 | o :: os, acc => masks os (acc ++ [maskOf acc o])

inductive Kind where
 | pure | reads | effect
 deriving DecidableEq

def ROp.kind : ROp → Kind
 | .load .. => .reads
 | .alloc .. | .box .. | .bslice .. | .store .. | .mkslice .. | .app .. | .call .. => .effect
 | .conv .s2b _ => .effect
 | _ => .pure

def bef (m : List Nat) (i j : Nat) : Bool := (m.getD j 0).testBit i

def chk1 : ROp → ROp → Option (Option Chk)
 | .store n a _, .load k b => some (some { a := a, n := n, b := b, m := k.getD 1 })
 | .call .., _ => none
 | _, _ => some none

def chkPairs (m : List Nat) (rs : List ROper) : List (ROp × ROp) :=
 let ix := rs.zipIdx
 ix.flatMap fun (x, i) => ix.filterMap fun (y, j) =>
  if x.op.kind == .effect && y.op.kind == .reads && !bef m i j && !bef m j i then some (x.op, y.op) else none

def chkAll : List (ROp × ROp) → Option (List Chk)
 | [] => some []
 | (x, y) :: rest => match chk1 x y, chkAll rest with
  | some (some c), some cs => some (c :: cs)
  | some none, some cs => some cs
  | _, _ => none

def chkOf (m : List Nat) (rs : List ROper) : Option (List Chk) := chkAll (chkPairs m rs)

def ptrOpds : ROp → List Nat
 | .store _ (.tmp t) _ => [t]
 | .load _ (.tmp t) => [t]
 | _ => []

def drawOk (ops : Array Oper) (rs : List ROper) (m : List Nat) : Bool :=
 let ix := rs.zipIdx
 (ix.all fun (x, i) => ix.all fun (y, j) => i == j || x.dst.isNone || x.dst != y.dst) &&
 (ops.toList.zipIdx.all fun (o, i) => o.after.toList.all fun e => !Region.binds .any e || e.on < i) &&
 (ix.all fun (x, i) => x.slots.all fun t => ix.all fun (y, j) => y.dst != some t || bef m j i || bef m i j) &&
 (ix.all fun (x, i) => ix.all fun (y, j) => !(i < j) || !(x.op.kind == .effect && y.op.kind == .effect) || bef m i j) &&
 (ix.all fun (x, i) => (ptrOpds x.op).all fun t => ix.all fun (y, j) => y.dst != some t || bef m j i)

def cGuard (ops : Array Oper) : Option (Nat × Bool) → Option (Option (Nat × Bool))
 | none => some none
 | some (j, b) => ((ops[j]?).bind (·.dst)).map fun t => some (t, b)

def cOper (nt : Nat) (ops : Array Oper) (o : Oper) : Option ROper :=
 match cOp P C o.op, cGuard ops o.guard with
 | some r, some g => (match o.dst with
  | some d => if d < nt then some { dst := some d, op := r, guard := g } else none
  | none => some { dst := none, op := r, guard := g })
 | _, _ => none

def cCode (nt : Nat) : Code → Option RCode
 | .skip => some .skip
 | .region _ ops draw => match mapO (cOper P C nt ops) ops.toList with
  | some rs =>
   if draw then
    let m := masks ops.toList []
    if drawOk ops rs m then (chkOf m rs).map (.region rs) else none
   else some (.region rs [])
  | none => none
 | .seq a b => match cCode nt a, cCode nt b with
  | some x, some y => some (.seq x y)
  | _, _ => none
 | .cond c a b => match cOpd C c, cCode nt a, cCode nt b with
  | some c, some x, some y => some (.cond c x y)
  | _, _, _ => none
 | .block id b => (cCode nt b).map (.block id)
 | .loop b => (cCode nt b).map .loop
 | .rangeFunc g ps as body => match cOpd C g, cCode nt as, cCode nt body with
  | some g, some x, some y => if ps.toList.all (· < nt) then some (.rangeFunc g ps.toList x y) else none
  | _, _, _ => none
 | .exit id => some (.exit id)
 | .ret => some .ret
 | .scope b => (cCode nt b).map .scope
 | .label _ => some .skip
 | .refuse _ => some (.region [] [{ a := .const .nilIface, n := 0, b := .const .nilIface, m := 0 }])
 | .goto _ => none

def cRes (nt : Nat) : ResultVar → Option RRes
 | .tmp t => if t < nt then some (.tmp t) else none
 | .cell t ty => if t < nt then (repT P ty).map (.cell t) else none

def cFunc (fn : Func) : Option RFunc :=
 if fn.name = "runtime.NumGoroutine" then none else
 match fn.body with
 | none => none
 | some c => match cCode P C fn.ntmps c, mapO (cRes P fn.ntmps) fn.results.toList with
  | some b, some rs => if fn.params.size + fn.nfree ≤ fn.ntmps then some { np := fn.params.size + fn.nfree, nt := fn.ntmps, results := rs, body := b } else none
  | _, _ => none

def compile (f : FuncId) : Option RFunc := (P.funcs[f]?).bind (cFunc P C)

end Go.Proofs.YtmngkcpobmhnoaaGreatDoor.Sim
/- The relation between abstract and model states: values, heaps, steps of worlds; what keeps it. -/
namespace Go.Proofs.YtmngkcpobmhnoaaGreatDoor.Sim

structure Ghost where
 b : Nat
 fend : Nat
 cend : Nat
 u8 : Bool

structure KW where
 n : Nat
 ρ : Nat → Option Nat
 im : Nat → Nat → Option Value
 gh : Nat → Option Ghost
 lp : Nat → Option Nat

abbrev Im := Nat → Nat → Option Value

inductive IR (im : Im) : PV → Value → Prop
 | int (k : IntKind) (n : Int) : IR im (.int k n) (.int k n)
 | bool (b : Bool) : IR im (.bool b) (.bool b)
 | str (s : List UInt8) : IR im (.str s) (.string ⟨s.toArray⟩)
 | nilptr : IR im .nilptr (.pointer none)
 | nilfunc : IR im .nilfunc .nilFunc
 | nilIface : IR im .nilIface .nilIface
 | ifc (t : TypeId) (v : Value) : IR im .ifc (.iface t v)
 | ifcI (t : TypeId) (k : IntKind) (n : Int) : IR im (.ifcI t k n) (.iface t (.int k n))
 | anyInt (k : IntKind) (n : Int) : IR im (.anyInt k) (.int k n)
 | func (f : FuncId) : IR im (.func f [] []) (.func (.func f) #[] #[])
 | snil (es : Nat) : IR im (.slice .nil es []) (.slice none 0 0)
 | snil' (es : Nat) : IR im (.slice .shared es []) (.slice none 0 0)
 | snil'' (es : Nat) : IR im (.slice .full es []) (.slice none 0 0)
 | shared (es : Nat) (L : List (List PV)) (b off cap : Nat) (hcap : L.length ≤ cap)
   (hl : ∀ (i : Nat) (e : List PV), L[i]? = some e → e.length = es)
   (h1 : ∀ (i : Nat) (e : List PV) (j : Nat) (p : PV), L[i]? = some e → e[j]? = some p → (im b (off + i * es + j)).isSome)
   (h2 : ∀ (i : Nat) (e : List PV) (j : Nat) (p : PV) (c : Value), L[i]? = some e → e[j]? = some p → im b (off + i * es + j) = some c → IR im p c) :
   IR im (.slice .shared es L) (.slice (some ⟨b, off, none⟩) L.length cap)
 | full (es : Nat) (L : List (List PV)) (b off : Nat)
   (hl : ∀ (i : Nat) (e : List PV), L[i]? = some e → e.length = es)
   (h1 : ∀ (i : Nat) (e : List PV) (j : Nat) (p : PV), L[i]? = some e → e[j]? = some p → (im b (off + i * es + j)).isSome)
   (h2 : ∀ (i : Nat) (e : List PV) (j : Nat) (p : PV) (c : Value), L[i]? = some e → e[j]? = some p → im b (off + i * es + j) = some c → IR im p c) :
   IR im (.slice .full es L) (.slice (some ⟨b, off, none⟩) L.length L.length)
 | cptr (cs : List PV) (b o off : Nat)
   (h1 : ∀ (j : Nat) (p : PV), cs[j]? = some p → (im b (o + j)).isSome)
   (h2 : ∀ (j : Nat) (p : PV) (c : Value), cs[j]? = some p → im b (o + j) = some c → IR im p c) :
   IR im (.cptr cs off) (.pointer (some ⟨b, o + off, none⟩))

def Im.le (im im' : Im) : Prop := ∀ b o v, im b o = some v → im' b o = some v

theorem IR.mono {im im' : Im} (hle : im.le im') {p : PV} {v : Value} (h : IR im p v) : IR im' p v := by
 induction h with
 | shared es L b off cap hcap hl h1 h2 ih =>
  refine .shared es L b off cap hcap hl (fun i e j p hi hj => ?_) (fun i e j p c hi hj hc => ?_)
  ·obtain ⟨v, hv⟩ := Option.isSome_iff_exists.1 (h1 i e j p hi hj)
   exact Option.isSome_iff_exists.2 ⟨v, hle _ _ _ hv⟩
  ·obtain ⟨v, hv⟩ := Option.isSome_iff_exists.1 (h1 i e j p hi hj)
   have := hle _ _ _ hv
   rw [this] at hc; cases hc
   exact ih i e j p _ hi hj hv
 | full es L b off hl h1 h2 ih =>
  refine .full es L b off hl (fun i e j p hi hj => ?_) (fun i e j p c hi hj hc => ?_)
  ·obtain ⟨v, hv⟩ := Option.isSome_iff_exists.1 (h1 i e j p hi hj)
   exact Option.isSome_iff_exists.2 ⟨v, hle _ _ _ hv⟩
  ·obtain ⟨v, hv⟩ := Option.isSome_iff_exists.1 (h1 i e j p hi hj)
   have := hle _ _ _ hv
   rw [this] at hc; cases hc
   exact ih i e j p _ hi hj hv
 | cptr cs b o off h1 h2 ih =>
  refine .cptr cs b o off (fun j p hj => ?_) (fun j p c hj hc => ?_)
  ·obtain ⟨v, hv⟩ := Option.isSome_iff_exists.1 (h1 j p hj)
   exact Option.isSome_iff_exists.2 ⟨v, hle _ _ _ hv⟩
  ·obtain ⟨v, hv⟩ := Option.isSome_iff_exists.1 (h1 j p hj)
   have := hle _ _ _ hv
   rw [this] at hc; cases hc
   exact ih j p _ hj hv
 | _ => constructor

structure Elems (im : Im) (b off es : Nat) (L : List (List PV)) : Prop where
 hl : ∀ (i : Nat) (e : List PV), L[i]? = some e → e.length = es
 h1 : ∀ (i : Nat) (e : List PV) (j : Nat) (p : PV), L[i]? = some e → e[j]? = some p → (im b (off + i * es + j)).isSome
 h2 : ∀ (i : Nat) (e : List PV) (j : Nat) (p : PV) (c : Value), L[i]? = some e → e[j]? = some p → im b (off + i * es + j) = some c → IR im p c

theorem Elems.mono {im im' : Im} {b off es : Nat} {L : List (List PV)} (hle : im.le im') (h : Elems im b off es L) : Elems im' b off es L where
 hl := h.hl
 h1 i e j p hi hj := by
  obtain ⟨v, hv⟩ := Option.isSome_iff_exists.1 (h.h1 i e j p hi hj)
  exact Option.isSome_iff_exists.2 ⟨v, hle _ _ _ hv⟩
 h2 i e j p c hi hj hc := by
  obtain ⟨v, hv⟩ := Option.isSome_iff_exists.1 (h.h1 i e j p hi hj)
  rw [hle _ _ _ hv] at hc; cases hc
  exact (h.h2 i e j p _ hi hj hv).mono hle

inductive VR (K : KW) : PV → Value → Prop
 | ir {p : PV} {v : Value} (h : IR K.im p v) : VR K p v
 | ptr (id off b : Nat) (hn : id < K.n) (hb : K.ρ id = some b) : VR K (.ptr id off) (.pointer (some ⟨b, off, none⟩))
 | own (id : Nat) (u8 : Bool) (es : Nat) (L : List (List PV)) (b off cap : Nat) (hn : id < K.n) (he : Elems K.im b off es L) (hcap : L.length ≤ cap)
   (hg : ∀ g, K.gh id = some g → g.b = b ∧ g.fend = off + L.length * es ∧ g.cend = off + cap * es ∧ (u8 = true → g.u8 = true)) :
   VR K (.slice (.own id u8) es L) (.slice (some ⟨b, off, none⟩) L.length cap)
 | func (f : FuncId) (first cap : List PV) (fv cv : Array Value) (hf : first.length = fv.size) (hc : cap.length = cv.size)
   (h1 : ∀ (i : Nat) (p : PV) (v : Value), first[i]? = some p → fv[i]? = some v → VR K p v) (h2 : ∀ (i : Nat) (p : PV) (v : Value), cap[i]? = some p → cv[i]? = some v → VR K p v) :
   VR K (.func f first cap) (.func (.func f) fv cv)
 | yield (l r : Nat) (hn : l < K.n) (hl : K.lp l = some r) : VR K (.yield l) (.func (.yield r) #[] #[])
 | agg (ps : List PV) (vs : Array Value) (hs : ps.length = vs.size) (ho : ∀ p ∈ ps, p.one = true)
   (h : ∀ (i : Nat) (p : PV) (v : Value), ps[i]? = some p → vs[i]? = some v → VR K p v) : VR K (.agg ps) (.agg vs)
 | tuple (ps : List PV) (vs : Array Value) (hs : ps.length = vs.size)
   (h : ∀ (i : Nat) (p : PV) (v : Value), ps[i]? = some p → vs[i]? = some v → VR K p v) : VR K (.tuple ps) (.tuple vs)

structure KW.le (K K' : KW) : Prop where
 n : K.n ≤ K'.n
 ρ : ∀ id, id < K.n → K'.ρ id = K.ρ id
 lp : ∀ id, id < K.n → K'.lp id = K.lp id
 gh : ∀ id, id < K.n → ∀ g, K'.gh id = some g → K.gh id = some g
 im : Im.le K.im K'.im

theorem KW.le.refl (K : KW) : K.le K := ⟨Nat.le_refl _, fun _ _ => rfl, fun _ _ => rfl, fun _ _ _ h => h, fun _ _ _ h => h⟩
theorem KW.le.trans {K K' K'' : KW} (h : K.le K') (h' : K'.le K'') : K.le K'' where
 n := Nat.le_trans h.n h'.n
 ρ id hi := by rw [h'.ρ id (Nat.lt_of_lt_of_le hi h.n), h.ρ id hi]
 lp id hi := by rw [h'.lp id (Nat.lt_of_lt_of_le hi h.n), h.lp id hi]
 gh id hi g hg := h.gh id hi g (h'.gh id (Nat.lt_of_lt_of_le hi h.n) g hg)
 im b o v hv := h'.im b o v (h.im b o v hv)

theorem VR.mono {K K' : KW} (hle : K.le K') {p : PV} {v : Value} (h : VR K p v) : VR K' p v := by
 induction h with
 | ir h => exact .ir (h.mono hle.im)
 | ptr id off b hn hb => exact .ptr id off b (Nat.lt_of_lt_of_le hn hle.n) (by rw [hle.ρ id hn]; exact hb)
 | own id u8 es L b off cap hn he hcap hg => exact .own id u8 es L b off cap (Nat.lt_of_lt_of_le hn hle.n) (he.mono hle.im) hcap (fun g h => hg g (hle.gh id hn g h))
 | func f first cap fv cv hf hc h1 h2 ih1 ih2 => exact .func f first cap fv cv hf hc ih1 ih2
 | yield l r hn hl => exact .yield l r (Nat.lt_of_lt_of_le hn hle.n) (by rw [hle.lp l hn]; exact hl)
 | agg ps vs hs ho h ih => exact .agg ps vs hs ho ih
 | tuple ps vs hs h ih => exact .tuple ps vs hs ih

def KW.fp (K : KW) (b : Nat) : Prop := (∃ id, K.ρ id = some b) ∨ (∃ id g, K.gh id = some g ∧ g.b = b) ∨ (∃ id, K.lp id = some b)

def SameEnv (w w' : World) : Prop := w'.os = w.os ∧ w'.tape = w.tape ∧ w'.output = w.output
theorem SameEnv.refl (w : World) : SameEnv w w := ⟨rfl, rfl, rfl⟩
theorem SameEnv.trans {w w' w'' : World} (h : SameEnv w w') (h' : SameEnv w' w'') : SameEnv w w'' := ⟨h'.1.trans h.1, h'.2.1.trans h.2.1, h'.2.2.trans h.2.2⟩

structure Step (K : KW) (w : World) (K' : KW) (w' : World) : Prop where
 env : SameEnv w w'
 le : K.le K'
 size : w.heap.size ≤ w'.heap.size
 fp : ∀ b, K'.fp b → K.fp b ∨ w.heap.size ≤ b
 same : ∀ b, b < w.heap.size → ¬ K.fp b → w'.heap[b]? = w.heap[b]?
 ims : ∀ b o, b < w.heap.size → ¬ K.fp b → K'.im b o = K.im b o

theorem Step.refl (K : KW) (w : World) : Step K w K w := ⟨.refl w, .refl K, Nat.le_refl _, fun _ h => .inl h, fun _ _ _ => rfl, fun _ _ _ _ => rfl⟩
theorem Step.trans {K K' K'' : KW} {w w' w'' : World} (h : Step K w K' w') (h' : Step K' w' K'' w'') : Step K w K'' w'' where
 env := h.env.trans h'.env
 le := h.le.trans h'.le
 size := Nat.le_trans h.size h'.size
 fp b hb := by
  rcases h'.fp b hb with hb | hb
  ·exact h.fp b hb
  ·exact .inr (Nat.le_trans h.size hb)
 same b hb hn := by
  rw [h'.same b (Nat.lt_of_lt_of_le hb h.size) (fun hf => (h.fp b hf).elim hn (fun h => absurd hb (Nat.not_lt.2 h))), h.same b hb hn]
 ims b o hb hn := by
  rw [h'.ims b o (Nat.lt_of_lt_of_le hb h.size) (fun hf => (h.fp b hf).elim hn (fun h => absurd hb (Nat.not_lt.2 h))), h.ims b o hb hn]

theorem Step.heap {K : KW} {w w' : World} (he : SameEnv w w') (h : w'.heap = w.heap) : Step K w K w' := ⟨he, .refl K, by rw [h]; exact Nat.le_refl _, fun _ h => .inl h, fun _ _ _ => by rw [h], fun _ _ _ _ => rfl⟩

def cellAt (hp : Array Obj) (b o : Nat) : Option Value :=
 match hp[b]? with
 | some (.cells c _ _) => c[o]?
 | _ => none

theorem cell_eq (w : World) (b o : Nat) : w.cell? ⟨b, o, none⟩ = cellAt w.heap b o := by
 unfold World.cell? cellAt
 rcases w.heap[b]? with _ | o'
 ·rfl
 ·cases o' <;> rfl

structure FrOK (K : KW) (nt : Nat) (f : Fr) (tmps : Array Value) : Prop where
 size : tmps.size = nt
 rel : ∀ t, VR K (f t) (tmps.getD t Go.undef)

theorem FrOK.mono {K K' : KW} {nt : Nat} {f : Fr} {tmps : Array Value} (hle : K.le K') (h : FrOK K nt f tmps) : FrOK K' nt f tmps :=
 ⟨h.size, fun t => (h.rel t).mono hle⟩

theorem vr_undef (K : KW) : VR K undefP Go.undef := .tuple [] #[] rfl (fun i p v h => by simp at h)

theorem FrOK.put {K : KW} {nt d : Nat} {f : Fr} {tmps : Array Value} {p : PV} {v : Value} (h : FrOK K nt f tmps) (hd : d < nt) (hv : VR K p v) :
  FrOK K nt (f.put d p) (tmps.setIfInBounds d v) := by
 refine ⟨by simp [h.size], fun t => ?_⟩
 by_cases e : t = d
 ·subst e
  have : t < tmps.size := by rw [h.size]; exact hd
  simp only [Fr.put, if_true]
  simpa [Array.getD_eq_getD_getElem?, Array.getElem?_setIfInBounds, this] using hv
 ·have := h.rel t
  simp only [Fr.put, e, if_false]
  simpa [Array.getD_eq_getD_getElem?, Array.getElem?_setIfInBounds, Ne.symm e] using this

def PendOK : Option RExit → Option Code → Prop
 | none, none => True
 | some .ret, some .ret => True
 | some (.exit i), some (.exit j) => i = j
 | _, _ => False

def StateOK : LState → LoopState → Prop
 | .ready, .ready | .busy, .busy | .done, .done | .exhausted, .exhausted => True
 | _, _ => False

structure LoopOK (P : Program) (C : CEnv) (K : KW) (r : LoopRec) (lr : Loop) : Prop where
 st : StateOK r.state lr.state
 pend : PendOK r.pending lr.pending
 params : lr.params.toList = r.params
 code : ∃ nt, FrOK K nt r.tmps lr.tmps ∧ cCode P C nt lr.assign = some r.assign ∧ cCode P C nt lr.body = some r.body ∧ ∀ t ∈ r.params, t < nt

theorem LoopOK.mono {P : Program} {C : CEnv} {K K' : KW} {r : LoopRec} {lr : Loop} (hle : K.le K') (h : LoopOK P C K r lr) : LoopOK P C K' r lr :=
 ⟨h.st, h.pend, h.params, let ⟨nt, h1, h2⟩ := h.code; ⟨nt, h1.mono hle, h2⟩⟩

structure CellsOK (K : KW) (cs : List PV) (vs : Array Value) : Prop where
 size : cs.length = vs.size
 one : ∀ p ∈ cs, p.one = true
 rel : ∀ (i : Nat) (p : PV) (v : Value), cs[i]? = some p → vs[i]? = some v → VR K p v

theorem CellsOK.mono {K K' : KW} (hle : K.le K') {cs : List PV} {vs : Array Value} (h : CellsOK K cs vs) : CellsOK K' cs vs :=
 ⟨h.size, h.one, fun i p v a b => (h.rel i p v a b).mono hle⟩

structure Sat (P : Program) (C : CEnv) (K : KW) (h : Heap) (w : World) : Prop where
 n : K.n = h.n
 box0 : ∀ id, h.box id = none → K.ρ id = none
 boxn : ∀ id, h.n ≤ id → h.box id = none
 box : ∀ id cs, h.box id = some cs → ∃ b vs, K.ρ id = some b ∧ w.heap[b]? = some (.cells vs (h.bty id) (0, 0)) ∧ CellsOK K cs vs
 inj : ∀ i j b, K.ρ i = some b → K.ρ j = some b → i = j
 boxim : ∀ i b o, K.ρ i = some b → K.im b o = none
 live0 : ∀ id, h.live id = false → K.gh id = none
 liven : ∀ id, h.n ≤ id → h.live id = false
 live : ∀ id, h.live id = true → ∃ g vs ty lo hi, K.gh id = some g ∧ w.heap[g.b]? = some (.cells vs ty (lo, hi)) ∧ g.fend ≤ g.cend ∧ g.cend ≤ vs.size ∧
  (∀ o, g.fend ≤ o → o < g.cend → ¬ (lo ≤ o ∧ o < hi)) ∧ (∀ o, g.fend ≤ o → K.im g.b o = none) ∧ (g.u8 = true → (P.underlying ty = some (.int .u8) ∧ sizeT P ty = some 1) ∧ hi ≤ g.fend)
 ginj : ∀ i j g g', K.gh i = some g → K.gh j = some g' → g.b = g'.b → i = j
 gbox : ∀ i j g b, K.gh i = some g → K.ρ j = some b → g.b ≠ b
 im : ∀ b o v, K.im b o = some v → cellAt w.heap b o = some v
 lp0 : ∀ id, h.loop id = none → K.lp id = none
 lpn : ∀ id, h.n ≤ id → h.loop id = none
 lp : ∀ id r, h.loop id = some r → ∃ b lr, K.lp id = some b ∧ w.heap[b]? = some (.loop lr) ∧ LoopOK P C K r lr
 lpinj : ∀ i j b, K.lp i = some b → K.lp j = some b → i = j
 glob : ∀ g cs, C.glob g = some cs → IR K.im (.cptr cs 0) (.pointer (some ⟨g, 0, none⟩))

section
variable {P : Program} {C : CEnv} {K : KW} {h : Heap} {w w' : World}

theorem lt_of_heap {w : World} {b : Nat} {o : Obj} (h : w.heap[b]? = some o) : b < w.heap.size := by
 rcases Nat.lt_or_ge b w.heap.size with h' | h'
 ·exact h'
 ·simp [Array.getElem?_eq_none h'] at h

theorem lt_of_cellAt {hp : Array Obj} {b o : Nat} {v : Value} (h : cellAt hp b o = some v) : b < hp.size := by
 unfold cellAt at h
 rcases Nat.lt_or_ge b hp.size with h' | h'
 ·exact h'
 ·simp [Array.getElem?_eq_none h'] at h

theorem Sat.fp_lt (s : Sat P C K h w) {b : Nat} (hb : K.fp b) : b < w.heap.size := by
 rcases hb with ⟨id, hb⟩ | ⟨id, g, hg, rfl⟩ | ⟨id, hl⟩
 ·cases hx : h.box id with
  | none => rw [s.box0 id hx] at hb; cases hb
  | some cs =>
   obtain ⟨b', vs, h1, h2, _⟩ := s.box id cs hx
   rw [h1] at hb; cases hb
   exact lt_of_heap h2
 ·cases hx : h.live id with
  | false => rw [s.live0 id hx] at hg; cases hg
  | true =>
   obtain ⟨g', vs, ty, lo, hi, h1, h2, _⟩ := s.live id hx
   rw [h1] at hg; cases hg
   exact lt_of_heap h2
 ·cases hx : h.loop id with
  | none => rw [s.lp0 id hx] at hl; cases hl
  | some r =>
   obtain ⟨b', lr, h1, h2, _⟩ := s.lp id r hx
   rw [h1] at hl; cases hl
   exact lt_of_heap h2

theorem Sat.keep (s : Sat P C K h w) (hfp : ∀ b, K.fp b → w'.heap[b]? = w.heap[b]?) (him : ∀ b o v, K.im b o = some v → cellAt w'.heap b o = some v) : Sat P C K h w' :=
 { s with
  box := fun id cs hx => by
   obtain ⟨b, vs, h1, h2, h3⟩ := s.box id cs hx
   exact ⟨b, vs, h1, by rw [hfp b (.inl ⟨id, h1⟩)]; exact h2, h3⟩
  live := fun id hx => by
   obtain ⟨g, vs, ty, lo, hi, h1, h2, h3⟩ := s.live id hx
   exact ⟨g, vs, ty, lo, hi, h1, by rw [hfp g.b (.inr (.inl ⟨id, g, h1, rfl⟩))]; exact h2, h3⟩
  im := him
  lp := fun id r hx => by
   obtain ⟨b, lr, h1, h2, h3⟩ := s.lp id r hx
   exact ⟨b, lr, h1, by rw [hfp b (.inr (.inr ⟨id, h1⟩))]; exact h2, h3⟩ }

theorem Sat.heap (s : Sat P C K h w) (e : w'.heap = w.heap) : Sat P C K h w' := s.keep (fun _ _ => by rw [e]) (fun b o v hv => by rw [e]; exact s.im b o v hv)

theorem getElem?_push_lt {hp : Array Obj} {o : Obj} {b : Nat} (hb : b < hp.size) : (hp.push o)[b]? = hp[b]? := by
 rw [Array.getElem?_push]; simp [Nat.ne_of_lt hb]

theorem Sat.push (s : Sat P C K h w) (o : Obj) (e : w'.heap = w.heap.push o) : Sat P C K h w' :=
 s.keep (fun b hb => by rw [e, getElem?_push_lt (s.fp_lt hb)])
  (fun b o' v hv => by
   have h1 := s.im b o' v hv
   have h2 := lt_of_cellAt h1
   unfold cellAt at h1 ⊢
   rw [e, getElem?_push_lt h2]; exact h1)

theorem Sat.newBox (s : Sat P C K h w) {cs : List PV} {vs : Array Value} {ty : TypeId} {b : Nat} (hb : w.heap[b]? = some (.cells vs ty (0, 0))) (hnf : ¬ K.fp b)
  (hni : ∀ o, K.im b o = none) (hc : CellsOK K cs vs) :
  let K' : KW := { K with n := K.n + 1, ρ := fun i => if i = h.n then some b else K.ρ i }
  K.le K' ∧ Sat P C K' (h.newBox ty cs) w ∧ (∀ x, K'.fp x → K.fp x ∨ x = b) ∧ K'.ρ h.n = some b := by
 intro K'
 have hle : K.le K' := ⟨Nat.le_succ _, fun id hi => by simp only [K']; rw [if_neg (by rw [s.n] at hi; omega)], fun _ _ => rfl, fun _ _ _ h => h, fun _ _ _ h => h⟩
 have hfp : ∀ x, K'.fp x → K.fp x ∨ x = b := by
  rintro x (⟨id, hx⟩ | hx | hx)
  ·simp only [K'] at hx
   split at hx
   ·exact .inr (Option.some.inj hx).symm
   ·exact .inl (.inl ⟨id, hx⟩)
  ·exact .inl (.inr (.inl hx))
  ·exact .inl (.inr (.inr hx))
 have hρ : ∀ id, id ≠ h.n → K'.ρ id = K.ρ id := fun id hi => by simp only [K']; rw [if_neg hi]
 have hρn : K'.ρ h.n = some b := by simp [K']
 have hbn : ∀ id, K.ρ id = some b → False := fun id hx => hnf (.inl ⟨id, hx⟩)
 refine ⟨hle, ?_, hfp, hρn⟩
 exact {
  n := by simp [K', Heap.newBox, s.n]
  box0 := fun id hx => by
   simp only [Heap.newBox] at hx
   split at hx
   ·cases hx
   ·rename_i hne; rw [hρ id hne]; exact s.box0 id hx
  boxn := fun id hi => by
   simp only [Heap.newBox] at hi ⊢
   rw [if_neg (by omega)]; exact s.boxn id (by omega)
  box := fun id cs' hx => by
   simp only [Heap.newBox] at hx
   split at hx
   ·rename_i e; subst e; cases hx
    exact ⟨b, vs, hρn, by simpa only [Heap.newBox, if_true] using hb, hc.mono hle⟩
   ·rename_i hne
    obtain ⟨b', vs', h1, h2, h3⟩ := s.box id cs' hx
    exact ⟨b', vs', by rw [hρ id hne]; exact h1, by simpa only [Heap.newBox, if_neg hne] using h2, h3.mono hle⟩
  inj := fun i j x hi hj => by
   by_cases e1 : i = h.n <;> by_cases e2 : j = h.n
   ·rw [e1, e2]
   ·rw [e1, hρn] at hi; cases hi; rw [hρ j e2] at hj; exact (hbn j hj).elim
   ·rw [e2, hρn] at hj; cases hj; rw [hρ i e1] at hi; exact (hbn i hi).elim
   ·rw [hρ i e1] at hi; rw [hρ j e2] at hj; exact s.inj i j x hi hj
  boxim := fun i x o hi => by
   by_cases e1 : i = h.n
   ·rw [e1, hρn] at hi; cases hi; exact hni o
   ·rw [hρ i e1] at hi; exact s.boxim i x o hi
  live0 := fun id hx => s.live0 id hx
  liven := fun id hi => s.liven id (by simp only [Heap.newBox] at hi; omega)
  live := fun id hx => s.live id hx
  ginj := s.ginj
  gbox := fun i j g x hg hx => by
   by_cases e1 : j = h.n
   ·rw [e1, hρn] at hx; cases hx; intro e; exact hnf (.inr (.inl ⟨i, g, hg, e⟩))
   ·rw [hρ j e1] at hx; exact s.gbox i j g x hg hx
  im := s.im
  lp0 := s.lp0
  lpn := fun id hi => s.lpn id (by simp only [Heap.newBox] at hi; omega)
  lp := fun id r hx => by
   obtain ⟨b', lr, h1, h2, h3⟩ := s.lp id r hx
   exact ⟨b', lr, h1, h2, h3.mono hle⟩
  lpinj := s.lpinj
  glob := s.glob }

def Heap.retire (h : Heap) (id : Nat) : Heap := { h with live := fun i => if i = id then false else h.live i }
theorem Sat.retire (s : Sat P C K h w) (id : Nat) :
  let K' : KW := { K with gh := fun i => if i = id then none else K.gh i }
  K.le K' ∧ Sat P C K' (h.retire id) w ∧ (∀ x, K'.fp x → K.fp x) := by
 intro K'
 have hg : ∀ i g, K'.gh i = some g → K.gh i = some g := fun i g hx => by
  simp only [K'] at hx
  split at hx
  ·cases hx
  ·exact hx
 have hle : K.le K' := ⟨Nat.le_refl _, fun _ _ => rfl, fun _ _ => rfl, fun i _ g hx => hg i g hx, fun _ _ _ h => h⟩
 refine ⟨hle, ?_, ?_⟩
 ·exact { s with
   box := fun i cs hx => let ⟨b, vs, h1, h2, h3⟩ := s.box i cs hx; ⟨b, vs, h1, h2, h3.mono hle⟩
   live0 := fun i hx => by
    simp only [Heap.retire] at hx
    simp only [K']
    split
    ·rfl
    ·rename_i hne; rw [if_neg hne] at hx; exact s.live0 i hx
   liven := fun i hi => by
    simp only [Heap.retire]
    split
    ·rfl
    ·exact s.liven i hi
   live := fun i hx => by
    simp only [Heap.retire] at hx
    split at hx
    ·cases hx
    ·rename_i hne
     obtain ⟨g, vs, ty, lo, hi, h1, h2⟩ := s.live i hx
     exact ⟨g, vs, ty, lo, hi, by simp only [K']; rw [if_neg hne]; exact h1, h2⟩
   ginj := fun i j g g' hi hj => s.ginj i j g g' (hg i g hi) (hg j g' hj)
   gbox := fun i j g b hi hj => s.gbox i j g b (hg i g hi) hj
   lp := fun i r hx => let ⟨b, lr, h1, h2, h3⟩ := s.lp i r hx; ⟨b, lr, h1, h2, h3.mono hle⟩ }
 ·rintro x (hx | ⟨i, g, hx, e⟩ | hx)
  ·exact .inl hx
  ·exact .inr (.inl ⟨i, g, hg i g hx, e⟩)
  ·exact .inr (.inr hx)

theorem Sat.newArr (s : Sat P C K h w) (u8 : Bool) {vs : Array Value} {ty : TypeId} {b lo hi f0 fend cend : Nat} (hb : w.heap[b]? = some (.cells vs ty (lo, hi))) (hnf : ¬ K.fp b)
  (hni : ∀ o, f0 ≤ o → K.im b o = none) (h0 : f0 ≤ fend) (h1 : fend ≤ cend) (h2 : cend ≤ vs.size) (hfz : ∀ o, fend ≤ o → o < cend → ¬ (lo ≤ o ∧ o < hi)) (hu8 : u8 = true → (P.underlying ty = some (.int .u8) ∧ sizeT P ty = some 1) ∧ hi ≤ fend) :
  let K' : KW := { K with n := K.n + 1, gh := (fun i => if i = h.n then some ⟨b, fend, cend, u8⟩ else K.gh i), im := (fun x o => if x = b ∧ f0 ≤ o ∧ o < fend then vs[o]? else K.im x o) }
  K.le K' ∧ Sat P C K' h.newArr w ∧ (∀ x, K'.fp x → K.fp x ∨ x = b) ∧ K'.gh h.n = some ⟨b, fend, cend, u8⟩ ∧ (∀ o, f0 ≤ o → o < fend → K'.im b o = vs[o]?) ∧ (∀ x o, x ≠ b → K'.im x o = K.im x o) := by
 intro K'
 have hgn : K'.gh h.n = some ⟨b, fend, cend, u8⟩ := by simp [K']
 have hg : ∀ i, i ≠ h.n → K'.gh i = K.gh i := fun i hi => by simp only [K']; rw [if_neg hi]
 have him : Im.le K.im K'.im := fun x o v hv => by
  simp only [K']
  split
  ·rename_i hc; obtain ⟨rfl, hc, _⟩ := hc; rw [hni o hc] at hv; cases hv
  ·exact hv
 have himn : ∀ x o, x ≠ b → K'.im x o = K.im x o := fun x o hx => by simp only [K']; rw [if_neg (fun hc => hx hc.1)]
 have hle : K.le K' := ⟨Nat.le_succ _, fun _ _ => rfl, fun _ _ => rfl, fun i hi g hx => by rw [hg i (by rw [s.n] at hi; omega)] at hx; exact hx, him⟩
 have hnb : ∀ i x, K.ρ i = some x → x ≠ b := fun i x hx e => hnf (.inl ⟨i, e ▸ hx⟩)
 have hgb : ∀ i g, K.gh i = some g → g.b ≠ b := fun i g hx e => hnf (.inr (.inl ⟨i, g, hx, e⟩))
 refine ⟨hle, ?_, ?_, hgn, fun o ho1 ho2 => by simp [K', ho1, ho2], himn⟩
 ·exact {
   n := by simp [K', Heap.newArr, s.n]
   box0 := s.box0
   boxn := fun i hi => s.boxn i (by simp only [Heap.newArr] at hi; omega)
   box := fun i cs hx => let ⟨b, vs, h1, h2, h3⟩ := s.box i cs hx; ⟨b, vs, h1, h2, h3.mono hle⟩
   inj := s.inj
   boxim := fun i x o hx => by rw [himn x o (hnb i x hx)]; exact s.boxim i x o hx
   live0 := fun i hx => by
    simp only [Heap.newArr] at hx
    split at hx
    ·cases hx
    ·rename_i hne; rw [hg i hne]; exact s.live0 i hx
   liven := fun i hi => by
    simp only [Heap.newArr] at hi ⊢
    rw [if_neg (by omega)]; exact s.liven i (by omega)
   live := fun i hx => by
    simp only [Heap.newArr] at hx
    split at hx
    ·rename_i e; subst e
     refine ⟨_, vs, ty, lo, hi, hgn, hb, h1, h2, hfz, fun o ho => ?_, hu8⟩
     simp only [K']
     rw [if_neg (by simp only at ho; omega)]
     exact hni o (Nat.le_trans h0 ho)
    ·rename_i hne
     obtain ⟨g, vs', ty', lo', hi', g1, g2, g3, g4, g5, g6⟩ := s.live i hx
     exact ⟨g, vs', ty', lo', hi', by rw [hg i hne]; exact g1, g2, g3, g4, g5, fun o ho => by rw [himn _ _ (hgb i g g1)]; exact g6.1 o ho, g6.2⟩
   ginj := fun i j g g' hi hj e => by
    by_cases e1 : i = h.n <;> by_cases e2 : j = h.n
    ·rw [e1, e2]
    ·rw [e1, hgn] at hi; cases hi; rw [hg j e2] at hj; exact (hgb j g' hj e.symm).elim
    ·rw [e2, hgn] at hj; cases hj; rw [hg i e1] at hi; exact (hgb i g hi e).elim
    ·rw [hg i e1] at hi; rw [hg j e2] at hj; exact s.ginj i j g g' hi hj e
   gbox := fun i j g x hi hj => by
    by_cases e1 : i = h.n
    ·rw [e1, hgn] at hi; cases hi; exact (hnb j x hj).symm
    ·rw [hg i e1] at hi; exact s.gbox i j g x hi hj
   im := fun x o v hv => by
    simp only [K'] at hv
    split at hv
    ·rename_i hc; obtain ⟨rfl, _, _⟩ := hc; unfold cellAt; rw [hb]; exact hv
    ·exact s.im x o v hv
   lp0 := s.lp0
   lpn := fun i hi => s.lpn i (by simp only [Heap.newArr] at hi; omega)
   lp := fun i r hx => let ⟨b, lr, h1, h2, h3⟩ := s.lp i r hx; ⟨b, lr, h1, h2, h3.mono hle⟩
   lpinj := s.lpinj
   glob := fun g cs hx => (s.glob g cs hx).mono him }
 ·rintro x (hx | ⟨i, g, hx, e⟩ | hx)
  ·exact .inl (.inl hx)
  ·by_cases e1 : i = h.n
   ·rw [e1, hgn] at hx; cases hx; exact .inr e.symm
   ·rw [hg i e1] at hx; exact .inl (.inr (.inl ⟨i, g, hx, e⟩))
  ·exact .inl (.inr (.inr hx))

theorem Sat.setBox (s : Sat P C K h w) {id b : Nat} {cs cs' : List PV} {vs' : Array Value} (hx : h.box id = some cs) (hb : K.ρ id = some b)
  (hb' : w'.heap[b]? = some (.cells vs' (h.bty id) (0, 0))) (hoth : ∀ x, x ≠ b → w'.heap[x]? = w.heap[x]?) (hc : CellsOK K cs' vs') : Sat P C K (h.setBox id cs') w' :=
 { s with
  box0 := fun i hi => by
   simp only [Heap.setBox] at hi
   split at hi
   ·cases hi
   ·exact s.box0 i hi
  boxn := fun i hi => by
   simp only [Heap.setBox] at hi ⊢
   split
   ·rename_i e; subst e; rw [s.boxn i hi] at hx; cases hx
   ·exact s.boxn i hi
  box := fun i cs2 hi => by
   simp only [Heap.setBox] at hi
   split at hi
   ·rename_i e; subst e; cases hi
    exact ⟨b, vs', hb, hb', hc⟩
   ·rename_i hne
    obtain ⟨b2, vs, h1, h2, h3⟩ := s.box i cs2 hi
    refine ⟨b2, vs, h1, ?_, h3⟩
    rw [hoth b2 (fun e => hne (s.inj i id b (e ▸ h1) hb))]; exact h2
  live := fun i hi => by
   obtain ⟨g, vs, ty, lo, hi', h1, h2, h3⟩ := s.live i hi
   exact ⟨g, vs, ty, lo, hi', h1, by rw [hoth g.b (s.gbox i id g b h1 hb)]; exact h2, h3⟩
  im := fun x o v hv => by
   have hne : x ≠ b := fun e => by rw [e, s.boxim id b o hb] at hv; cases hv
   have := s.im x o v hv
   unfold cellAt at this ⊢
   rw [hoth x hne]; exact this
  lp := fun i r hi => by
   obtain ⟨b2, lr, h1, h2, h3⟩ := s.lp i r hi
   refine ⟨b2, lr, h1, ?_, h3⟩
   obtain ⟨b3, vs3, g1, g2, _⟩ := s.box id cs hx
   rw [hb] at g1; cases g1
   rw [hoth b2 (fun e => by rw [e, g2] at h2; cases h2)]; exact h2 }

theorem Sat.newLoop (s : Sat P C K h w) {b : Nat} {r : LoopRec} {lr : Loop} (hb : w.heap[b]? = some (.loop lr)) (hnf : ¬ K.fp b) (hr : LoopOK P C K r lr) :
  let K' : KW := { K with n := K.n + 1, lp := fun i => if i = h.n then some b else K.lp i }
  K.le K' ∧ Sat P C K' (h.newLoop r) w ∧ (∀ x, K'.fp x → K.fp x ∨ x = b) ∧ K'.lp h.n = some b := by
 intro K'
 have hln : K'.lp h.n = some b := by simp [K']
 have hl : ∀ i, i ≠ h.n → K'.lp i = K.lp i := fun i hi => by simp only [K']; rw [if_neg hi]
 have hle : K.le K' := ⟨Nat.le_succ _, fun _ _ => rfl, fun i hi => hl i (by rw [s.n] at hi; omega), fun _ _ _ h => h, fun _ _ _ h => h⟩
 refine ⟨hle, ?_, ?_, hln⟩
 ·exact { s with
   n := by simp [K', Heap.newLoop, s.n]
   boxn := fun i hi => s.boxn i (by simp only [Heap.newLoop] at hi; omega)
   box := fun i cs hx => let ⟨b, vs, h1, h2, h3⟩ := s.box i cs hx; ⟨b, vs, h1, h2, h3.mono hle⟩
   liven := fun i hi => s.liven i (by simp only [Heap.newLoop] at hi; omega)
   lp0 := fun i hx => by
    simp only [Heap.newLoop] at hx
    split at hx
    ·cases hx
    ·rename_i hne; rw [hl i hne]; exact s.lp0 i hx
   lpn := fun i hi => by
    simp only [Heap.newLoop] at hi ⊢
    rw [if_neg (by omega)]; exact s.lpn i (by omega)
   lp := fun i r2 hx => by
    simp only [Heap.newLoop] at hx
    split at hx
    ·rename_i e; subst e; cases hx
     exact ⟨b, lr, hln, hb, hr.mono hle⟩
    ·rename_i hne
     obtain ⟨b2, lr2, h1, h2, h3⟩ := s.lp i r2 hx
     exact ⟨b2, lr2, by rw [hl i hne]; exact h1, h2, h3.mono hle⟩
   lpinj := fun i j x hi hj => by
    by_cases e1 : i = h.n <;> by_cases e2 : j = h.n
    ·rw [e1, e2]
    ·rw [e1, hln] at hi; cases hi; rw [hl j e2] at hj; exact (hnf (.inr (.inr ⟨j, hj⟩))).elim
    ·rw [e2, hln] at hj; cases hj; rw [hl i e1] at hi; exact (hnf (.inr (.inr ⟨i, hi⟩))).elim
    ·rw [hl i e1] at hi; rw [hl j e2] at hj; exact s.lpinj i j x hi hj }
 ·rintro x (hx | hx | ⟨i, hx⟩)
  ·exact .inl (.inl hx)
  ·exact .inl (.inr (.inl hx))
  ·by_cases e1 : i = h.n
   ·rw [e1, hln] at hx; cases hx; exact .inr rfl
   ·rw [hl i e1] at hx; exact .inl (.inr (.inr ⟨i, hx⟩))

theorem Sat.setLoop (s : Sat P C K h w) {id b : Nat} {r r' : LoopRec} {lr' : Loop} (hx : h.loop id = some r) (hb : K.lp id = some b)
  (hb' : w'.heap[b]? = some (.loop lr')) (hoth : ∀ x, x ≠ b → w'.heap[x]? = w.heap[x]?) (hc : LoopOK P C K r' lr') : Sat P C K (h.setLoop id r') w' := by
 obtain ⟨b0, lr0, g1, g2, _⟩ := s.lp id r hx
 rw [hb] at g1; cases g1
 exact { s with
  box := fun i cs2 hi => by
   obtain ⟨b2, vs, h1, h2, h3⟩ := s.box i cs2 hi
   exact ⟨b2, vs, h1, by rw [hoth b2 (fun e => by rw [e, g2] at h2; cases h2)]; exact h2, h3⟩
  live := fun i hi => by
   obtain ⟨g, vs, ty, lo, hi', h1, h2, h3⟩ := s.live i hi
   exact ⟨g, vs, ty, lo, hi', h1, by rw [hoth g.b (fun e => by rw [e, g2] at h2; cases h2)]; exact h2, h3⟩
  im := fun x o v hv => by
   have := s.im x o v hv
   unfold cellAt at this ⊢
   rw [hoth x (fun e => by rw [e, g2] at this; cases this)]; exact this
  lp0 := fun i hi => by
   simp only [Heap.setLoop] at hi
   split at hi
   ·cases hi
   ·exact s.lp0 i hi
  lpn := fun i hi => by
   simp only [Heap.setLoop] at hi ⊢
   split
   ·rename_i e; subst e; rw [s.lpn i hi] at hx; cases hx
   ·exact s.lpn i hi
  lp := fun i r2 hi => by
   simp only [Heap.setLoop] at hi
   split at hi
   ·rename_i e; subst e; cases hi
    exact ⟨b, lr', hb, hb', hc⟩
   ·rename_i hne
    obtain ⟨b2, lr, h1, h2, h3⟩ := s.lp i r2 hi
    exact ⟨b2, lr, h1, by rw [hoth b2 (fun e => hne (s.lpinj i id b (e ▸ h1) hb))]; exact h2, h3⟩ }
end
end Go.Proofs.YtmngkcpobmhnoaaGreatDoor.Sim
/- Each operation of the resolved language is what the model's operation does: operands, plain operations, loads, stores, new boxes. -/
namespace Go.Proofs.YtmngkcpobmhnoaaGreatDoor.Sim

theorem mapO_length {α β : Type} {g : α → Option β} : ∀ {xs : List α} {ys : List β}, mapO g xs = some ys → ys.length = xs.length
 | [], ys, h => by simp [mapO] at h; subst h; rfl
 | x :: xs, ys, h => by
  simp only [mapO] at h
  split at h
  ·rename_i y ys' h1 h2; cases h; simp [mapO_length h2]
  ·cases h

theorem mapO_get {α β : Type} {g : α → Option β} : ∀ {xs : List α} {ys : List β}, mapO g xs = some ys → ∀ (i : Nat) (x : α), xs[i]? = some x → ∃ y, ys[i]? = some y ∧ g x = some y
 | [], ys, h, i, x, hx => by simp at hx
 | x0 :: xs, ys, h, i, x, hx => by
  simp only [mapO] at h
  split at h
  ·rename_i y ys' h1 h2
   cases h
   cases i with
   | zero => simp at hx; subst hx; exact ⟨y, by simp, h1⟩
   | succ i => simp at hx; obtain ⟨y', a, b⟩ := mapO_get h2 i x hx; exact ⟨y', by simpa using a, b⟩
  ·cases h

theorem mapO_get' {α β : Type} {g : α → Option β} {xs : List α} {ys : List β} (h : mapO g xs = some ys) (i : Nat) (y : β) (hy : ys[i]? = some y) :
  ∃ x, xs[i]? = some x ∧ g x = some y := by
 have hl := mapO_length h
 have : i < xs.length := by rw [← hl]; exact (List.getElem?_eq_some_iff.1 hy).1
 obtain ⟨y', h1, h2⟩ := mapO_get h i xs[i] (by simp [this])
 rw [h1] at hy; cases hy
 exact ⟨xs[i], by simp [this], h2⟩

theorem mapO_mem {α β : Type} {g : α → Option β} {xs : List α} {ys : List β} (h : mapO g xs = some ys) (y : β) (hy : y ∈ ys) : ∃ x ∈ xs, g x = some y := by
 obtain ⟨i, hi⟩ := List.mem_iff_getElem?.1 hy
 obtain ⟨x, h1, h2⟩ := mapO_get' h i y hi
 exact ⟨x, List.mem_iff_getElem?.2 ⟨i, h1⟩, h2⟩

theorem ofVal_ir {im : Im} {v : Value} {p : PV} (h : ofVal v = some p) : IR im p v := by
 cases v with
 | bool b => cases h; exact .bool b
 | int k n => cases h; exact .int k n
 | string s =>
  cases h
  have := IR.str (im := im) s.data.toList
  simpa using this
 | pointer a => cases a with
  | none => cases h; exact .nilptr
  | some a => cases h
 | slice a n c =>
  unfold ofVal at h
  split at h <;> first
   | (cases h; done)
   | skip
  all_goals simp_all
  all_goals subst h
  all_goals exact .snil 0
 | nilFunc => cases h; exact .nilfunc
 | nilIface => cases h; exact .nilIface
 | _ => cases h

theorem IR.one {im : Im} {p : PV} {v : Value} (h : IR im p v) : p.one = true := by cases h <;> rfl
theorem IR.cell {im : Im} {p : PV} {v : Value} (h : IR im p v) : v.oneCell' = true := by cases h <;> rfl

theorem ofVal_one {v : Value} {p : PV} (h : ofVal v = some p) : p.one = true := by
 unfold ofVal at h
 split at h <;> first
  | (cases h; rfl)
  | (cases h; done)

section
variable {P : Program} {C : CEnv} {K : KW} {h : Heap} {w : World} {nt : Nat} {f : Fr} {a : Act}

theorem opd_sim (s : Sat P C K h w) (hf : FrOK K nt f a.tmps) {x : Operand} {y : Opd} (hx : cOpd C x = some y) : VR K (y.ev f) (a.eval x) := by
 cases x with
 | tmp t => cases hx; exact hf.rel t
 | const v =>
  cases v with
  | tuple vs =>
   simp only [cOpd] at hx
   split at hx
   ·rename_i hv
    cases hx
    have : vs = #[] := by simpa using hv
    subst this
    exact vr_undef K
   ·cases hx
  | _ =>
   simp only [cOpd, Option.map_eq_some_iff] at hx
   obtain ⟨p, ho, rfl⟩ := hx
   exact .ir (ofVal_ir ho)
 | global g =>
  simp only [cOpd] at hx
  cases hg : C.glob g with
  | none => rw [hg] at hx; cases hx
  | some cs => rw [hg] at hx; cases hx; exact .ir (s.glob g cs hg)
 | func g => cases hx; exact .ir (.func g)

theorem opds_sim (s : Sat P C K h w) (hf : FrOK K nt f a.tmps) {xs : Array Operand} {ys : List Opd} (hx : mapO (cOpd C) xs.toList = some ys) :
  (ys.map (Opd.ev f)).length = (xs.map a.eval).size ∧ ∀ (i : Nat) (p : PV) (v : Value), (ys.map (Opd.ev f))[i]? = some p → (xs.map a.eval)[i]? = some v → VR K p v := by
 have hl := mapO_length hx
 refine ⟨by simp [hl], fun i p v hp hv => ?_⟩
 simp only [List.getElem?_map, Option.map_eq_some_iff] at hp
 obtain ⟨y, hy, rfl⟩ := hp
 obtain ⟨x, h1, h2⟩ := mapO_get' hx i y hy
 have h1' : xs[i]? = some x := by simpa using h1
 simp only [Array.getElem?_map, h1', Option.map_some, Option.some.injEq] at hv
 subst hv
 exact opd_sim s hf h2

def OpOK (P : Program) (C : CEnv) (K : KW) (w : World) (h' : Heap) (p : PV) (r : Result Next) : Prop :=
 ∃ v w' K', (r = .ok (.value v) w' ∨ (r = .ok .skip w' ∧ v = Go.undef)) ∧ VR K' p v ∧ Step K w K' w' ∧ Sat P C K' h' w'

theorem OpOK.val (s : Sat P C K h w) {p : PV} {v : Value} (hv : VR K p v) : OpOK P C K w h p (.ok (.value v) w) :=
 ⟨v, w, K, .inl rfl, hv, .refl K w, s⟩

variable {α : Type}
theorem run_size {t : TypeId} {n : Nat} (ht : sizeT P t = some n) (w : World) : (sizeOf t).run P w = .ok n w := by
 unfold sizeT at ht
 cases hi : P.info? t with
 | none => rw [hi] at ht; cases ht
 | some i =>
  rw [hi] at ht; cases ht
  simp [sizeOf, typeInfo, hi]

theorem run_infoB {t : TypeId} {n : Nat} (ht : bytesT P t = some n) (w : World) : ∃ i, (typeInfo t).run P w = .ok i w ∧ i.bytes = n := by
 unfold bytesT at ht
 cases hi : P.info? t with
 | none => rw [hi] at ht; cases ht
 | some i =>
  rw [hi] at ht; cases ht
  exact ⟨i, by simp [typeInfo, hi], rfl⟩

theorem run_und {t : TypeId} {d : TypeDesc} (ht : P.underlying t = some d) (w : World) : (underlying t).run P w = .ok d w := by
 simp [underlying, ht]

theorem run_aggT {t : TypeId} {b : Bool} (ht : isAggT P t = some b) (w : World) : (isAgg t).run P w = .ok b w := by
 unfold isAggT at ht
 cases hu : P.underlying t with
 | none => rw [hu] at ht; cases ht
 | some d =>
  rw [hu] at ht
  simp only [Option.map_some, Option.some.injEq] at ht
  subst ht
  simp only [isAgg, Sem.run_bind, run_und hu, Result.andThen_ok]
  cases d <;> rfl

theorem run_zeroT {t : TypeId} {z : List PV} (ht : zeroT P t = some z) (w : World) :
  ∃ v, (zeroValue t).run P w = .ok v w ∧ z.length = v.cells.size ∧ (∀ p ∈ z, p.one = true) ∧ (∀ (i : Nat) (p : PV) (u : Value), z[i]? = some p → v.cells[i]? = some u → ∀ im, IR im p u) := by
 unfold zeroT at ht
 cases hi : P.info? t with
 | none => rw [hi] at ht; cases ht
 | some i =>
  rw [hi] at ht
  cases hz : i.zero with
  | none => simp [hz] at ht
  | some v =>
   simp only [Option.bind_some, hz, ofVals] at ht
   refine ⟨v, by simp [zeroValue, typeInfo, hi, hz], by simpa using mapO_length ht, fun p hp => ?_, fun j p u hp hu im => ?_⟩
   ·obtain ⟨x, _, hx⟩ := mapO_mem ht p hp
    exact ofVal_one hx
   ·obtain ⟨x, h1, h2⟩ := mapO_get' ht j p hp
    have h1' : v.cells[j]? = some x := by simpa using h1
    rw [h1'] at hu; cases hu
    exact ofVal_ir h2

theorem rep_cases {t : TypeId} {r : Option Nat} (ht : repT P t = some r) :
  ∃ n, sizeT P t = some n ∧ ((r = some n ∧ isAggT P t = some true) ∨ (r = none ∧ isAggT P t = some false)) := by
 unfold repT at ht
 split at ht
 ·rename_i n h1 h2; cases ht; exact ⟨n, h2, .inl ⟨rfl, h1⟩⟩
 ·rename_i n h1 h2; cases ht; exact ⟨n, h2, .inr ⟨rfl, h1⟩⟩
 ·cases ht

theorem Addr.add_zero' (b o n : Nat) : (⟨b, o, none⟩ : Addr).add n = ⟨b, o + n, none⟩ := by
 unfold Addr.add; split
 ·rename_i e; subst e; rfl
 ·rfl

theorem run_loadVar_at {t : TypeId} {r : Option Nat} (ht : repT P t = some r) (b o : Nat) (cs : List PV) (off : Nat) (g : Nat → Value)
  (hc : ∀ j, j < cs.length → w.cell? ⟨b, o + j, none⟩ = some (g j)) (hR : ∀ (j : Nat) (p : PV), cs[j]? = some p → VR K p (g j)) (ho : ∀ p ∈ cs, p.one = true ∨ r = none)
  {p : PV} (hp : readAt cs off r = some p) : ∃ v, (loadVar t ⟨b, o + off, none⟩).run P w = .ok v w ∧ VR K p v := by
 obtain ⟨n, hs, ⟨rfl, ha⟩ | ⟨rfl, ha⟩⟩ := rep_cases ht
 ·simp only [readAt] at hp
  split at hp
  ·rename_i hle
   cases hp
   refine ⟨.agg ((List.range n).map fun j => g (off + j)).toArray, ?_, ?_⟩
   ·simp only [loadVar, Sem.run_bind, run_aggT ha, Result.andThen_ok, if_true, run_size hs]
    rw [run_loadCells w _ n (fun j => g (off + j)) (fun j hj => by rw [Addr.add_zero', Nat.add_assoc]; exact hc (off + j) (by omega))]
    rfl
   ·refine .agg _ _ (by simp; omega) (fun p hp => ?_) (fun i p v hp hv => ?_)
    ·have hm := List.mem_of_mem_drop (List.mem_of_mem_take hp)
     exact (ho p hm).resolve_right (by simp)
    ·have hi : i < n := by
      have := (List.getElem?_eq_some_iff.1 hp).1
      simp at this; omega
     simp only [List.getElem?_take, hi, if_true, List.getElem?_drop] at hp
     simp [hi] at hv
     subst hv
     exact hR _ _ hp
  ·cases hp
 ·simp only [readAt] at hp
  refine ⟨g off, ?_, hR _ _ hp⟩
  have hlt : off < cs.length := (List.getElem?_eq_some_iff.1 hp).1
  simp only [loadVar, Sem.run_bind, run_aggT ha, Result.andThen_ok, Bool.false_eq_true, if_false]
  simp [hc off hlt]

theorem cellAt_of {hp : Array Obj} {b o : Nat} {vs : Array Value} {ty : TypeId} {fz : Nat × Nat} (hb : hp[b]? = some (.cells vs ty fz)) : cellAt hp b o = vs[o]? := by
 unfold cellAt; rw [hb]

theorem ptr_cases {im : Im} {cs : List PV} {off : Nat} {v : Value} (hv : IR im (.cptr cs off) v) :
  ∃ b o, v = .pointer (some ⟨b, o + off, none⟩) ∧ (∀ (j : Nat) (p : PV), cs[j]? = some p → (im b (o + j)).isSome) ∧ (∀ (j : Nat) (p : PV) (c : Value), cs[j]? = some p → im b (o + j) = some c → IR im p c) := by
 cases hv with
 | cptr cs b o off h1 h2 => exact ⟨b, o, rfl, h1, h2⟩

theorem run_load_sim (s : Sat P C K h w) {t : TypeId} {r : Option Nat} (ht : repT P t = some r) {q p : PV} {v : Value} {h' : Heap} (hq : VR K q v)
  (he : loadP h q r = some (p, h')) :
  ∃ u, (Instr.loadAt t v).run P w = .ok u w ∧ VR K p u ∧ h' = h := by
 unfold loadP at he
 cases q with
 | ptr id off =>
  simp only at he
  cases hx : h.box id with
  | none => rw [hx] at he; cases he
  | some cs =>
   rw [hx] at he
   simp only [Option.bind_some, Option.map_eq_some_iff] at he
   obtain ⟨p', hr, he⟩ := he
   cases he
   obtain ⟨b, vs, h1, h2, h3⟩ := s.box id cs hx
   cases hq with
   | ir hq => cases hq
   | ptr id off b' hn hb =>
    rw [h1] at hb; cases hb
    obtain ⟨u, hu, hv⟩ := run_loadVar_at (K := K) (w := w) ht b 0 cs off (fun j => vs.getD j Go.undef)
     (fun j hj => by
      have : j < vs.size := by rw [← h3.size]; exact hj
      rw [cell_eq, cellAt_of h2]; simp [Array.getD_eq_getD_getElem?, this])
     (fun j p hp => by
      have : j < vs.size := by rw [← h3.size]; exact (List.getElem?_eq_some_iff.1 hp).1
      exact h3.rel j p _ hp (by simp [Array.getD_eq_getD_getElem?, this]))
     (fun p hp => .inl (h3.one p hp)) hr
    refine ⟨u, ?_, hv, rfl⟩
    simp only [Instr.loadAt, Instr.sureAddr, Sem.run_bind, Sem.run_pure, Result.andThen_ok]
    simpa using hu
 | cptr cs off =>
  simp only [Option.map_eq_some_iff] at he
  obtain ⟨p', hr, he⟩ := he
  cases he
  cases hq with
  | ir hq =>
   obtain ⟨b, o, rfl, h1, h2⟩ := ptr_cases hq
   obtain ⟨u, hu, hv⟩ := run_loadVar_at (K := K) (w := w) ht b o cs off (fun j => (K.im b (o + j)).getD Go.undef)
    (fun j hj => by
     obtain ⟨c, hc⟩ := Option.isSome_iff_exists.1 (h1 j cs[j] (by simp [hj]))
     rw [cell_eq, s.im _ _ _ hc, hc]; rfl)
    (fun j p hp => by
     obtain ⟨c, hc⟩ := Option.isSome_iff_exists.1 (h1 j p hp)
     rw [hc]; exact .ir (h2 j p c hp hc))
    (fun p hp => by
     obtain ⟨j, hj⟩ := List.mem_iff_getElem?.1 hp
     obtain ⟨c, hc⟩ := Option.isSome_iff_exists.1 (h1 j p hj)
     exact .inl (h2 j p c hj hc).one) hr
   refine ⟨u, ?_, hv, rfl⟩
   simp only [Instr.loadAt, Instr.sureAddr, Sem.run_bind, Sem.run_pure, Result.andThen_ok]
   exact hu
 | _ => cases he

end
end Go.Proofs.YtmngkcpobmhnoaaGreatDoor.Sim
/- Operations that write or make memory: stores, boxes, arrays, appends. -/
namespace Go.Proofs.YtmngkcpobmhnoaaGreatDoor.Sim

section
variable {P : Program} {C : CEnv} {K : KW} {h : Heap} {w : World} {nt : Nat} {f : Fr} {a : Act}

theorem heap_setCell_at (w : World) (b o : Nat) (cs : Array Value) (t : TypeId) (fz : Nat × Nat) (v : Value) (hg : w.heap[b]? = some (.cells cs t fz)) :
  (w.setCell ⟨b, o, none⟩ v).heap[b]? = some (.cells (cs.setIfInBounds o v) t fz) := by
 simp [World.setCell, Array.getElem?_modify, hg]

theorem run_storeCells_gen (b : Nat) (ty : TypeId) (fz : Nat × Nat) : ∀ (vs : List Value) (o i : Nat) (cur : Array Value) (w : World), w.heap[b]? = some (.cells cur ty fz) →
  o + i + vs.length ≤ cur.size → (∀ v ∈ vs, v.oneCell' = true) → (∀ k, o + i ≤ k → k < o + i + vs.length → ¬ (fz.1 ≤ k ∧ k < fz.2)) →
  ∃ w' cur', (storeCells ⟨b, o, none⟩ vs i).run P w = .ok () w' ∧ SameEnv w w' ∧ w'.heap.size = w.heap.size ∧ (∀ x, x ≠ b → w'.heap[x]? = w.heap[x]?) ∧
   w'.heap[b]? = some (.cells cur' ty fz) ∧ cur'.size = cur.size ∧ ∀ k, cur'[k]? = if o + i ≤ k ∧ k < o + i + vs.length then vs[k - (o + i)]? else cur[k]?
 | [], o, i, cur, w, hg, _, _, _ => ⟨w, cur, rfl, .refl w, rfl, fun _ _ => rfl, hg, rfl, fun k => by
   rw [if_neg (by simp only [List.length_nil]; omega)]⟩
 | v :: rest, o, i, cur, w, hg, hl, h1, hfz => by
  simp only [List.length_cons] at hl hfz
  have hcell : w.cell? ⟨b, o + i, none⟩ = some (cur[o + i]'(by omega)) := by rw [cell_eq, cellAt_of hg]; simp
  have hfro : w.frozen? ⟨b, o + i, none⟩ = false := by
   have := hfz (o + i) (by omega) (by omega)
   simp only [World.frozen?, hg]
   simpa using this
  have hst : (store ((⟨b, o, none⟩ : Addr).add i) v).run P w = .ok () (w.setCell ⟨b, o + i, none⟩ v) := by
   rw [Addr.add_zero', run_store P w _ v _ (h1 v (by simp)), hcell]
   simp [hfro]
  have hg' := heap_setCell_at w b (o + i) cur ty fz v hg
  obtain ⟨w', cur', e1, e0, e2, e3, e4, e5, e6⟩ := run_storeCells_gen b ty fz rest o (i + 1) (cur.setIfInBounds (o + i) v) (w.setCell ⟨b, o + i, none⟩ v) hg'
   (by simp; omega) (fun x hx => h1 x (by simp [hx])) (fun k h1 h2 => hfz k (by omega) (by omega))
  refine ⟨w', cur', ?_, ⟨e0.1, e0.2.1, e0.2.2⟩, ?_, ?_, e4, by simpa using e5, fun k => ?_⟩
  ·simp only [storeCells, Sem.run_bind, hst, Result.andThen_ok, e1]
  ·rw [e2]; simp [World.setCell]
  ·intro x hx; rw [e3 x hx]; simp [World.setCell, Array.getElem?_modify, Ne.symm hx]
  ·rw [e6 k]
   by_cases hk : o + i = k
   ·subst hk
    rw [if_neg (by omega), if_pos (by simp only [List.length_cons]; omega)]
    have : o + i < cur.size := by omega
    simp [Array.getElem?_setIfInBounds, this]
   ·by_cases hk2 : o + (i + 1) ≤ k ∧ k < o + (i + 1) + rest.length
    ·rw [if_pos hk2, if_pos (by simp only [List.length_cons]; omega)]
     have e : k - (o + i) = (k - (o + (i + 1))) + 1 := by omega
     rw [e, List.getElem?_cons_succ]
    ·rw [if_neg hk2, if_neg (by simp only [List.length_cons]; omega)]
     simp [Array.getElem?_setIfInBounds, hk]

theorem VR.cell {p : PV} {v : Value} (h : VR K p v) (ho : p.one = true) : v.oneCell' = true := by
 cases h with
 | ir h => exact h.cell
 | agg => cases ho
 | tuple => cases ho
 | _ => rfl

theorem VR.cells {p : PV} {v : Value} (h : VR K p v) : p.cells.length = v.cells.size ∧ ∀ (i : Nat) (q : PV) (u : Value), p.cells[i]? = some q → v.cells[i]? = some u → VR K q u := by
 have one : ∀ (p : PV) (v : Value), VR K p v → p.cells = [p] → v.cells = #[v] → p.cells.length = v.cells.size ∧ ∀ (i : Nat) (q : PV) (u : Value), p.cells[i]? = some q → v.cells[i]? = some u → VR K q u := by
  intro p v h e1 e2
  rw [e1, e2]
  refine ⟨rfl, fun i q u hq hu => ?_⟩
  cases i with
  | zero => simp at hq hu; subst hq hu; exact h
  | succ i => simp at hq
 cases h with
 | ir h => exact one _ _ (.ir h) (by cases h <;> rfl) (by cases h <;> rfl)
 | agg ps vs hs ho h => exact ⟨hs, h⟩
 | ptr id off b hn hb => exact one _ _ (.ptr id off b hn hb) rfl rfl
 | own id u8 es L b off cap hn he hcap hg => exact one _ _ (.own id u8 es L b off cap hn he hcap hg) rfl rfl
 | func f first cap fv cv hf hc h1 h2 => exact one _ _ (.func f first cap fv cv hf hc h1 h2) rfl rfl
 | yield l r hn hl => exact one _ _ (.yield l r hn hl) rfl rfl
 | tuple ps vs hs h => exact one _ _ (.tuple ps vs hs h) rfl rfl

theorem VR.cellsOK {p : PV} {v : Value} (h : VR K p v) (ho : p.cells.all PV.one = true) : CellsOK K p.cells v.cells :=
 ⟨h.cells.1, fun q hq => List.all_eq_true.1 ho q hq, h.cells.2⟩

theorem CellsOK.val {cs : List PV} {vs : Array Value} (h : CellsOK K cs vs) : ∀ v ∈ vs.toList, v.oneCell' = true := by
 intro v hv
 obtain ⟨i, hi⟩ := List.mem_iff_getElem?.1 hv
 have hlt : i < cs.length := by rw [h.size]; have := (List.getElem?_eq_some_iff.1 hi).1; simpa using this
 exact (h.rel i cs[i] v (by simp [hlt]) (by simpa using hi)).cell (h.one _ (by simp))

theorem setAt_length : ∀ (vs cs : List PV) (o : Nat), (setAt cs o vs).length = cs.length
 | [], cs, o => rfl
 | v :: vs, cs, o => by simp [setAt, setAt_length vs]

theorem setAt_get : ∀ (vs cs : List PV) (o k : Nat), o + vs.length ≤ cs.length → (setAt cs o vs)[k]? = if o ≤ k ∧ k < o + vs.length then vs[k - o]? else cs[k]?
 | [], cs, o, k, _ => by rw [if_neg (by simp only [List.length_nil]; omega)]; rfl
 | v :: vs, cs, o, k, hl => by
  simp only [List.length_cons] at hl
  simp only [setAt]
  rw [setAt_get vs _ _ _ (by simp; omega)]
  simp only [List.length_cons]
  by_cases hk : o = k
  ·subst hk
   rw [if_neg (by omega), if_pos (by omega)]
   have : o < cs.length := by omega
   simp [List.getElem?_set, this]
  ·by_cases hk2 : o + 1 ≤ k ∧ k < o + 1 + vs.length
   ·rw [if_pos hk2, if_pos (by omega)]
    have e : k - o = (k - (o + 1)) + 1 := by omega
    rw [e, List.getElem?_cons_succ]
   ·rw [if_neg hk2, if_neg (by omega)]
    simp [List.getElem?_set, hk]

theorem run_v (s : Sem Value) (w : World) : ((do pure (Next.value (← s))) : Sem Next).run P w = (s.run P w).andThen fun v w' => .ok (.value v) w' := by
 simp only [Sem.run_bind, Sem.run_pure]

theorem sim_store (s : Sat P C K h w) {t : TypeId} {n : Nat} (ht : sizeT P t = some n) {q p : PV} {v u : Value} (hq : VR K q v) (hp : VR K p u) {h' : Heap} {r : PV}
  (he : storeP h q n p.cells = some (r, h')) :
  ∃ w', (Instr.storeAt t v u).run P w = .ok () w' ∧ r = undefP ∧ Step K w K w' ∧ Sat P C K h' w' := by
 unfold storeP at he
 cases q with
 | ptr id off =>
  simp only at he
  cases hx : h.box id with
  | none => rw [hx] at he; cases he
  | some cs =>
   rw [hx] at he
   simp only [Option.bind_some] at he
   split at he
   ·rename_i hc
    obtain ⟨hc1, hc2, hc3⟩ := hc
    cases he
    obtain ⟨b, vs, h1, h2, h3⟩ := s.box id cs hx
    cases hq with
    | ir hq => cases hq
    | ptr id off b' hn hb =>
     rw [h1] at hb; cases hb
     have hcp := hp.cellsOK hc3
     have hsz : u.cells.size = n := by rw [← hcp.size]; exact hc1
     obtain ⟨w', cur', e1, e0, e2, e3, e4, e5, e6⟩ := run_storeCells_gen (P := P) b (h.bty id) (0, 0) u.cells.toList off 0 vs w h2
      (by have := h3.size; simp; omega) hcp.val (fun k _ _ => by simp)
     refine ⟨w', ?_, rfl, ⟨e0, .refl K, Nat.le_of_eq e2.symm, fun _ hb => .inl hb, fun x _ hx => e3 x (fun e => hx (.inl ⟨id, e ▸ h1⟩)), fun _ _ _ _ => rfl⟩, ?_⟩
     ·simp only [Instr.storeAt, Instr.sureAddr, Sem.run_bind, Sem.run_pure, Result.andThen_ok, storeVar, run_size ht]
      rw [if_neg (by simpa using hsz)]
      simpa using e1
     ·refine s.setBox hx h1 e4 e3 ⟨?_, ?_, ?_⟩
      ·rw [setAt_length, e5, h3.size]
      ·intro p' hp'
       obtain ⟨i, hi⟩ := List.mem_iff_getElem?.1 hp'
       rw [setAt_get _ _ _ _ (by rw [hc1]; exact hc2)] at hi
       split at hi
       ·exact List.all_eq_true.1 hc3 _ (List.mem_iff_getElem?.2 ⟨_, hi⟩)
       ·exact h3.one _ (List.mem_iff_getElem?.2 ⟨_, hi⟩)
      ·intro i p' v' hp' hv'
       rw [setAt_get _ _ _ _ (by rw [hc1]; exact hc2), hc1] at hp'
       rw [e6 i] at hv'
       simp only [Nat.add_zero, Array.length_toList, hsz, Array.getElem?_toList] at hv'
       split at hp'
       ·rename_i hc; rw [if_pos hc] at hv'; exact hcp.rel _ _ _ hp' hv'
       ·rename_i hc; rw [if_neg hc] at hv'; exact h3.rel _ _ _ hp' hv'
   ·cases he
 | _ => cases he

theorem not_fp_new (s : Sat P C K h w) : ¬ K.fp w.heap.size := fun hb => Nat.lt_irrefl _ (s.fp_lt hb)
theorem not_im_new (s : Sat P C K h w) (o : Nat) : K.im w.heap.size o = none := by
 cases hx : K.im w.heap.size o with
 | none => rfl
 | some v => exact absurd (lt_of_cellAt (s.im _ _ _ hx)) (Nat.lt_irrefl _)

theorem sim_newBox (s : Sat P C K h w) {cs : List PV} {vs : Array Value} (ty : TypeId) (hc : CellsOK K cs vs) :
  ∃ w' K', (newRow ty vs).run P w = .ok ⟨w.heap.size, 0, none⟩ w' ∧ VR K' (.ptr h.n 0) (.pointer (some ⟨w.heap.size, 0, none⟩)) ∧ Step K w K' w' ∧ Sat P C K' (h.newBox ty cs) w' := by
 let w' : World := { w with heap := w.heap.push (.cells vs ty) }
 have s' : Sat P C K h w' := s.push (.cells vs ty) rfl
 obtain ⟨hle, hs, hfp, hρ⟩ := s'.newBox (cs := cs) (vs := vs) (ty := ty) (b := w.heap.size) (by simp [w']) (not_fp_new s) (not_im_new s) hc
 refine ⟨w', _, by simp [newRow, w'], .ptr _ _ _ (by simp [s.n]) hρ, ⟨.refl w, hle, by simp [w'], fun b hb => (hfp b hb).imp id (fun e => Nat.le_of_eq e.symm), fun b hb _ => ?_, fun _ _ _ _ => rfl⟩, hs⟩
 simp only [w']; rw [getElem?_push_lt hb]

theorem sim_alloc (s : Sat P C K h w) {t : TypeId} {z : List PV} (ht : zeroT P t = some z) :
  OpOK P C K w (h.newBox t z) (.ptr h.n 0) ((do pure (Next.value (← Instr.alloc t true (.tuple #[])))) |>.run P w) := by
 obtain ⟨v, h1, h2, h3, h4⟩ := run_zeroT ht w
 obtain ⟨w', K', e1, e2, e3, e4⟩ := sim_newBox s (cs := z) (vs := v.cells) t ⟨h2, h3, fun i p u hp hu => .ir (h4 i p u hp hu _)⟩
 refine ⟨_, w', K', .inl ?_, e2, e3, e4⟩
 simp only [run_v, Instr.alloc, Sem.run_bind, h1, Result.andThen_ok, newVar, e1, Sem.run_pure]

theorem sim_box (s : Sat P C K h w) (t : TypeId) {p : PV} {v : Value} (hv : VR K p v) (ho : p.cells.all PV.one = true) :
  OpOK P C K w (h.newBox t p.cells) (.ptr h.n 0) ((do pure (Next.value (← Instr.box t v))) |>.run P w) := by
 obtain ⟨w', K', e1, e2, e3, e4⟩ := sim_newBox s (cs := p.cells) (vs := v.cells) t (hv.cellsOK ho)
 refine ⟨_, w', K', .inl ?_, e2, e3, e4⟩
 simp only [run_v, Instr.box, Sem.run_bind, Result.andThen_ok, newVar, e1, Sem.run_pure]

theorem sim_newArr (s : Sat P C K h w) {L : List (List PV)} {es cap : Nat} {vs : Array Value} (ty : TypeId) (hcap : L.length ≤ cap) (hes : cap * es ≤ vs.size)
  (hl : ∀ (i : Nat) (e : List PV), L[i]? = some e → e.length = es)
  (hr : ∀ (i : Nat) (e : List PV) (j : Nat) (p : PV), L[i]? = some e → e[j]? = some p → ∃ c, vs[i * es + j]? = some c ∧ IR K.im p c) :
  ∃ w' K', (newRow ty vs).run P w = .ok ⟨w.heap.size, 0, none⟩ w' ∧ VR K' (.slice (.own h.n false) es L) (.slice (some ⟨w.heap.size, 0, none⟩) L.length cap) ∧ Step K w K' w' ∧ Sat P C K' h.newArr w' ∧
   w'.heap = w.heap.push (.cells vs ty) := by
 let w' : World := { w with heap := w.heap.push (.cells vs ty) }
 have s' : Sat P C K h w' := s.push (.cells vs ty) rfl
 have hle' : L.length * es ≤ cap * es := Nat.mul_le_mul_right _ hcap
 obtain ⟨hle, hs, hfp, hgh, him, himn⟩ := s'.newArr false (vs := vs) (ty := ty) (b := w.heap.size) (lo := 0) (hi := 0) (f0 := 0) (fend := L.length * es) (cend := cap * es) (by simp [w']) (not_fp_new s)
  (fun o _ => not_im_new s o) (Nat.zero_le _) hle' hes (fun o _ _ => by omega) (fun h => by cases h)
 have hlt : ∀ (i : Nat) (e : List PV) (j : Nat) (p : PV), L[i]? = some e → e[j]? = some p → i * es + j < L.length * es := fun i e j p hi hj => by
  have h1 : i < L.length := (List.getElem?_eq_some_iff.1 hi).1
  have h2 : j < es := by rw [← hl i e hi]; exact (List.getElem?_eq_some_iff.1 hj).1
  calc i * es + j < i * es + es := by omega
   _ = (i + 1) * es := by rw [Nat.add_mul]; simp
   _ ≤ L.length * es := Nat.mul_le_mul_right _ h1
 refine ⟨w', _, by simp [newRow, w'], .own _ _ _ _ _ _ _ (by simp [s.n]) ⟨hl, fun i e j p hi hj => ?_, fun i e j p c hi hj hc => ?_⟩ hcap (fun g hg => ?_),
  ⟨.refl w, hle, by simp [w'], fun b hb => (hfp b hb).imp id (fun e => Nat.le_of_eq e.symm), fun b hb _ => by simp only [w']; rw [getElem?_push_lt hb], fun b o hb _ => himn b o (Nat.ne_of_lt hb)⟩, hs, rfl⟩
 ·obtain ⟨c, hc, _⟩ := hr i e j p hi hj
  rw [Nat.zero_add, him _ (Nat.zero_le _) (hlt i e j p hi hj), hc]; rfl
 ·obtain ⟨c', hc', hi'⟩ := hr i e j p hi hj
  rw [Nat.zero_add, him _ (Nat.zero_le _) (hlt i e j p hi hj), hc'] at hc; cases hc
  exact hi'.mono hle.im
 ·rw [hgh] at hg; cases hg; simp
end
end Go.Proofs.YtmngkcpobmhnoaaGreatDoor.Sim
/- Operations that only reckon, build and look; literals of slices; appends. -/
namespace Go.Proofs.YtmngkcpobmhnoaaGreatDoor.Sim

section
variable {P : Program} {C : CEnv} {K : KW} {h : Heap} {w : World} {nt : Nat} {f : Fr} {a : Act}

theorem foldl_put : ∀ (vs : List Value) (off i : Nat) (cs : Array Value), off + i + vs.length ≤ cs.size →
  ((vs.zipIdx i).foldl (fun cs (c, j) => cs.setIfInBounds (off + j) c) cs).size = cs.size ∧
  ∀ k, ((vs.zipIdx i).foldl (fun cs (c, j) => cs.setIfInBounds (off + j) c) cs)[k]? = if off + i ≤ k ∧ k < off + i + vs.length then vs[k - (off + i)]? else cs[k]?
 | [], off, i, cs, _ => ⟨rfl, fun k => by rw [if_neg (by simp only [List.length_nil]; omega)]; rfl⟩
 | v :: vs, off, i, cs, hl => by
  simp only [List.length_cons] at hl
  simp only [List.zipIdx_cons, List.foldl_cons]
  obtain ⟨h1, h2⟩ := foldl_put vs off (i + 1) (cs.setIfInBounds (off + i) v) (by simp; omega)
  refine ⟨by rw [h1]; simp, fun k => ?_⟩
  rw [h2 k]
  simp only [List.length_cons]
  by_cases hk : off + i = k
  ·subst hk
   rw [if_neg (by omega), if_pos (by omega)]
   have : off + i < cs.size := by omega
   simp [Array.getElem?_setIfInBounds, this]
  ·by_cases hk2 : off + (i + 1) ≤ k ∧ k < off + (i + 1) + vs.length
   ·rw [if_pos hk2, if_pos (by omega)]
    have e : k - (off + i) = (k - (off + (i + 1))) + 1 := by omega
    rw [e, List.getElem?_cons_succ]
   ·rw [if_neg hk2, if_neg (by omega)]
    simp [Array.getElem?_setIfInBounds, hk]

theorem fill_sim (s : Sat P C K h w) (hf : FrOK K nt f a.tmps) (place : Nat → Option (Nat × Nat)) : ∀ (parts : List (Nat × Operand)) (rs : List (Nat × Nat × Opd)) (cs cs' : List PV) (vs : Array Value),
  cParts C place parts = some rs → CellsOK K cs vs → fillP f cs rs = some cs' →
  ∃ vs', Instr.fill place vs (parts.map fun (i, x) => (i, a.eval x)) = some vs' ∧ CellsOK K cs' vs' ∧ vs'.size = vs.size
 | [], rs, cs, cs', vs, hc, hk, he => by
  cases hc; cases he
  exact ⟨vs, rfl, hk, rfl⟩
 | (i, x) :: parts, rs, cs, cs', vs, hc, hk, he => by
  simp only [cParts] at hc
  split at hc
  ·rename_i o sz y r hp hx hr
   cases hc
   simp only [fillP] at he
   split at he
   ·rename_i hcond
    obtain ⟨c1, c2, c3⟩ := hcond
    have hv := opd_sim s hf hx
    have hcv := hv.cellsOK c3
    have hsz : (a.eval x).cells.size = sz := by rw [← hcv.size]; exact c1
    have hb : o + 0 + (a.eval x).cells.toList.length ≤ vs.size := by rw [← hk.size]; simp; omega
    obtain ⟨g1, g2⟩ := foldl_put (a.eval x).cells.toList o 0 vs hb
    have hk' : CellsOK K (setAt cs o (y.ev f).cells) (((a.eval x).cells.toList.zipIdx 0).foldl (fun cs (c, j) => cs.setIfInBounds (o + j) c) vs) := by
     refine ⟨by rw [setAt_length, g1, hk.size], fun p hp => ?_, fun k p v hp hv' => ?_⟩
     ·obtain ⟨k, hk2⟩ := List.mem_iff_getElem?.1 hp
      rw [setAt_get _ _ _ _ (by rw [c1]; exact c2)] at hk2
      split at hk2
      ·exact hcv.one _ (List.mem_iff_getElem?.2 ⟨_, hk2⟩)
      ·exact hk.one _ (List.mem_iff_getElem?.2 ⟨_, hk2⟩)
     ·rw [setAt_get _ _ _ _ (by rw [c1]; exact c2), c1] at hp
      rw [g2 k] at hv'
      simp only [Nat.add_zero, Array.length_toList, hsz, Array.getElem?_toList] at hv'
      split at hp
      ·rename_i hc; rw [if_pos hc] at hv'; exact hcv.rel _ _ _ hp hv'
      ·rename_i hc; rw [if_neg hc] at hv'; exact hk.rel _ _ _ hp hv'
    obtain ⟨vs', e1, e2, e3⟩ := fill_sim s hf place parts r _ cs' _ hr hk' he
    refine ⟨vs', ?_, e2, by rw [e3, g1]⟩
    simp only [List.map_cons, Instr.fill, hp]
    rw [if_neg (by simp [hsz]; rw [← hk.size]; omega)]
    rw [← e1]
    congr 1
    rw [← Array.foldl_toList]
    simp
   ·cases he
  ·cases hc

theorem run_mapM_ok {α β : Type} (g : α → Sem β) (g' : α → β) : ∀ (l : List α) (w : World), (∀ x ∈ l, ∀ w, (g x).run P w = .ok (g' x) w) → (l.mapM g).run P w = .ok (l.map g') w
 | [], w, _ => by simp
 | x :: l, w, hl => by
  simp only [List.mapM_cons, Sem.run_bind, hl x (by simp) w, Result.andThen_ok, run_mapM_ok g g' l w (fun y hy => hl y (by simp [hy])), Sem.run_pure, List.map_cons]

theorem sim_build (s : Sat P C K h w) (hf : FrOK K nt f a.tmps) {t : TypeId} {parts : Array (Nat × Operand)} {r : ROp} (hc : cOp P C (.build t parts) = some r) {p : PV} {h' : Heap}
  (orc pure : FuncId → List PV → Option PV) (call : PV → List PV → Heap → Option (PV × Heap)) (he : evalOp orc pure call r f h = some (p, h')) :
  OpOK P C K w h' p ((do Pure.pure (Next.value (← Instr.build t (parts.map fun (i, x) => (i, a.eval x))))) |>.run P w) := by
 simp only [cOp] at hc
 split at hc
 ·rename_i fields z hu hz
  split at hc
  ·rename_i szs hsz
   simp only [Option.map_eq_some_iff] at hc
   obtain ⟨rs, hrs, rfl⟩ := hc
   simp only [evalOp, Option.map_eq_some_iff] at he
   obtain ⟨cs', hcs, he⟩ := he
   cases he
   obtain ⟨v, z1, z2, z3, z4⟩ := run_zeroT hz w
   obtain ⟨vs', e1, e2, _⟩ := fill_sim s hf _ parts.toList rs z cs' v.cells hrs ⟨z2, z3, fun i p u hp hu => .ir (z4 i p u hp hu _)⟩ hcs
   have hm : (fields.mapM fun fd : Field => do Pure.pure (fd.offset, ← sizeOf fd.type)).run P w = .ok (fields.map fun fd => (fd.offset, (sizeT P fd.type).getD 0)) w := by
    rw [Array.mapM_eq_mapM_toList]
    simp only [Sem.run_map]
    rw [run_mapM_ok _ (fun fd : Field => (fd.offset, (sizeT P fd.type).getD 0))]
    ·simp only [Result.andThen_ok]
     congr 1
     apply Array.ext'
     simp
    ·intro fd hfd w'
     obtain ⟨i, hi⟩ := List.mem_iff_getElem?.1 hfd
     obtain ⟨n, _, hn⟩ := mapO_get hsz i fd hi
     simp only [Sem.run_bind, run_size hn, Result.andThen_ok, Sem.run_pure, hn, Option.getD_some]
   have hplace : (fun i : Nat => (fields.map fun fd : Field => (fd.offset, (sizeT P fd.type).getD 0))[i]?) = (fun i : Nat => (fields[i]?).bind fun fd : Field => (sizeT P fd.type).map fun s => (fd.offset, s)) := by
    funext i
    simp only [Array.getElem?_map]
    cases hfi : fields[i]? with
    | none => rfl
    | some fd =>
     obtain ⟨n, _, hn⟩ := mapO_get hsz i fd (by simpa using hfi)
     simp [hn]
   refine ⟨.agg vs', w, K, .inl ?_, .agg _ _ e2.size e2.one e2.rel, .refl K w, s⟩
   simp only [run_v, Instr.build, Sem.run_bind, z1, Result.andThen_ok, run_und hu, hm, hplace]
   simp only [Array.toList_map, e1, Sem.run_pure, Result.andThen_ok]
  ·cases hc
 ·rename_i n e z hu hz
  cases hs : sizeT P e with
  | none => rw [hs] at hc; cases hc
  | some es =>
   rw [hs] at hc
   simp only [Option.bind_some, Option.map_eq_some_iff] at hc
   obtain ⟨rs, hrs, rfl⟩ := hc
   simp only [evalOp, Option.map_eq_some_iff] at he
   obtain ⟨cs', hcs, he⟩ := he
   cases he
   obtain ⟨v, z1, z2, z3, z4⟩ := run_zeroT hz w
   obtain ⟨vs', e1, e2, _⟩ := fill_sim s hf _ parts.toList rs z cs' v.cells hrs ⟨z2, z3, fun i p u hp hu => .ir (z4 i p u hp hu _)⟩ hcs
   refine ⟨.agg vs', w, K, .inl ?_, .agg _ _ e2.size e2.one e2.rel, .refl K w, s⟩
   simp only [run_v, Instr.build, Sem.run_bind, z1, Result.andThen_ok, run_und hu, run_size hs, Array.toList_map, e1, Sem.run_pure]
 ·cases hc

theorem st1_ir {p q : PV} {v : Value} (hp : VR K p v) (hq : p.st1 = some q) : IR K.im q v := by
 cases hp with
 | ir hp =>
  cases hp with
  | shared es L b off cap hcap hl h1 h2 => cases hq; exact .shared es L b off cap hcap hl h1 h2
  | full es L b off hl h1 h2 => cases hq; exact .full es L b off hl h1 h2
  | cptr cs b o off h1 h2 => cases hq; exact .cptr cs b o off h1 h2
  | func f => cases hq; exact .func f
  | _ => cases hq; constructor
 | ptr => cases hq
 | own id u8 es L b off cap hn he hcap hg => cases hq; exact .shared es L b off cap hcap he.hl he.h1 he.h2
 | func f first cap fv cv hf hc h1 h2 =>
  simp only [PV.st1] at hq
  split at hq
  ·rename_i hcond
   cases hq
   simp only [Bool.and_eq_true, List.isEmpty_iff] at hcond
   obtain ⟨rfl, rfl⟩ := hcond
   have e1 : fv = #[] := by simpa using hf.symm
   have e2 : cv = #[] := by simpa using hc.symm
   subst e1 e2
   exact .func f
  ·cases hq
 | yield => cases hq
 | agg => cases hq
 | tuple => cases hq

theorem chunk_length (es : Nat) : ∀ (n : Nat) (cs : List PV), (chunk es n cs).length = n
 | 0, _ => rfl
 | n + 1, cs => by simp [chunk, chunk_length es n]

theorem chunk_get (es : Nat) : ∀ (n : Nat) (cs : List PV) (i : Nat) (e : List PV), (chunk es n cs)[i]? = some e → e = (cs.drop (i * es)).take es ∧ i < n
 | 0, cs, i, e, h => by simp [chunk] at h
 | n + 1, cs, i, e, h => by
  cases i with
  | zero => simp [chunk] at h; exact ⟨by simp [h], by omega⟩
  | succ i =>
   simp only [chunk, List.getElem?_cons_succ] at h
   obtain ⟨h1, h2⟩ := chunk_get es n _ i e h
   refine ⟨?_, by omega⟩
   rw [h1, List.drop_drop]
   congr 2
   rw [Nat.add_mul]; omega

theorem repeatL_length {α : Type} (z : List α) : ∀ n, (repeatL z n).length = n * z.length
 | 0 => by simp [repeatL]
 | n + 1 => by simp [repeatL, repeatL_length z n, Nat.add_mul]; omega

theorem repeatL_get {α : Type} (z : List α) : ∀ (n k : Nat), k < n * z.length → (repeatL z n)[k]? = z[k % z.length]?
 | 0, k, h => by simp at h
 | n + 1, k, h => by
  simp only [repeatL]
  by_cases hk : k < z.length
  ·rw [List.getElem?_append_left hk, Nat.mod_eq_of_lt hk]
  ·rw [List.getElem?_append_right (by omega), repeatL_get z n _ (by rw [Nat.add_mul] at h; omega)]
   congr 1
   rw [← Nat.mod_eq_sub_mod (by omega)]

theorem sim_bslice (s : Sat P C K h w) (hf : FrOK K nt f a.tmps) {t : TypeId} {len : Nat} {parts : Array (Nat × Operand)} {r : ROp} (hc : cOp P C (.buildSlice t len parts) = some r) {p : PV} {h' : Heap}
  (orc pure : FuncId → List PV → Option PV) (call : PV → List PV → Heap → Option (PV × Heap)) (he : evalOp orc pure call r f h = some (p, h')) :
  OpOK P C K w h' p ((do Pure.pure (Next.value (← Instr.buildSlice t len (parts.map fun (i, x) => (i, a.eval x))))) |>.run P w) := by
 simp only [cOp] at hc
 split at hc
 ·rename_i e hu
  split at hc
  ·rename_i es bs z hs hb hz
   split at hc
   ·rename_i hcond
    obtain ⟨c0, c1, c2⟩ := hcond
    simp only [Option.map_eq_some_iff] at hc
    obtain ⟨rs, hrs, rfl⟩ := hc
    simp only [evalOp] at he
    cases hcs : fillP f (repeatL z len) rs with
    | none => rw [hcs] at he; cases he
    | some cs =>
     rw [hcs] at he
     simp only [Option.bind_some] at he
     cases hst : mapO PV.st1 cs with
     | none => rw [hst] at he; cases he
     | some cs' =>
      rw [hst] at he
      cases he
      obtain ⟨v, z1, z2, z3, z4⟩ := run_zeroT hz w
      have hzs : v.cells.size = es := by rw [← z2]; exact c1
      have hrl : (repeatL z len).length = len * es := by rw [repeatL_length, c1]
      let zv : Value := if len * es = 0 then .agg #[] else v
      have hk : CellsOK K (repeatL z len) ((Array.range (len * es)).map (v.cells[· % v.cells.size]!)) := by
       refine ⟨by simp [hrl], fun p hp => ?_, fun i p u hp hu => ?_⟩
       ·obtain ⟨i, hi⟩ := List.mem_iff_getElem?.1 hp
        have hlt := (List.getElem?_eq_some_iff.1 hi).1
        rw [repeatL_get z len i (by rw [c1, ← hrl]; exact hlt)] at hi
        exact z3 _ (List.mem_iff_getElem?.2 ⟨_, hi⟩)
       ·have hlt : i < len * es := by rw [← hrl]; exact (List.getElem?_eq_some_iff.1 hp).1
        rw [repeatL_get z len i (by rw [c1]; exact hlt), c1] at hp
        have hm : i % es < v.cells.size := by rw [hzs]; exact Nat.mod_lt _ c0
        have e1 : ((Array.range (len * es)).map (v.cells[· % v.cells.size]!))[i]? = some v.cells[i % es] := by
         simp [hlt, hzs, getElem!_def]
         rw [Array.getElem?_eq_getElem hm]
        rw [e1] at hu; cases hu
        exact .ir (z4 (i % es) p _ hp (by simp [hm]) _)
      obtain ⟨vs', e1, e2, e3⟩ := fill_sim s hf _ parts.toList rs _ cs _ hrs hk hcs
      have hvs : vs'.size = len * es := by rw [e3]; simp
      obtain ⟨w', K', n1, n2, n3, n4, _⟩ := sim_newArr s (L := chunk es len cs') (es := es) (cap := len) (vs := vs') e (by rw [chunk_length]; exact Nat.le_refl _) (Nat.le_of_eq hvs.symm)
       (fun i el hi => by
        obtain ⟨rfl, hlt⟩ := chunk_get es len cs' i el hi
        have hcl : cs'.length = len * es := by rw [mapO_length hst, e2.size, hvs]
        have : (i + 1) * es ≤ len * es := Nat.mul_le_mul_right _ hlt
        rw [Nat.add_mul] at this
        simp [hcl]; omega)
       (fun i el j q hi hj => by
        obtain ⟨rfl, hlt⟩ := chunk_get es len cs' i el hi
        have hjl : j < es := by have := (List.getElem?_eq_some_iff.1 hj).1; simp at this; omega
        simp only [List.getElem?_take, hjl, if_true, List.getElem?_drop] at hj
        obtain ⟨x, g1, g2⟩ := mapO_get' hst _ _ hj
        have hlt2 : i * es + j < vs'.size := by rw [← e2.size]; exact (List.getElem?_eq_some_iff.1 g1).1
        exact ⟨vs'[i * es + j], by simp [hlt2], st1_ir (e2.rel _ x _ g1 (by simp [hlt2])) g2⟩)
      rw [chunk_length] at n2
      refine ⟨_, w', K', .inl ?_, n2, n3, n4⟩
      simp only [run_v, Instr.buildSlice, Sem.run_bind, run_und hu, Result.andThen_ok, run_size hs]
      rw [if_neg (by omega)]
      by_cases h0 : len * es = 0
      ·have ev : vs' = #[] := by apply Array.eq_empty_of_size_eq_zero; rw [hvs, h0]
       have hl0 : len = 0 := by rcases Nat.mul_eq_zero.1 h0 with h0 | h0 <;> omega
       subst hl0
       simp only [Nat.zero_mul, if_true, Sem.run_pure, Result.andThen_ok]
       simp only [Nat.zero_mul] at e1
       have e1' : Instr.fill (fun i => some (i * es, es)) (Array.map (fun x => (#[] : Array Value)[x % (#[] : Array Value).size]!) (Array.range 0)) (parts.map fun (i, x) => (i, a.eval x)).toList = some vs' := by
        rw [Array.toList_map]
        have hr : Array.range 0 = #[] := rfl
        rw [hr, Array.map_empty] at e1 ⊢
        exact e1
       simp only [e1', Sem.run_bind, n1, Result.andThen_ok, Sem.run_pure]
      ·simp only [h0, if_false, Sem.run_bind, z1, Result.andThen_ok, Sem.run_pure, Array.toList_map, e1, n1]
   ·cases hc
  ·cases hc
 ·cases hc
end
end Go.Proofs.YtmngkcpobmhnoaaGreatDoor.Sim
/- Plain operations: arithmetic, comparisons, conversions, slicing, addresses, parts. -/
namespace Go.Proofs.YtmngkcpobmhnoaaGreatDoor.Sim

section
variable {P : Program} {C : CEnv} {K : KW} {h : Heap} {w : World} {nt : Nat} {f : Fr} {a : Act}

theorem VR.int_inv {k : IntKind} {n : Int} {v : Value} (h : VR K (.int k n) v) : v = .int k n := by
 cases h with | ir h => cases h; rfl
theorem VR.str_inv {s : List UInt8} {v : Value} (h : VR K (.str s) v) : v = .string ⟨s.toArray⟩ := by
 cases h with | ir h => cases h; rfl
theorem VR.bool_inv {b : Bool} {v : Value} (h : VR K (.bool b) v) : v = .bool b := by
 cases h with | ir h => cases h; rfl
theorem VR.nilptr_inv {v : Value} (h : VR K .nilptr v) : v = .pointer none := by
 cases h with | ir h => cases h; rfl
theorem VR.ptr_inv {id off : Nat} {v : Value} (h : VR K (.ptr id off) v) : ∃ b, v = .pointer (some ⟨b, off, none⟩) ∧ K.ρ id = some b ∧ id < K.n := by
 cases h with
 | ir h => cases h
 | ptr id off b hn hb => exact ⟨b, rfl, hb, hn⟩
theorem VR.func_inv {g : FuncId} {x y : List PV} {v : Value} (h : VR K (.func g x y) v) : ∃ b o, v = .func (.func g) b o ∧ x.length = b.size ∧ y.length = o.size ∧
  (∀ (i : Nat) (p : PV) (v : Value), x[i]? = some p → b[i]? = some v → VR K p v) ∧ (∀ (i : Nat) (p : PV) (v : Value), y[i]? = some p → o[i]? = some v → VR K p v) := by
 cases h with
 | ir h => cases h; exact ⟨_, _, rfl, rfl, rfl, by simp, by simp⟩
 | func f first cap fv cv hf hc h1 h2 => exact ⟨_, _, rfl, hf, hc, h1, h2⟩
theorem VR.yield_inv {l : Nat} {v : Value} (h : VR K (.yield l) v) : ∃ r, v = .func (.yield r) #[] #[] ∧ K.lp l = some r ∧ l < K.n := by
 cases h with
 | ir h => cases h
 | yield l r hn hl => exact ⟨r, rfl, hl, hn⟩
theorem VR.cptr_inv {cs : List PV} {off : Nat} {v : Value} (h : VR K (.cptr cs off) v) : ∃ b o, v = .pointer (some ⟨b, o, none⟩) := by
 cases h with | ir h => obtain ⟨b, o, e, _⟩ := ptr_cases h; exact ⟨b, _, e⟩
theorem VR.nilIface_of {p : PV} (h : VR K p .nilIface) : p = .nilIface := by
 cases h with | ir h => cases h; rfl
theorem VR.agg_of {p : PV} {us : Array Value} (h : VR K p (.agg us)) : ∃ ps, p = .agg ps := by
 cases h with
 | ir h => cases h
 | agg ps => exact ⟨ps, rfl⟩
theorem VR.tuple_inv {ps : List PV} {v : Value} (h : VR K (.tuple ps) v) : ∃ vs, v = .tuple vs ∧ ps.length = vs.size ∧ ∀ (i : Nat) (p : PV) (v : Value), ps[i]? = some p → vs[i]? = some v → VR K p v := by
 cases h with
 | ir h => cases h
 | tuple ps vs hs h => exact ⟨vs, rfl, hs, h⟩
theorem VR.agg_inv {ps : List PV} {v : Value} (h : VR K (.agg ps) v) : ∃ vs, v = .agg vs ∧ CellsOK K ps vs := by
 cases h with
 | ir h => cases h
 | agg ps vs hs ho h => exact ⟨vs, rfl, hs, ho, h⟩

theorem VR.slice_inv {o : Own} {es : Nat} {L : List (List PV)} {v : Value} (h : VR K (.slice o es L) v) :
  (v = .slice none 0 0 ∧ L = [] ∧ (o = .nil ∨ o = .shared ∨ o = .full)) ∨ ∃ b off cap, v = .slice (some ⟨b, off, none⟩) L.length cap ∧ Elems K.im b off es L ∧ L.length ≤ cap ∧ o ≠ .nil ∧
   (o = .full → cap = L.length) ∧ (∀ id u8, o = .own id u8 → id < K.n ∧ ∀ g, K.gh id = some g → g.b = b ∧ g.fend = off + L.length * es ∧ g.cend = off + cap * es ∧ (u8 = true → g.u8 = true)) := by
 cases h with
 | ir h =>
  cases h with
  | snil es => exact .inl ⟨rfl, rfl, .inl rfl⟩
  | snil' es => exact .inl ⟨rfl, rfl, .inr (.inl rfl)⟩
  | snil'' es => exact .inl ⟨rfl, rfl, .inr (.inr rfl)⟩
  | shared es L b off cap hcap hl h1 h2 => exact .inr ⟨b, off, cap, rfl, ⟨hl, h1, h2⟩, hcap, (by intro h; cases h), (by intro h; cases h), (by intro id u8 h; cases h)⟩
  | full es L b off hl h1 h2 => exact .inr ⟨b, off, _, rfl, ⟨hl, h1, h2⟩, Nat.le_refl _, (by intro h; cases h), fun _ => rfl, (by intro id u8 h; cases h)⟩
 | own id u8 es L b off cap hn he hcap hg => exact .inr ⟨b, off, cap, rfl, he, hcap, (by intro h; cases h), (by intro h; cases h), fun id' u8' e => by cases e; exact ⟨hn, hg⟩⟩

theorem run_bits (op : BinOp) (k : IntKind) (x y : Int) {p : PV} (hp : bitsP op k x y = some p) : ∃ v, (Op.intBits op k x y).run P w = .ok v w ∧ VR K p v := by
 cases op <;> simp only [bitsP] at hp <;> first
  | (cases hp; done)
  | (cases hp; exact ⟨_, rfl, .ir (.int _ _)⟩)

theorem run_int (op : BinOp) (k : IntKind) (x y : Int) {p : PV} (hp : intP op k x y = some p) (h1 : op ≠ .shl) (h2 : op ≠ .shr) (t : TypeId) :
  ∃ v, (binOp op t (.int k x) (.int k y)).run P w = .ok v w ∧ VR K p v := by
 cases op <;> simp only [intP] at hp <;> simp only [binOp, ne_eq, not_true_eq_false, if_false] <;> first
  | (exact run_bits _ _ _ _ hp)
  | (cases hp; exact ⟨_, rfl, .ir (.int _ _)⟩)
  | (cases hp; exact ⟨_, rfl, .ir (.bool _)⟩)
  | (cases hp; done)
  | (
    split at hp
    ·cases hp
    ·rename_i hy
     cases hp
     refine ⟨_, ?_, .ir (.int _ _)⟩
     simp only [Op.intDiv, if_neg hy]; rfl)

theorem toList_mk (s : List UInt8) : (ByteArray.mk s.toArray).toList = s := by rw [ByteArray.toList_eq]

theorem run_str (op : BinOp) (x y : List UInt8) {p : PV} (hp : strP op x y = some p) (t : TypeId) :
  ∃ v, (binOp op t (.string ⟨x.toArray⟩) (.string ⟨y.toArray⟩)).run P w = .ok v w ∧ VR K p v := by
 have hb : binOp op t (.string ⟨x.toArray⟩) (.string ⟨y.toArray⟩) = Op.stringOp op ⟨x.toArray⟩ ⟨y.toArray⟩ := by cases op <;> rfl
 rw [hb]
 cases op <;> simp only [strP] at hp <;> simp only [Op.stringOp, toList_mk] <;> first
  | (cases hp; done)
  | (cases hp; exact ⟨_, rfl, .ir (.bool _)⟩)
  | (
    split at hp
    ·rename_i hle
     cases hp
     refine ⟨.string ⟨(x ++ y).toArray⟩, ?_, .ir (.str _)⟩
     have hs : ∀ l : List UInt8, (ByteArray.mk l.toArray).size = l.length := fun l => by simp [ByteArray.size]
     rw [if_neg (by rw [hs, hs]; simp [IntKind.max, IntKind.bits, IntKind.signed]; omega)]
     have : (ByteArray.mk x.toArray) ++ (ByteArray.mk y.toArray) = ByteArray.mk (x ++ y).toArray := by
      apply ByteArray.ext
      simp [ByteArray.data_append]
     rw [this]; rfl
    ·cases hp)

def EqSpec (P : Program) (t : TypeId) : EqK → Prop
 | .none => True
 | .bool => P.underlying t = some .bool
 | .ptr => ∃ e, P.underlying t = some (.pointer e)
 | .slice => ∃ e, P.underlying t = some (.slice e)
 | .iface => ∃ m, P.underlying t = some (.interface m)
 | .func => ∃ x y z, P.underlying t = some (.func x y z)
 | .ifaceI ts => (∃ m, P.underlying t = some (.interface m)) ∧ ts.all (compInt P) = true
 | .agg ts => ∃ fs, P.underlying t = some (.struct fs) ∧ P.stoodInHeld t = false ∧ P.eqGuardType P.depth t = false ∧ eqTags P fs.toList 0 = some ts

theorem cEq_spec (t : TypeId) : EqSpec P t (cEq P t) := by
 unfold cEq
 split
 ·rename_i hu; exact hu
 ·rename_i e hu; exact ⟨_, hu⟩
 ·rename_i e hu; exact ⟨_, hu⟩
 ·rename_i e hu; exact ⟨_, hu⟩
 ·rename_i hu; exact ⟨_, _, _, hu⟩
 ·rename_i fs hu
  split
  ·trivial
  ·rename_i h1
   split
   ·trivial
   ·rename_i h2
    split
    ·rename_i ts h3; exact ⟨fs, hu, by simpa using h1, by simpa using h2, h3⟩
    ·trivial
 ·trivial

theorem run_tagEq (d : Nat) (t : TypeId) (td : TypeDesc) (hu : P.underlying t = some td) {x y : PV} {u v : Value} (hx : VR K x u) (hy : VR K y v) {b : Bool} (hb : tagEq td x y = some b) :
  (Op.equalIn (d + 1) t u v).run P w = .ok b w := by
 unfold tagEq at hb
 split at hb
 ·cases hb
  rw [hx.bool_inv, hy.bool_inv]; exact run_equalIn_bool w d t _ _ hu
 ·split at hb
  ·rename_i e; subst e; cases hb
   rw [hx.int_inv, hy.int_inv]; exact run_equalIn_int w d t _ _ _ _ hu
  ·cases hb
 ·cases hb
  rw [hx.str_inv, hy.str_inv, run_equalIn_string w d t _ _ hu, toList_mk, toList_mk]
 ·cases hb

theorem run_part (t : TypeId) (ht : isAggT P t = some false) (vs : Array Value) (off : Nat) (v : Value) (hv : vs[off]? = some v) : (part t vs off).run P w = .ok v w := by
 simp only [part, Sem.run_bind, run_aggT ht, Result.andThen_ok, Bool.false_eq_true, if_false, hv, Sem.run_pure]

theorem drop_cons {xs : List PV} {off : Nat} {x : PV} {r : List PV} (h : xs.drop off = x :: r) : xs[off]? = some x ∧ xs.drop (off + 1) = r := by
 have : (xs.drop off)[0]? = some x := by rw [h]; rfl
 rw [List.getElem?_drop, Nat.add_zero] at this
 refine ⟨this, ?_⟩
 have := congrArg (List.drop 1) h
 rw [List.drop_drop] at this
 simpa using this

theorem run_eqFields (d : Nat) : ∀ (fs : List Field) (off : Nat) (ts : List TypeDesc) (xs ys : List PV) (us vs : Array Value) (b : Bool), eqTags P fs off = some ts → CellsOK K xs us → CellsOK K ys vs →
  tagsEq ts (xs.drop off) (ys.drop off) = some b → (Op.eqFields (d + 1) us vs fs).run P w = .ok b w
 | [], off, ts, xs, ys, us, vs, b, ht, hx, hy, hb => by
  cases ht
  have : b = true := by
   cases h1 : xs.drop off <;> cases h2 : ys.drop off <;> rw [h1, h2] at hb <;> simp [tagsEq] at hb
   exact hb
  subst this
  simp [Op.eqFields]
 | fd :: fs, off, ts, xs, ys, us, vs, b, ht, hx, hy, hb => by
  simp only [eqTags] at ht
  split at ht
  ·rename_i hc
   obtain ⟨ho, hne⟩ := hc
   have key : ∀ td ts', P.underlying fd.type = some td → (isAggT P fd.type = some false) → eqTags P fs (off + 1) = some ts' → ts = td :: ts' → (Op.eqFields (d + 1) us vs (fd :: fs)).run P w = .ok b w := by
    intro td ts' hu hag hts e
    subst e
    cases h1 : xs.drop off with
    | nil => rw [h1] at hb; simp [tagsEq] at hb
    | cons x xr =>
     cases h2 : ys.drop off with
     | nil => rw [h1, h2] at hb; simp [tagsEq] at hb
     | cons y yr =>
      obtain ⟨g1, g1'⟩ := drop_cons h1
      obtain ⟨g2, g2'⟩ := drop_cons h2
      rw [h1, h2] at hb
      simp only [tagsEq] at hb
      split at hb
      ·rename_i b1 b2 hb1 hb2
       cases hb
       have l1 : off < us.size := by rw [← hx.size]; exact (List.getElem?_eq_some_iff.1 g1).1
       have l2 : off < vs.size := by rw [← hy.size]; exact (List.getElem?_eq_some_iff.1 g2).1
       have r1 := run_tagEq (w := w) d fd.type td hu (hx.rel off x us[off] g1 (by simp [l1])) (hy.rel off y vs[off] g2 (by simp [l2])) hb1
       have ih := run_eqFields d fs (off + 1) ts' xs ys us vs b2 hts hx hy (by rw [g1', g2']; exact hb2)
       simp only [Op.eqFields, if_pos hne, Sem.run_bind, ho, run_part fd.type hag us off us[off] (by simp [l1]), run_part fd.type hag vs off vs[off] (by simp [l2]), Result.andThen_ok, r1, Sem.run_ite]
       cases b1 with
       | true => simpa using ih
       | false => simp
      ·cases hb
   split at ht
   ·rename_i ts' hu hts; cases ht; exact key _ _ hu (by simp [isAggT, hu]) hts rfl
   ·rename_i k ts' hu hts; cases ht; exact key _ _ hu (by simp [isAggT, hu]) hts rfl
   ·rename_i ts' hu hts; cases ht; exact key _ _ hu (by simp [isAggT, hu]) hts rfl
   ·cases ht
  ·cases ht

theorem maxD : ∃ d, Op.maxDepth = d + 1 + 1 := ⟨9998, rfl⟩

def NoNum (v : Value) : Prop := (∀ k n, v ≠ .int k n) ∧ (∀ s, v ≠ .string s) ∧ (∀ k n, v ≠ .float k n) ∧ (∀ k n m, v ≠ .complex k n m)
set_option maxHeartbeats 4000000 in
theorem run_eqP {t : TypeId} {e : EqK} (he : EqSpec P t e) {x y : PV} {u v : Value} (hx : VR K x u) (hy : VR K y v) {b : Bool} (hb : eqP e x y = some b) :
  (Op.equal t u v).run P w = .ok b w ∧ NoNum u ∧ NoNum v := by
 obtain ⟨d, hd⟩ := maxD
 unfold Op.equal
 rw [hd]
 unfold eqP at hb
 split at hb
 ·cases hb; rw [hx.bool_inv, hy.bool_inv]; exact ⟨run_equalIn_bool w _ t _ _ he, by simp [NoNum]⟩
 ·cases hb; obtain ⟨e, hu⟩ := he; rw [hx.nilptr_inv, hy.nilptr_inv]; exact ⟨by simp [Op.equalIn, run_und hu], by simp [NoNum]⟩
 ·cases hb; obtain ⟨e, hu⟩ := he; obtain ⟨b, rfl, _⟩ := hy.ptr_inv; rw [hx.nilptr_inv]; exact ⟨by simp [Op.equalIn, run_und hu], by simp [NoNum]⟩
 ·cases hb; obtain ⟨e, hu⟩ := he; obtain ⟨b, rfl, _⟩ := hx.ptr_inv; rw [hy.nilptr_inv]; exact ⟨by simp [Op.equalIn, run_und hu], by simp [NoNum]⟩
 ·cases hb; obtain ⟨e, hu⟩ := he; rw [hx.nilptr_inv]
  cases hy with | ir hy => obtain ⟨b, o, rfl, _⟩ := ptr_cases hy; exact ⟨by simp [Op.equalIn, run_und hu], by simp [NoNum]⟩
 ·cases hb; obtain ⟨e, hu⟩ := he; rw [hy.nilptr_inv]
  cases hx with | ir hx => obtain ⟨b, o, rfl, _⟩ := ptr_cases hx; exact ⟨by simp [Op.equalIn, run_und hu], by simp [NoNum]⟩
 ·cases hb; obtain ⟨e, hu⟩ := he
  have e1 : u = .slice none 0 0 := by cases hx with | ir hx => cases hx; rfl
  have e2 : v = .slice none 0 0 := by cases hy with | ir hy => cases hy; rfl
  rw [e1, e2]; exact ⟨by simp [Op.equalIn, run_und hu], by simp [NoNum]⟩
 ·cases hb; obtain ⟨e, hu⟩ := he
  have e1 : u = .slice none 0 0 := by cases hx with | ir hx => cases hx; rfl
  cases hy with
  | ir hy => cases hy
  | own => rw [e1]; exact ⟨by simp [Op.equalIn, run_und hu], by simp [NoNum]⟩
 ·cases hb; obtain ⟨e, hu⟩ := he
  have e2 : v = .slice none 0 0 := by cases hy with | ir hy => cases hy; rfl
  cases hx with
  | ir hx => cases hx
  | own => rw [e2]; exact ⟨by simp [Op.equalIn, run_und hu], by simp [NoNum]⟩
 ·cases hb; obtain ⟨m, hu⟩ := he
  have e1 : u = .nilIface := by cases hx with | ir hx => cases hx; rfl
  have e2 : v = .nilIface := by cases hy with | ir hy => cases hy; rfl
  rw [e1, e2]; exact ⟨by simp [Op.equalIn, run_und hu], by simp [NoNum]⟩
 ·cases hb; obtain ⟨m, hu⟩ := he
  have e1 : u = .nilIface := by cases hx with | ir hx => cases hx; rfl
  cases hy with | ir hy => cases hy; rw [e1]; exact ⟨by simp [Op.equalIn, run_und hu], by simp [NoNum]⟩
 ·cases hb; obtain ⟨m, hu⟩ := he
  have e2 : v = .nilIface := by cases hy with | ir hy => cases hy; rfl
  cases hx with | ir hx => cases hx; rw [e2]; exact ⟨by simp [Op.equalIn, run_und hu], by simp [NoNum]⟩
 ·cases hb; obtain ⟨m, hu⟩ := he
  have e1 : u = .nilIface := by cases hx with | ir hx => cases hx; rfl
  cases hy with | ir hy => cases hy; rw [e1]; exact ⟨by simp [Op.equalIn, run_und hu], by simp [NoNum]⟩
 ·cases hb; obtain ⟨m, hu⟩ := he
  have e2 : v = .nilIface := by cases hy with | ir hy => cases hy; rfl
  cases hx with | ir hx => cases hx; rw [e2]; exact ⟨by simp [Op.equalIn, run_und hu], by simp [NoNum]⟩
 ·rename_i ts t1 k1 n1 t2 k2 n2
  obtain ⟨⟨m, hu⟩, hts⟩ := he
  cases hx with
  | ir hx =>
   cases hx
   cases hy with
   | ir hy =>
    cases hy
    refine ⟨?_, by simp [NoNum]⟩
    split at hb
    ·rename_i et
     subst et
     split at hb
     ·rename_i hc
      obtain ⟨ek, hm⟩ := hc
      subst ek
      cases hb
      have hci := List.all_eq_true.1 hts t1 hm
      unfold compInt at hci
      split at hci
      ·rename_i k0 i0 h1 h2
       have hinf : ∀ w : World, (typeInfo t1).run P w = .ok i0 w := fun w => by simp [typeInfo, h2]
       rw [Op.equalIn]
       simp only [Sem.run_bind, run_und hu, Result.andThen_ok, ne_eq, not_true, if_false, hinf, hci, Bool.not_true, Bool.false_eq_true]
       exact run_equalIn_int w d t1 _ _ _ _ h1
      ·cases hci
     ·cases hb
    ·rename_i et
     cases hb
     rw [Op.equalIn]
     simp [run_und hu, et]
 ·cases hb; obtain ⟨m1, m2, m3, hu⟩ := he
  have e1 : u = .nilFunc := by cases hx with | ir hx => cases hx; rfl
  have e2 : v = .nilFunc := by cases hy with | ir hy => cases hy; rfl
  rw [e1, e2]; exact ⟨by simp [Op.equalIn, run_und hu], by simp [NoNum]⟩
 ·cases hb; obtain ⟨m1, m2, m3, hu⟩ := he
  have e2 : v = .nilFunc := by cases hy with | ir hy => cases hy; rfl
  rw [e2]
  cases hx with
  | ir hx => cases hx; exact ⟨by simp [Op.equalIn, run_und hu], by simp [NoNum]⟩
  | func => exact ⟨by simp [Op.equalIn, run_und hu], by simp [NoNum]⟩
 ·cases hb; obtain ⟨m1, m2, m3, hu⟩ := he
  have e1 : u = .nilFunc := by cases hx with | ir hx => cases hx; rfl
  rw [e1]
  cases hy with
  | ir hy => cases hy; exact ⟨by simp [Op.equalIn, run_und hu], by simp [NoNum]⟩
  | func => exact ⟨by simp [Op.equalIn, run_und hu], by simp [NoNum]⟩
 ·rename_i ts xs ys
  obtain ⟨fs, hu, hp, hg, hts⟩ := he
  obtain ⟨us, rfl, hxs⟩ := hx.agg_inv
  obtain ⟨vs, rfl, hys⟩ := hy.agg_inv
  refine ⟨?_, by simp [NoNum]⟩
  have hfo : P.fieldsOf t = fs := by simp [Program.fieldsOf, hu]
  rw [run_equalIn_struct w (d + 1) t us vs (by rw [hfo]; exact hu) hp, hfo]
  exact run_eqFields d fs.toList 0 ts xs ys us vs b hts hxs hys (by simpa using hb)
 ·cases hb

theorem eqGuard_ok {op : BinOp} {t : TypeId} {x y : Operand} {u v : Value} (h1 : u = .nilIface → v = .nilIface → (∃ c, x = .const c) ∨ (∃ c, y = .const c))
  (h2 : ∀ us vs, u = .agg us → v = .agg vs → P.eqGuardType P.depth t = false) : (eqGuard op t x y u v).run P w = .ok () w := by
 unfold eqGuard
 cases op <;> first
  | (simp; done)
  | (
    simp only [Bool.not_true, Bool.false_eq_true, if_false]
    split
    ·rcases h1 rfl rfl with ⟨c, rfl⟩ | ⟨c, rfl⟩
     ·simp
     ·cases x <;> simp
    ·simp [h2 _ _ rfl rfl]
    ·simp)

end
end Go.Proofs.YtmngkcpobmhnoaaGreatDoor.Sim
/- Plain operations, continued; appends. -/
namespace Go.Proofs.YtmngkcpobmhnoaaGreatDoor.Sim

section
variable {P : Program} {C : CEnv} {K : KW} {h : Heap} {w : World} {nt : Nat} {f : Fr} {a : Act}

theorem run_shift (op : BinOp) (k k' : IntKind) (x y : Int) (t : TypeId) {p : PV} (hop : op = .shl ∨ op = .shr)
  (hp : (match op with
   | .shl => if y < 0 then none else some (PV.int k (k.wrap (x * 2 ^ (min y.toNat k.bits))))
   | .shr => if y < 0 then none else some (PV.int k (x.fdiv (2 ^ (min y.toNat k.bits))))
   | _ => none) = some p) : ∃ v, (binOp op t (.int k x) (.int k' y)).run P w = .ok v w ∧ VR K p v := by
 rcases hop with rfl | rfl
 ·simp only at hp
  split at hp
  ·cases hp
  ·rename_i hy; cases hp; exact ⟨_, by simp [binOp, Op.shift, hy], .ir (.int _ _)⟩
 ·simp only at hp
  split at hp
  ·cases hp
  ·rename_i hy; cases hp; exact ⟨_, by simp [binOp, Op.shift, hy], .ir (.int _ _)⟩

theorem run_binOp_eq (t : TypeId) {u v : Value} (h1 : NoNum u) (h2 : NoNum v) :
  binOp .eql t u v = (do pure (.bool (← Op.equal t u v))) ∧ binOp .neq t u v = (do pure (.bool (!(← Op.equal t u v)))) := by
 obtain ⟨a1, a2, a3, a4⟩ := h1
 obtain ⟨b1, b2, b3, b4⟩ := h2
 constructor
 all_goals
  unfold binOp
  cases u <;> first
   | (exact absurd rfl (a1 _ _))
   | (exact absurd rfl (a2 _))
   | (exact absurd rfl (a3 _ _))
   | (exact absurd rfl (a4 _ _ _))
   | rfl

theorem sim_bin (op : BinOp) (t : TypeId) {e : EqK} (he : EqSpec P t e) {x y : PV} {u v : Value} (hx : VR K x u) (hy : VR K y v) {p : PV} (hp : binP op e x y = some p) :
  ∃ r, (binOp op t u v).run P w = .ok r w ∧ VR K p r := by
 unfold binP at hp
 split at hp
 ·rename_i k n k' m
  rw [hx.int_inv, hy.int_inv]
  split at hp
  ·exact run_shift .shl k k' n m t (.inl rfl) hp
  ·exact run_shift .shr k k' n m t (.inr rfl) hp
  ·rename_i h1 h2
   split at hp
   ·rename_i e; subst e; exact run_int op k n m hp (fun e => h1 e) (fun e => h2 e) t
   ·cases hp
 ·rw [hx.str_inv, hy.str_inv]; exact run_str op _ _ hp t
 ·split at hp
  ·simp only [Option.map_eq_some_iff] at hp
   obtain ⟨b, hb, rfl⟩ := hp
   obtain ⟨r1, r2, r3⟩ := run_eqP (w := w) he hx hy hb
   rw [(run_binOp_eq t r2 r3).1]
   exact ⟨.bool b, by simp [r1], .ir (.bool _)⟩
  ·simp only [Option.map_eq_some_iff] at hp
   obtain ⟨b, hb, rfl⟩ := hp
   obtain ⟨r1, r2, r3⟩ := run_eqP (w := w) he hx hy hb
   rw [(run_binOp_eq t r2 r3).2]
   exact ⟨.bool !b, by simp [r1], .ir (.bool _)⟩
  ·cases hp

theorem sim_un (op : UnOp) {x : PV} {u : Value} (hx : VR K x u) {p : PV} (hp : unP op x = some p) : ∃ r, (Op.unary op u).run P w = .ok r w ∧ VR K p r := by
 unfold unP at hp
 split at hp
 ·cases hp; rw [hx.int_inv]; exact ⟨_, rfl, .ir (.int _ _)⟩
 ·rw [hx.int_inv]; exact run_bits _ _ _ _ hp
 ·cases hp; rw [hx.bool_inv]; exact ⟨_, rfl, .ir (.bool _)⟩
 ·cases hp


theorem run_bound (hf : ∀ x y, cOpd C x = some y → VR K (y.ev f) (a.eval x)) {x : Operand} {y : Opd} (hx : cOpd C x = some y) {d m l : Nat} (hb : boundP f d m (some y) = some l) (code : BoundsCode) (w : World) :
  (Instr.sliceBound (a.eval x) m code).run P w = .ok l w ∧ l ≤ m := by
 simp only [boundP] at hb
 split at hb
 ·rename_i k i hi
  split at hb
  ·rename_i hc
   cases hb
   have := hf x y hx
   rw [hi] at this
   rw [this.int_inv]
   refine ⟨by simp [Instr.sliceBound, asIntOf, hc], by omega⟩
  ·cases hb
 ·cases hb

theorem boundP_le {d m l : Nat} {o : Option Opd} (hb : boundP f d m o = some l) (hd : d ≤ m) : l ≤ m := by
 cases o with
 | none => cases hb; exact hd
 | some x =>
  simp only [boundP] at hb
  split at hb
  ·split at hb
   ·cases hb; omega
   ·cases hb
  ·cases hb

theorem cOpt_cases {o : Option Operand} {r : Option Opd} (h : cOptOpd C o = some r) : (o = none ∧ r = none) ∨ ∃ x y, o = some x ∧ r = some y ∧ cOpd C x = some y := by
 cases o with
 | none => cases h; exact .inl ⟨rfl, rfl⟩
 | some x =>
  simp only [cOptOpd, Option.map_eq_some_iff] at h
  obtain ⟨y, hy, rfl⟩ := h
  exact .inr ⟨x, y, rfl, rfl, hy⟩

theorem run_bounds2 (hf : ∀ x y, cOpd C x = some y → VR K (y.ev f) (a.eval x)) {lo hi : Option Operand} {rlo rhi : Option Opd} (h1 : cOptOpd C lo = some rlo) (h2 : cOptOpd C hi = some rhi)
  {n cap l b : Nat} (isS : Bool) (hcap : n ≤ cap) (hb : boundP f n n rhi = some b) (hl : boundP f 0 b rlo = some l) (w : World) :
  (Instr.sliceBounds isS n cap (lo.map a.eval) (hi.map a.eval) none).run P w = .ok (l, b, cap) w := by
 have hw : ∀ {x : Operand} {y : Opd} {d m m' l : Nat} (code : BoundsCode), cOpd C x = some y → boundP f d m (some y) = some l → m ≤ m' → (Instr.sliceBound (a.eval x) m' code).run P w = .ok l w := by
  intro x y d m m' l code hx hb hm
  refine (run_bound (d := d) hf hx (m := m') ?_ code w).1
  simp only [boundP] at hb ⊢
  split at hb
  ·split at hb
   ·rename_i hc; cases hb; rw [if_pos ⟨hc.1, by omega⟩]
   ·cases hb
  ·cases hb
 rcases cOpt_cases h1 with ⟨rfl, rfl⟩ | ⟨x, y, rfl, rfl, hx⟩ <;> rcases cOpt_cases h2 with ⟨rfl, rfl⟩ | ⟨x', y', rfl, rfl, hx'⟩
 ·cases hb; cases hl; simp [Instr.sliceBounds]
 ·cases hl
  simp [Instr.sliceBounds, hw _ hx' hb hcap]
 ·cases hb
  simp [Instr.sliceBounds, hw _ hx hl (Nat.le_refl _)]
 ·simp [Instr.sliceBounds, hw _ hx' hb hcap, hw _ hx hl (Nat.le_refl _)]

theorem run_bounds3 (hf : ∀ x y, cOpd C x = some y → VR K (y.ev f) (a.eval x)) {lo : Option Operand} {hi mx : Operand} {rlo : Option Opd} {rhi rmx : Opd} (h1 : cOptOpd C lo = some rlo) (h2 : cOpd C hi = some rhi)
  (h3 : cOpd C mx = some rmx) {n cap l b c : Nat} (isS : Bool) (hcap : n ≤ cap) (hc : boundP f n n (some rmx) = some c) (hb : boundP f 0 c (some rhi) = some b) (hl : boundP f 0 b rlo = some l) (w : World) :
  (Instr.sliceBounds isS n cap (lo.map a.eval) (some (a.eval hi)) (some (a.eval mx))).run P w = .ok (l, b, c) w := by
 have hw : ∀ {x : Operand} {y : Opd} {d m m' l : Nat} (code : BoundsCode), cOpd C x = some y → boundP f d m (some y) = some l → m ≤ m' → (Instr.sliceBound (a.eval x) m' code).run P w = .ok l w := by
  intro x y d m m' l code hx hb hm
  refine (run_bound (d := d) hf hx (m := m') ?_ code w).1
  simp only [boundP] at hb ⊢
  split at hb
  ·split at hb
   ·rename_i hc; cases hb; rw [if_pos ⟨hc.1, by omega⟩]
   ·cases hb
  ·cases hb
 rcases cOpt_cases h1 with ⟨rfl, rfl⟩ | ⟨x, y, rfl, rfl, hx⟩
 ·cases hl
  simp [Instr.sliceBounds, hw _ h3 hc hcap, hw _ h2 hb (Nat.le_refl _)]
 ·simp [Instr.sliceBounds, hw _ h3 hc hcap, hw _ h2 hb (Nat.le_refl _), hw _ hx hl (Nat.le_refl _)]

theorem Elems.sub {im : Im} {b off es : Nat} {L : List (List PV)} (he : Elems im b off es L) (l m : Nat) : Elems im b (off + l * es) es ((L.take m).drop l) := by
 have get : ∀ (i : Nat) (e : List PV), ((L.take m).drop l)[i]? = some e → L[l + i]? = some e := fun i e hi => by
  rw [List.getElem?_drop, List.getElem?_take] at hi
  split at hi
  ·exact hi
  ·cases hi
 have off' : ∀ i j, off + l * es + i * es + j = off + (l + i) * es + j := fun i j => by rw [Nat.add_mul]; omega
 exact ⟨fun i e hi => he.hl _ e (get i e hi), fun i e j p hi hj => by rw [off']; exact he.h1 _ e j p (get i e hi) hj, fun i e j p c hi hj hc => by rw [off'] at hc; exact he.h2 _ e j p c (get i e hi) hj hc⟩

theorem Elems.shared {b off es cap : Nat} {L : List (List PV)} (he : Elems K.im b off es L) (hc : L.length ≤ cap) : VR K (.slice .shared es L) (.slice (some ⟨b, off, none⟩) L.length cap) :=
 .ir (.shared es L b off cap hc he.hl he.h1 he.h2)

theorem vr_nilslice (o : Own) (es : Nat) (L : List (List PV)) (hL : L = []) (ho : o = .nil ∨ o = .shared ∨ o = .full) : VR K (.slice o es L) (.slice none 0 0) := by
 subst hL
 rcases ho with rfl | rfl | rfl
 ·exact .ir (.snil es)
 ·exact .ir (.snil' es)
 ·exact .ir (.snil'' es)

theorem sim_slice2 {t e : TypeId} {es : Nat} (hu : P.underlying t = some (.slice e)) {z : Nat} (hz : sizeT P e = some z) {o : Own} {L : List (List PV)} {v : Value} (hv : VR K (.slice o es L) v) (hes : L = [] ∨ es = z)
  (hf : ∀ x y, cOpd C x = some y → VR K (y.ev f) (a.eval x)) {lo hi : Option Operand} {rlo rhi : Option Opd} (h1 : cOptOpd C lo = some rlo) (h2 : cOptOpd C hi = some rhi)
  {l b : Nat} (hb : boundP f L.length L.length rhi = some b) (hl : boundP f 0 b rlo = some l) (w : World) :
  ∃ u, (Instr.sliceAt t v (lo.map a.eval) (hi.map a.eval) none).run P w = .ok u w ∧
   VR K (.slice (subOwn o (l = 0 ∧ b = L.length)) es ((L.take b).drop l)) u := by
 have hbl := boundP_le hb (Nat.le_refl _)
 have hlb := boundP_le hl (Nat.zero_le _)
 have hlen : ((L.take b).drop l).length = b - l := by simp; omega
 rcases hv.slice_inv with ⟨rfl, rfl, ho⟩ | ⟨bl, off, cap, rfl, he, hcap, hn, hfull, hown⟩
 ·have hr := run_bounds2 (P := P) (a := a) hf h1 h2 true (Nat.le_refl 0) (by simpa using hb) hl w
  have e0 : b = 0 := by simpa using hbl
  have e1 : l = 0 := by omega
  subst e0 e1
  refine ⟨.slice none 0 0, ?_, vr_nilslice _ _ _ (by simp) (by rcases ho with rfl | rfl | rfl <;> simp [subOwn, fullOwn])⟩
  simp [Instr.sliceAt, run_und hu, Instr.slice, hr, run_size hz]
 ·have hr := run_bounds2 (P := P) (a := a) hf h1 h2 true hcap hb hl w
  have hrun : (Instr.sliceAt t (.slice (some ⟨bl, off, none⟩) L.length cap) (lo.map a.eval) (hi.map a.eval) none).run P w =
    .ok (.slice (if cap = l then some ⟨bl, off, none⟩ else some ⟨bl, off + l * z, none⟩) (b - l) (cap - l)) w := by
   simp [Instr.sliceAt, run_und hu, Instr.slice, hr, run_size hz, Addr.add_zero']
  refine ⟨_, hrun, ?_⟩
  have key : VR K (.slice .shared es ((L.take b).drop l)) (.slice (if cap = l then some ⟨bl, off, none⟩ else some ⟨bl, off + l * z, none⟩) (b - l) (cap - l)) := by
   split
   ·rename_i ec
    have hL : (L.take b).drop l = [] := by apply List.eq_nil_of_length_eq_zero; omega
    have e0 : b - l = 0 := by omega
    rw [hL, e0]
    exact Elems.shared (L := []) ⟨by simp, by simp, by simp⟩ (by simp)
   ·rcases hes with hes | rfl
    ·subst hes
     have e0 : b - l = 0 := by simp at hlen; omega
     rw [show (List.take b ([] : List (List PV))).drop l = [] by simp, e0]
     exact Elems.shared (L := []) ⟨by simp, by simp, by simp⟩ (by simp)
    ·have := (he.sub l b).shared (cap := cap - l) (by omega)
     rw [hlen] at this
     exact this
  cases o with
  | nil => exact absurd rfl hn
  | shared => simpa [subOwn] using key
  | full =>
   simp only [subOwn]
   split
   ·rename_i hc
    obtain ⟨rfl, rfl⟩ := hc
    have hcl := hfull rfl
    subst hcl
    simp only [List.drop_zero, List.take_length, Nat.sub_zero, Nat.zero_mul, Nat.add_zero]
    rw [ite_self]
    exact .ir (.full es L bl off he.hl he.h1 he.h2)
   ·exact key
  | own id u8 =>
   simp only [subOwn]
   split
   ·rename_i hc
    obtain ⟨rfl, rfl⟩ := hc
    simp only [List.drop_zero, List.take_length, Nat.sub_zero, Nat.zero_mul, Nat.add_zero]
    rw [ite_self]
    obtain ⟨g1, g2⟩ := hown id u8 rfl
    exact .own id u8 es L bl off cap g1 he hcap g2
   ·exact key

theorem sim_slice3 {t e : TypeId} {es : Nat} (hu : P.underlying t = some (.slice e)) {z : Nat} (hz : sizeT P e = some z) {o : Own} {L : List (List PV)} {v : Value} (hv : VR K (.slice o es L) v) (hes : L = [] ∨ es = z)
  (hf : ∀ x y, cOpd C x = some y → VR K (y.ev f) (a.eval x)) {lo : Option Operand} {hi mx : Operand} {rlo : Option Opd} {rhi rmx : Opd} (h1 : cOptOpd C lo = some rlo) (h2 : cOpd C hi = some rhi) (h3 : cOpd C mx = some rmx)
  {l b c : Nat} (hc : boundP f L.length L.length (some rmx) = some c) (hb : boundP f 0 c (some rhi) = some b) (hl : boundP f 0 b rlo = some l) (w : World) :
  ∃ u, (Instr.sliceAt t v (lo.map a.eval) (some (a.eval hi)) (some (a.eval mx))).run P w = .ok u w ∧
   VR K (.slice (fullOwn o (b = c)) es ((L.take b).drop l)) u := by
 have hcl := boundP_le hc (Nat.le_refl _)
 have hbc := boundP_le hb (Nat.zero_le _)
 have hlb := boundP_le hl (Nat.zero_le _)
 have hlen : ((L.take b).drop l).length = b - l := by simp; omega
 rcases hv.slice_inv with ⟨rfl, rfl, ho⟩ | ⟨bl, off, cap, rfl, he, hcap, hn, hfull, hown⟩
 ·have hr := run_bounds3 (P := P) (a := a) hf h1 h2 h3 true (Nat.le_refl 0) (by simpa using hc) hb hl w
  have e0 : c = 0 := by simpa using hcl
  subst e0
  have e0 : b = 0 := by omega
  have e1 : l = 0 := by omega
  subst e0 e1
  refine ⟨.slice none 0 0, ?_, vr_nilslice _ _ _ (by simp) (by rcases ho with rfl | rfl | rfl <;> simp [subOwn, fullOwn])⟩
  simp [Instr.sliceAt, run_und hu, Instr.slice, hr, run_size hz]
 ·have hr := run_bounds3 (P := P) (a := a) hf h1 h2 h3 true hcap hc hb hl w
  have hrun : (Instr.sliceAt t (.slice (some ⟨bl, off, none⟩) L.length cap) (lo.map a.eval) (some (a.eval hi)) (some (a.eval mx))).run P w =
    .ok (.slice (if c = l then some ⟨bl, off, none⟩ else some ⟨bl, off + l * z, none⟩) (b - l) (c - l)) w := by
   simp [Instr.sliceAt, run_und hu, Instr.slice, hr, run_size hz, Addr.add_zero']
  refine ⟨_, hrun, ?_⟩
  have hel : ∃ off', (if c = l then some (⟨bl, off, none⟩ : Addr) else some ⟨bl, off + l * z, none⟩) = some ⟨bl, off', none⟩ ∧ Elems K.im bl off' es ((L.take b).drop l) := by
   split
   ·have hL : (L.take b).drop l = [] := by apply List.eq_nil_of_length_eq_zero; omega
    rw [hL]
    exact ⟨off, rfl, ⟨by simp, by simp, by simp⟩⟩
   ·rcases hes with hes | rfl
    ·subst hes
     exact ⟨_, rfl, ⟨by simp, by simp, by simp⟩⟩
    ·exact ⟨_, rfl, he.sub l b⟩
  obtain ⟨off', e1, e2⟩ := hel
  rw [e1]
  have k1 : VR K (.slice .shared es ((L.take b).drop l)) (.slice (some ⟨bl, off', none⟩) (b - l) (c - l)) := by
   have := e2.shared (cap := c - l) (by omega); rwa [hlen] at this
  have k2 : b = c → VR K (.slice .full es ((L.take b).drop l)) (.slice (some ⟨bl, off', none⟩) (b - l) (c - l)) := fun e => by
   subst e
   have : VR K (.slice .full es ((L.take b).drop l)) (.slice (some ⟨bl, off', none⟩) ((L.take b).drop l).length ((L.take b).drop l).length) := .ir (.full es _ bl off' e2.hl e2.h1 e2.h2)
   rwa [hlen] at this
  cases o with
  | nil => exact absurd rfl hn
  | _ =>
   simp only [fullOwn]
   split
   ·rename_i e; exact k2 e
   ·exact k1
end
end Go.Proofs.YtmngkcpobmhnoaaGreatDoor.Sim
/- Addresses, parts, conversions, new slices, appends. -/
namespace Go.Proofs.YtmngkcpobmhnoaaGreatDoor.Sim

section
variable {P : Program} {C : CEnv} {K : KW} {h : Heap} {w : World} {nt : Nat} {f : Fr} {a : Act}

theorem sim_faddr {t : TypeId} {fields : Array Field} {i : Nat} {fd : Field} {n : Nat} (hu : P.underlying t = some (.struct fields)) (hfd : fields[i]? = some fd) (hs : sizeT P fd.type = some n) (hn : n ≠ 0)
  {x p : PV} {v : Value} {h' : Heap} (hv : VR K x v) (he : faddrP fd.offset x h = some (p, h')) : ∃ u, (Instr.fieldAt t v i).run P w = .ok u w ∧ VR K p u ∧ h' = h := by
 have run : ∀ b o, (Instr.fieldAt t (.pointer (some ⟨b, o, none⟩)) i).run P w = .ok (.pointer (some ⟨b, o + fd.offset, none⟩)) w := fun b o => by
  simp [Instr.fieldAt, run_und hu, hfd, Instr.sureAddr, fieldPlace, run_size hs, hn, Addr.add_zero']
 cases x with
 | ptr id off =>
  cases he
  obtain ⟨b, rfl, hb, hn⟩ := hv.ptr_inv
  exact ⟨_, run b off, .ptr _ _ _ hn hb, rfl⟩
 | cptr cs off =>
  cases he
  cases hv with
  | ir hv =>
   obtain ⟨b, o, rfl, h1, h2⟩ := ptr_cases hv
   refine ⟨_, run b (o + off), ?_, rfl⟩
   rw [Nat.add_assoc]
   exact .ir (.cptr cs b o (off + fd.offset) h1 h2)
 | _ => cases he

theorem run_part' {t : TypeId} {r : Option Nat} (ht : repT P t = some r) {cs : List PV} {vs : Array Value} (hc : CellsOK K cs vs) {off : Nat} {p : PV} (hp : readAt cs off r = some p) :
  ∃ u, (part t vs off).run P w = .ok u w ∧ VR K p u := by
 obtain ⟨n, hs, ⟨rfl, ha⟩ | ⟨rfl, ha⟩⟩ := rep_cases ht
 ·simp only [readAt] at hp
  split at hp
  ·rename_i hle
   cases hp
   refine ⟨.agg (vs.extract off (off + n)), by simp [part, run_aggT ha, run_size hs], ?_⟩
   have hsz := hc.size
   refine .agg _ _ (by simp; omega) (fun p hp => hc.one p (List.mem_of_mem_drop (List.mem_of_mem_take hp))) (fun i p v hp hv => ?_)
   have hi : i < n := by
    have := (List.getElem?_eq_some_iff.1 hp).1
    simp at this; omega
   simp only [List.getElem?_take, hi, if_true, List.getElem?_drop] at hp
   rw [Array.getElem?_extract] at hv
   split at hv
   ·exact hc.rel _ _ _ hp hv
   ·cases hv
  ·cases hp
 ·simp only [readAt] at hp
  have hlt : off < vs.size := by rw [← hc.size]; exact (List.getElem?_eq_some_iff.1 hp).1
  exact ⟨vs[off], by simp [part, run_aggT ha, hlt], hc.rel off p _ hp (by simp [hlt])⟩

theorem sim_field {t : TypeId} {fields : Array Field} {i : Nat} {fd : Field} {r : Option Nat} (hu : P.underlying t = some (.struct fields)) (hfd : fields[i]? = some fd) (ht : repT P fd.type = some r)
  {cs : List PV} {p : PV} {v : Value} (hv : VR K (.agg cs) v) (hp : readAt cs fd.offset r = some p) : ∃ u, (Instr.field t v i).run P w = .ok u w ∧ VR K p u := by
 obtain ⟨vs, rfl, hc⟩ := hv.agg_inv
 obtain ⟨u, h1, h2⟩ := run_part' (w := w) ht hc hp
 exact ⟨u, by simp [Instr.field, run_und hu, hfd, asAgg, h1], h2⟩

theorem sim_iaddr {t e : TypeId} {es : Nat} (hu : P.underlying t = some (.slice e)) (hs : sizeT P e = some es) {o : Own} {L : List (List PV)} {v : Value} (hv : VR K (.slice o es L) v) {k : IntKind} {n : Int} (h0 : 0 ≤ n)
  {c : List PV} (hc : L[n.toNat]? = some c) : ∃ u, (Instr.indexAt t v (.int k n)).run P w = .ok u w ∧ VR K (.cptr c 0) u := by
 have hlt : n.toNat < L.length := (List.getElem?_eq_some_iff.1 hc).1
 rcases hv.slice_inv with ⟨_, rfl, _⟩ | ⟨b, off, cap, rfl, he, hcap, _⟩
 ·simp at hlt
 ·refine ⟨.pointer (some ⟨b, off + n.toNat * es, none⟩), ?_, ?_⟩
  ·simp [Instr.indexAt, asIntOf, run_und hu, run_size hs, Addr.add_zero', h0, show n < (L.length : Int) by omega]
  ·exact .ir (.cptr c b (off + n.toNat * es) 0 (fun j p hj => he.h1 _ c j p hc hj) (fun j p c' hj hc' => he.h2 _ c j p c' hc hj hc'))

theorem sim_iaddrA {t e : TypeId} {len es : Nat} (hu : P.underlying t = some (.array len e)) (hs : sizeT P e = some es) {x p : PV} {v : Value} {h' : Heap} (hv : VR K x v) {k : IntKind} {n : Int}
  (he : iaddrAP len es x n h = some (p, h')) : ∃ u, (Instr.indexAt t v (.int k n)).run P w = .ok u w ∧ VR K p u ∧ h' = h := by
 have run : ∀ b o, 0 ≤ n → n < (len : Int) → (Instr.indexAt t (.pointer (some ⟨b, o, none⟩)) (.int k n)).run P w = .ok (.pointer (some ⟨b, o + n.toNat * es, none⟩)) w := fun b o h1 h2 => by
  simp [Instr.indexAt, asIntOf, run_und hu, run_size hs, Addr.add_zero', h1, h2, Instr.sureAddr]
 unfold iaddrAP at he
 split at he
 ·rename_i hc
  cases x with
  | ptr id off =>
   cases he
   obtain ⟨b, rfl, hb, hn⟩ := hv.ptr_inv
   exact ⟨_, run b off hc.1 hc.2, .ptr _ _ _ hn hb, rfl⟩
  | cptr cs off =>
   cases he
   cases hv with
   | ir hv =>
    obtain ⟨b, o, rfl, h1, h2⟩ := ptr_cases hv
    refine ⟨_, run b (o + off) hc.1 hc.2, ?_, rfl⟩
    rw [Nat.add_assoc]
    exact .ir (.cptr cs b o _ h1 h2)
  | _ => cases he
 ·cases he

theorem sim_indexS {t : TypeId} (hu : P.underlying t = some .string) {s : List UInt8} {v : Value} (hv : VR K (.str s) v) {k : IntKind} {n : Int} (h0 : 0 ≤ n) {c : UInt8} (hc : s[n.toNat]? = some c) :
  (Instr.index t v (.int k n)).run P w = .ok (.int .u8 c.toNat) w := by
 rw [hv.str_inv]
 obtain ⟨hlt, rfl⟩ := List.getElem?_eq_some_iff.1 hc
 have e : (ByteArray.mk s.toArray)[n.toNat]? = some s[n.toNat] := by
  have hsz : n.toNat < (ByteArray.mk s.toArray).size := by simp [ByteArray.size]; exact hlt
  rw [getElem?_pos (ByteArray.mk s.toArray) n.toNat hsz]
  rfl
 simp [Instr.index, asIntOf, run_und hu, h0, e]

theorem sim_indexA {t e : TypeId} {len es : Nat} {r : Option Nat} (hu : P.underlying t = some (.array len e)) (hs : sizeT P e = some es) (ht : repT P e = some r) {cs : List PV} {v : Value} (hv : VR K (.agg cs) v)
  {k : IntKind} {n : Int} (h0 : 0 ≤ n) (h1 : n < len) {p : PV} (hp : readAt cs (n.toNat * es) r = some p) : ∃ u, (Instr.index t v (.int k n)).run P w = .ok u w ∧ VR K p u := by
 obtain ⟨vs, rfl, hc⟩ := hv.agg_inv
 obtain ⟨u, h2, h3⟩ := run_part' (w := w) ht hc hp
 exact ⟨u, by simp [Instr.index, asIntOf, run_und hu, h0, h1, run_size hs, h2], h3⟩

theorem sim_extract {vs : List PV} {v : Value} (hv : VR K (.tuple vs) v) {i : Nat} {p : PV} (hp : vs[i]? = some p) : ∃ u, (Instr.extract v i).run P w = .ok u w ∧ VR K p u := by
 obtain ⟨us, rfl, hs, hr⟩ := hv.tuple_inv
 have hlt : i < us.size := by rw [← hs]; exact (List.getElem?_eq_some_iff.1 hp).1
 exact ⟨us[i], by simp [Instr.extract, hlt], hr i p _ hp (by simp [hlt])⟩

theorem VR.len_slice {o : Own} {es : Nat} {L : List (List PV)} {v : Value} (hv : VR K (.slice o es L) v) : ∃ b cap, v = .slice b L.length cap := by
 rcases hv.slice_inv with ⟨rfl, rfl, _⟩ | ⟨b, off, cap, rfl, _⟩
 ·exact ⟨none, 0, rfl⟩
 ·exact ⟨_, cap, rfl⟩

theorem sim_len {t : TypeId} (hu : P.underlying t = some .string ∨ ∃ e, P.underlying t = some (.slice e)) {x : PV} {v : Value} (hv : VR K x v) (ty : TypeId) {n : Nat}
  (hn : (∃ s, x = .str s ∧ n = s.length ∧ P.underlying t = some .string) ∨ (∃ o es L, x = .slice o es L ∧ n = L.length ∧ ∃ e, P.underlying t = some (.slice e))) :
  (Builtin.len_ #[t] ty #[v]).run P w = .ok (.int .i64 n) w := by
 rcases hn with ⟨s, rfl, rfl, hu⟩ | ⟨o, es, L, rfl, rfl, e, hu⟩
 ·rw [hv.str_inv]
  have hs : (ByteArray.mk s.toArray).size = s.length := by simp [ByteArray.size]
  simp [Builtin.len_, run_und hu, goInt, hs]
 ·obtain ⟨b, cap, rfl⟩ := hv.len_slice
  simp [Builtin.len_, run_und hu, goInt]

def drewW (w : World) : World := { w with drawn := w.drawn + 1 }

def cellInt : List PV → Int
 | [.int .u8 n] => n
 | _ => 0

theorem cellByte_inv {e : List PV} {c : UInt8} (h : cellByte e = some c) : ∃ n : Int, e = [.int .u8 n] ∧ c = UInt8.ofNat n.toNat := by
 unfold cellByte at h
 split at h
 ·cases h; exact ⟨_, rfl, rfl⟩
 ·cases h

theorem foldl_push (ns : List Int) : ∀ (r : List UInt8), ns.foldl (fun r n => ByteArray.push r (UInt8.ofNat n.toNat)) (ByteArray.mk r.toArray) = ByteArray.mk (r ++ ns.map fun n => UInt8.ofNat n.toNat).toArray := by
 induction ns with
 | nil => intro r; simp
 | cons n ns ih =>
  intro r
  simp only [List.foldl_cons]
  have e : (ByteArray.mk r.toArray).push (UInt8.ofNat n.toNat) = ByteArray.mk (r ++ [UInt8.ofNat n.toNat]).toArray := by
   apply ByteArray.ext; simp [ByteArray.data_push]
  rw [e, ih]
  simp

theorem sim_b2s (s : Sat P C K h w) {o : Own} {es : Nat} {L : List (List PV)} {v : Value} (hv : VR K (.slice o es L) v) (hes : es = 1 ∨ L = []) {r : List UInt8} (hr : mapO cellByte L = some r) :
  (Conv.bytesToString v).run P w = .ok (.string ⟨r.toArray⟩) w := by
 rcases hv.slice_inv with ⟨rfl, rfl, _⟩ | ⟨b, off, cap, rfl, he, hcap, _⟩
 ·cases hr; rfl
 ·have hlen := mapO_length hr
  have hcell : ∀ i, i < L.length → ∃ n : Int, L[i]? = some [PV.int .u8 n] ∧ r[i]? = some (UInt8.ofNat n.toNat) ∧ w.cell? ⟨b, off + i, none⟩ = some (.int .u8 n) := by
   intro i hi
   have hes1 : es = 1 := hes.resolve_right (by intro e; subst e; simp at hi)
   subst hes1
   obtain ⟨c, h1, h2⟩ := mapO_get hr i L[i] (by simp [hi])
   obtain ⟨n, h3, h4⟩ := cellByte_inv h2
   have hLi : L[i]? = some [PV.int .u8 n] := by rw [List.getElem?_eq_getElem hi, h3]
   obtain ⟨u, hu⟩ := Option.isSome_iff_exists.1 (he.h1 i _ 0 _ hLi rfl)
   have hir := he.h2 i _ 0 _ u hLi rfl hu
   cases hir
   refine ⟨n, hLi, by rw [h1, h4], ?_⟩
   rw [cell_eq]
   have := s.im _ _ _ hu
   simpa using this
  let ns : List Int := L.map cellInt
  have hns : ∀ (i : Nat) (n : Int), L[i]? = some [PV.int .u8 n] → ns[i]? = some n := fun i n hi => by simp [ns, hi, cellInt]
  have hload : (loadCells ⟨b, off, none⟩ L.length).run P w = .ok (ns.map (Value.int .u8)).toArray w := by
   have e : L.length = (ns.map (Value.int .u8)).length := by simp [ns]
   rw [e]
   refine run_loadCells_list w _ _ (fun j v hj => ?_)
   have hlt : j < L.length := by have := (List.getElem?_eq_some_iff.1 hj).1; simpa [ns] using this
   obtain ⟨n, g1, g2, g3⟩ := hcell j hlt
   rw [Addr.add_zero', g3]
   rw [List.getElem?_map, hns j n g1] at hj
   exact hj
  rw [run_bytesToString w _ _ _ ns hload]
  congr 2
  have := foldl_push ns []
  simp only [List.nil_append] at this
  rw [show ByteArray.empty = ByteArray.mk ([] : List UInt8).toArray from rfl, this]
  congr 2
  apply List.ext_getElem?
  intro i
  by_cases hi : i < L.length
  ·obtain ⟨n, g1, g2, g3⟩ := hcell i hi
   rw [List.getElem?_map, hns i n g1, g2]; rfl
  ·rw [List.getElem?_eq_none (by simp [ns]; omega), List.getElem?_eq_none (by omega)]

theorem sim_adopt (s : Sat P C K h w) {w' : World} (henv : SameEnv w w') (hsz : w.heap.size < w'.heap.size) (hold : ∀ b, b < w.heap.size → w'.heap[b]? = w.heap[b]?)
  {L : List (List PV)} {es cap lo hi : Nat} {vs : Array Value} {ty : TypeId} (hb : w'.heap[w.heap.size]? = some (.cells vs ty (lo, hi))) (hcap : L.length ≤ cap) (hes : cap * es ≤ vs.size)
  (hfz : ∀ o, L.length * es ≤ o → o < cap * es → ¬ (lo ≤ o ∧ o < hi))
  (hl : ∀ (i : Nat) (e : List PV), L[i]? = some e → e.length = es)
  (hr : ∀ (i : Nat) (e : List PV) (j : Nat) (p : PV), L[i]? = some e → e[j]? = some p → ∃ c, vs[i * es + j]? = some c ∧ IR K.im p c) (u8 : Bool) (hu8 : u8 = true → (P.underlying ty = some (.int .u8) ∧ sizeT P ty = some 1) ∧ hi ≤ L.length * es) :
  ∃ K', VR K' (.slice (.own h.n u8) es L) (.slice (some ⟨w.heap.size, 0, none⟩) L.length cap) ∧ Step K w K' w' ∧ Sat P C K' h.newArr w' := by
 have s' : Sat P C K h w' := s.keep (fun b hb => hold b (s.fp_lt hb)) (fun b o v hv => by
  have h1 := s.im b o v hv
  have h2 := lt_of_cellAt h1
  unfold cellAt at h1 ⊢
  rw [hold b h2]; exact h1)
 have hle' : L.length * es ≤ cap * es := Nat.mul_le_mul_right _ hcap
 obtain ⟨hle, hs, hfp, hgh, him, himn⟩ := s'.newArr u8 (vs := vs) (ty := ty) (b := w.heap.size) (lo := lo) (hi := hi) (f0 := 0) (fend := L.length * es) (cend := cap * es) hb (not_fp_new s)
  (fun o _ => not_im_new s o) (Nat.zero_le _) hle' hes hfz hu8
 have hlt : ∀ (i : Nat) (e : List PV) (j : Nat) (p : PV), L[i]? = some e → e[j]? = some p → i * es + j < L.length * es := fun i e j p hi hj => by
  have h1 : i < L.length := (List.getElem?_eq_some_iff.1 hi).1
  have h2 : j < es := by rw [← hl i e hi]; exact (List.getElem?_eq_some_iff.1 hj).1
  calc i * es + j < i * es + es := by omega
   _ = (i + 1) * es := by rw [Nat.add_mul]; simp
   _ ≤ L.length * es := Nat.mul_le_mul_right _ h1
 refine ⟨_, .own _ _ _ _ _ _ _ (by simp [s.n]) ⟨hl, fun i e j p hi hj => ?_, fun i e j p c hi hj hc => ?_⟩ hcap (fun g hg => ?_),
  ⟨henv, hle, Nat.le_of_lt hsz, fun b hb => (hfp b hb).imp id (fun e => Nat.le_of_eq e.symm), fun b hb _ => hold b hb, fun b o hb _ => himn b o (Nat.ne_of_lt hb)⟩, hs⟩
 ·obtain ⟨c, hc, _⟩ := hr i e j p hi hj
  rw [Nat.zero_add, him _ (Nat.zero_le _) (hlt i e j p hi hj), hc]; rfl
 ·obtain ⟨c', hc', hi'⟩ := hr i e j p hi hj
  rw [Nat.zero_add, him _ (Nat.zero_le _) (hlt i e j p hi hj), hc'] at hc; cases hc
  exact hi'.mono hle.im
 ·rw [hgh] at hg; cases hg; simp

theorem run_cap (need old : Nat) (e : TypeId) (w : World) : ∃ c, (choose (.appendCap need old e)).run P w = .ok c (drewW w) ∧ need ≤ c := by
 refine ⟨_, by simp [choose, Sem.run, Question.forced, drewW]; rfl, ?_⟩
 simp [Question.cut]

theorem sim_s2b (s : Sat P C K h w) {e : TypeId} (hse : sizeT P e = some 1) (r : List UInt8) :
  ∃ u w' K', (Conv.stringToBytes e ⟨r.toArray⟩).run P w = .ok u w' ∧ VR K' (.slice (.own h.n false) 1 (r.map byteCell)) u ∧ Step K w K' w' ∧ Sat P C K' h.newArr w' := by
 have hsz : (ByteArray.mk r.toArray).size = r.length := by simp [ByteArray.size]
 obtain ⟨cap, hrun, hcap⟩ := run_cap (P := P) (ByteArray.mk r.toArray).size 0 e w
 rw [hsz] at hcap
 let vs : Array Value := (r.toArray.map fun b => Value.int .u8 b.toNat) ++ Array.replicate (cap - r.length) (.int .u8 0)
 have hvs : vs.size = cap := by simp [vs]; omega
 let w1 : World := { drewW w with heap := w.heap.push (.cells vs e) }
 let w2 : World := w1.freeze ⟨w.heap.size, cap, none⟩ 1
 have hb2 : w2.heap[w.heap.size]? = some (.cells vs e (cap, cap + 1)) := by
  have e1 : w1.heap[w.heap.size]? = some (.cells vs e (0, 0)) := by simp [w1]
  show (w1.heap.modify w.heap.size _)[w.heap.size]? = _
  rw [Array.getElem?_modify, e1]
  simp
 obtain ⟨K', g1, g2, g3⟩ := sim_adopt s (w' := w2) ⟨rfl, rfl, rfl⟩ (by simp [w2, w1, World.freeze])
  (fun b hb => by
   show (w1.heap.modify w.heap.size _)[b]? = _
   rw [Array.getElem?_modify, if_neg (Nat.ne_of_gt hb)]
   exact getElem?_push_lt hb) (L := r.map byteCell) (es := 1) (cap := cap) hb2 (by simpa using hcap) (by omega)
  (fun o h1 h2 => by omega) (fun i el hi => by
   rw [List.getElem?_map] at hi
   cases hri : r[i]? with
   | none => rw [hri] at hi; cases hi
   | some c => rw [hri] at hi; cases hi; rfl)
  (fun i el j q hi hj => by
   rw [List.getElem?_map] at hi
   cases hri : r[i]? with
   | none => rw [hri] at hi; cases hi
   | some c =>
    rw [hri] at hi; cases hi
    cases j with
    | zero =>
     simp [byteCell] at hj; subst hj
     have hlt : i < r.length := (List.getElem?_eq_some_iff.1 hri).1
     refine ⟨.int .u8 c.toNat, ?_, .int _ _⟩
     simp only [vs, Nat.mul_one, Nat.add_zero]
     rw [Array.getElem?_append_left (by simp; exact hlt)]
     simp [hri]
    | succ j => simp [byteCell] at hj) false (fun h => by cases h)
 refine ⟨.slice (some ⟨w.heap.size, 0, none⟩) r.length cap, w2, K', ?_, ?_, g2, g3⟩
 ·simp only [Conv.stringToBytes, Sem.run_bind, hrun, Result.andThen_ok, newRow, run_newObj, Sem.run_pure, markStringish, run_shape]
  have hvs' : (Array.map (fun b : UInt8 => Value.int IntKind.u8 ↑b.toNat) r.toArray ++ Array.replicate (cap - (ByteArray.mk r.toArray).size) (Value.int IntKind.u8 0)) = vs := by rw [hsz]
  rw [hvs']
  have hshape : ({ drewW w with heap := (drewW w).heap.push (.cells vs e) } : World).shape? (drewW w).heap.size = some (e, vs.size) := by
   simp [World.shape?]
  simp only [hshape, run_freeze, Result.andThen_ok, hsz, hvs]
  rfl
 ·simpa using g1

theorem sim_mkslice (s : Sat P C K h w) {t e : TypeId} {es bs : Nat} {z : List PV} (hu : P.underlying t = some (.slice e)) (hs : sizeT P e = some es) (hb : bytesT P e = some bs) (hz : zeroT P e = some z) (hzl : z.length = es) (hes : 0 < es)
  {k k' : IntKind} {l c : Int} (h0 : 0 ≤ l) (h1 : l ≤ c) (h2 : bs * c ≤ 281474976710656) (h3 : c ≤ 9223372036854775807) :
  ∃ u w' K', (Instr.makeSlice t (.int k l) (.int k' c)).run P w = .ok u w' ∧ VR K' (.slice (.own h.n false) es (List.replicate l.toNat z)) u ∧ Step K w K' w' ∧ Sat P C K' h.newArr w' := by
 obtain ⟨zv, z1, z2, z3, z4⟩ := run_zeroT hz w
 obtain ⟨i, hi, hib⟩ := run_infoB hb w
 have hw : ∀ n : Int, 0 ≤ n → n ≤ 9223372036854775807 → IntKind.i64.wrap n = n := fun n a b => by
  simp only [IntKind.wrap, IntKind.bits, IntKind.signed]
  have : n % (2 ^ 64 : Int) = n := Int.emod_eq_of_lt a (by omega)
  simp [this]; omega
 let vs : Array Value := (Array.range (c.toNat * es)).map (zv.cells[· % zv.cells.size]!)
 have hzs : zv.cells.size = es := by rw [← z2, hzl]
 obtain ⟨w', K', n1, n2, n3, n4, n5⟩ := sim_newArr s (L := List.replicate l.toNat z) (es := es) (cap := c.toNat) (vs := vs) e (by simp; omega) (by simp [vs])
  (fun i el hi => by
   rw [List.getElem?_replicate] at hi
   split at hi
   ·cases hi; exact hzl
   ·cases hi)
  (fun i el j q hi hj => by
   rw [List.getElem?_replicate] at hi
   split at hi
   ·rename_i hil
    cases hi
    have hjl : j < es := by rw [← hzl]; exact (List.getElem?_eq_some_iff.1 hj).1
    have hlt : i * es + j < c.toNat * es := by
     have : (i + 1) * es ≤ c.toNat * es := Nat.mul_le_mul_right _ (by omega)
     rw [Nat.add_mul] at this
     omega
    have hjz : j < zv.cells.size := by omega
    refine ⟨zv.cells[j], ?_, z4 j q _ hj (by simp [hjz]) _⟩
    have hm : (i * es + j) % es = j := by
     rw [Nat.add_comm, Nat.add_mul_mod_self_right, Nat.mod_eq_of_lt hjl]
    simp [vs, hlt, hzs, hm, getElem!_def, Array.getElem?_eq_getElem hjz]
   ·cases hi)
 refine ⟨_, w', K', ?_, n2, n3, n4⟩
 have hlarge : ∀ n : Int, 0 ≤ n → n ≤ c → (n < 0 || (bs : Int) * n > 2 ^ 48) = false := fun n a b => by
  have : (bs : Int) * n ≤ bs * c := Int.mul_le_mul_of_nonneg_left b (by omega)
  simp; omega
 have hrun : (Instr.makeSlice t (.int k l) (.int k' c)).run P w = .ok (.slice (some ⟨w.heap.size, 0, none⟩) l.toNat c.toNat) w' := by
  simp only [Instr.makeSlice, Sem.run_bind, run_und hu, Result.andThen_ok, asInt, asIntOf, Sem.run_pure, hi, hw l h0 (by omega), hw c (by omega) h3, hib]
  rw [hlarge c (by omega) (Int.le_refl _)]
  have e1 : (false || decide (l < 0) || decide (l > c)) = false := by simp; omega
  simp only [e1, Bool.false_eq_true, if_false, Sem.run_pure, Result.andThen_ok, run_askRoom, Sem.run_bind, run_size hs]
  by_cases hc0 : c.toNat * es = 0
  ·have hvs : vs = #[] := by apply Array.eq_empty_of_size_eq_zero; simp [vs, hc0]
   rw [hvs] at n1
   simp only [hc0, if_true, Sem.run_pure, Sem.run_bind, Result.andThen_ok]
   have hr : Array.range 0 = #[] := rfl
   simp only [hr, Array.map_empty, n1, Result.andThen_ok]
  ·simp only [hc0, if_false, Sem.run_bind, z1, Result.andThen_ok, Sem.run_pure]
   simp only [vs] at n1
   simp only [n1, Result.andThen_ok]
 rw [hrun, List.length_replicate]
end
end Go.Proofs.YtmngkcpobmhnoaaGreatDoor.Sim
/- Appends. -/
namespace Go.Proofs.YtmngkcpobmhnoaaGreatDoor.Sim

section
variable {P : Program} {C : CEnv} {K : KW} {h : Heap} {w : World} {nt : Nat} {f : Fr} {a : Act}

structure RowOf (im : Im) (es : Nat) (M : List (List PV)) (N : Array Value) : Prop where
 size : N.size = M.length * es
 hl : ∀ (i : Nat) (e : List PV), M[i]? = some e → e.length = es
 rel : ∀ (i : Nat) (e : List PV) (j : Nat) (p : PV), M[i]? = some e → e[j]? = some p → ∃ c, N[i * es + j]? = some c ∧ IR im p c

theorem idx_lt {M : List (List PV)} {es i j : Nat} {e : List PV} {p : PV} (hl : ∀ (i : Nat) (e : List PV), M[i]? = some e → e.length = es) (hi : M[i]? = some e) (hj : e[j]? = some p) : i * es + j < M.length * es := by
 have h1 : i < M.length := (List.getElem?_eq_some_iff.1 hi).1
 have h2 : j < es := by rw [← hl i e hi]; exact (List.getElem?_eq_some_iff.1 hj).1
 calc i * es + j < i * es + es := by omega
  _ = (i + 1) * es := by rw [Nat.add_mul]; simp
  _ ≤ M.length * es := Nat.mul_le_mul_right _ h1

theorem elems_row {b off es : Nat} {L : List (List PV)} (he : Elems K.im b off es L) : ∃ N, (∀ (h : Heap) (w : World), Sat P C K h w → (loadCells ⟨b, off, none⟩ (L.length * es)).run P w = .ok N w) ∧ RowOf K.im es L N := by
 have hx : ∀ k, k < L.length * es → ∃ e p, L[k / es]? = some e ∧ e[k % es]? = some p ∧ (K.im b (off + k)).isSome := by
  intro k hk
  have hes : 0 < es := by
   rcases Nat.eq_zero_or_pos es with e | e
   ·subst e; simp at hk
   ·exact e
  have h1 : k / es < L.length := (Nat.div_lt_iff_lt_mul hes).2 hk
  have h2 : k % es < es := Nat.mod_lt _ hes
  have h3 : L[k / es]? = some L[k / es] := by simp [h1]
  have h4 := he.hl _ _ h3
  have h5 : L[k / es][k % es]? = some (L[k / es][k % es]'(by omega)) := by simp [h4, h2]
  refine ⟨_, _, h3, h5, ?_⟩
  have := he.h1 _ _ _ _ h3 h5
  rwa [show off + k / es * es + k % es = off + k by have := Nat.div_add_mod k es; rw [Nat.mul_comm] at this; omega] at this
 let g : Nat → Value := fun k => (K.im b (off + k)).getD Go.undef
 refine ⟨((List.range (L.length * es)).map g).toArray, fun h w s => run_loadCells w _ _ g (fun j hj => ?_), ⟨by simp, he.hl, fun i e j p hi hj => ?_⟩⟩
 ·obtain ⟨e, p, _, _, h1⟩ := hx j hj
  obtain ⟨c, hc⟩ := Option.isSome_iff_exists.1 h1
  rw [Addr.add_zero', cell_eq, s.im _ _ _ hc]
  simp [g, hc]
 ·have hlt := idx_lt he.hl hi hj
  obtain ⟨c, hc⟩ := Option.isSome_iff_exists.1 (he.h1 i e j p hi hj)
  refine ⟨c, ?_, he.h2 i e j p c hi hj hc⟩
  have : K.im b (off + (i * es + j)) = some c := by rw [← Nat.add_assoc]; exact hc
  simp [hlt, g, this]

theorem first_sim (s : Sat P C K h w) {u8 : Bool} {es : Nat} {y : PV} {v : Value} {M : List (List PV)} (hv : VR K y v) (hM : elemsOf u8 y = some M) (hes : esOk es y = true) :
  (Builtin.lenOf v).run P w = .ok M.length w ∧ ∃ N, (∀ (h : Heap) (w : World), Sat P C K h w → (Builtin.firstCells es M.length v).run P w = .ok N w) ∧ RowOf K.im es M N := by
 cases y with
 | slice o e L =>
  cases hM
  rcases hv.slice_inv with ⟨rfl, rfl, _⟩ | ⟨b, off, cap, rfl, he, hcap, hn, _⟩
  ·exact ⟨rfl, #[], fun _ _ _ => rfl, ⟨by simp, by simp, by simp⟩⟩
  ·have hee : e = es := by
    cases o <;> first
     | exact absurd rfl hn
     | simpa [esOk] using hes
   subst hee
   obtain ⟨N, h1, h2⟩ := elems_row (P := P) (C := C) he
   exact ⟨rfl, N, fun h w s => by simpa [Builtin.firstCells] using h1 h w s, h2⟩
 | str r =>
  simp only [elemsOf] at hM
  split at hM
  ·cases hM
   rw [hv.str_inv]
   have he1 : es = 1 := by simpa [esOk] using hes
   subst he1
   have hsz : (ByteArray.mk r.toArray).size = r.length := by simp [ByteArray.size]
   refine ⟨by simp [Builtin.lenOf, hsz], (r.map fun b : UInt8 => Value.int .u8 b.toNat).toArray, fun h w s => ?_, ⟨by simp, fun i e hi => ?_, fun i e j p hi hj => ?_⟩⟩
   ·simp only [Builtin.firstCells, List.length_map, ByteArray.extract_mk, Sem.run_pure]
    congr 1
    apply Array.ext'
    simp
   ·rw [List.getElem?_map] at hi
    cases hri : r[i]? with
    | none => rw [hri] at hi; cases hi
    | some c => rw [hri] at hi; cases hi; rfl
   ·rw [List.getElem?_map] at hi
    cases hri : r[i]? with
    | none => rw [hri] at hi; cases hi
    | some c =>
     rw [hri] at hi; cases hi
     cases j with
     | zero => simp [byteCell] at hj; subst hj; exact ⟨.int .u8 c.toNat, by simp [hri], .int _ _⟩
     | succ j => simp [byteCell] at hj
  ·cases hM
 | _ => cases hM

theorem nextcap_le {need old : Nat} (h : old < need) : Builtin.nextslicecap need old ≤ 2 * need + 1000 := by
 unfold Builtin.nextslicecap
 split
 ·omega
 ·split
  ·omega
  ·have key : ∀ r c, c ≤ 2 * need + 1000 → Builtin.growBy need r c ≤ 2 * need + 1000 := by
    intro r
    induction r with
    | zero => intro c hc; simpa [Builtin.growBy] using hc
    | succ r ih =>
     intro c hc
     simp only [Builtin.growBy]
     split
     ·exact hc
     ·exact ih _ (by omega)
   exact key 4 old (by omega)

theorem append_get {L M : List (List PV)} {i : Nat} {e : List PV} (h : (L ++ M)[i]? = some e) : (i < L.length ∧ L[i]? = some e) ∨ (L.length ≤ i ∧ M[i - L.length]? = some e) := by
 rcases Nat.lt_or_ge i L.length with hi | hi
 ·rw [List.getElem?_append_left hi] at h; exact .inl ⟨hi, h⟩
 ·rw [List.getElem?_append_right hi] at h; exact .inr ⟨hi, h⟩

theorem run_append_new {t ty u e : TypeId} {es bs : Nat} {z : List PV} {d : TypeDesc} (hu : P.underlying t = some (.slice e)) (hd : P.underlying u = some d) (hdi : d = .string ∨ ∃ q, d = .slice q)
  (hs : sizeT P e = some es) (hb : bytesT P e = some bs) (hz : zeroT P e = some z) (hb0 : bs ≠ 0) (hzl : z.length = es)
  {base : Option Addr} {n m cap : Nat} {v : Value} {O N : Array Value}
  (hn : (Builtin.lenOf v).run P w = .ok m w) (hO : ∀ w' : World, w'.heap = w.heap → (Builtin.firstCells es n (.slice base n cap)).run P w' = .ok O w') (hN : ∀ w' : World, w'.heap = w.heap → (Builtin.firstCells es m v).run P w' = .ok N w')
  (hOs : O.size = n * es) (hNs : N.size = m * es) (hlt : cap < n + m) (hle : (2 * (n + m) + 1000) * bs ≤ 140737488355328) :
  ∃ c w' rest, (Builtin.append_ #[t, u] ty #[.slice base n cap, v]).run P w = .ok (.slice (some ⟨w.heap.size, 0, none⟩) (n + m) c) w' ∧ n + m ≤ c ∧ SameEnv w w' ∧
   w'.heap = w.heap.push (.cells (O ++ N ++ rest) e) ∧ (O ++ N ++ rest).size = c * es := by
 obtain ⟨zv, z1, z2, z3, z4⟩ := run_zeroT hz (drewW w)
 have z1' : ∀ w' : World, ∃ zv', (zeroValue e).run P w' = .ok zv' w' ∧ zv'.cells.size = es := fun w' => by
  obtain ⟨zv', a1, a2, _⟩ := run_zeroT hz w'
  exact ⟨zv', a1, by rw [← a2, hzl]⟩
 obtain ⟨i, hi, hib⟩ := run_infoB hb w
 obtain ⟨c, hrun, hcap⟩ := run_cap (P := P) (n + m) cap e w
 obtain ⟨zv', a1, a2⟩ := z1' (drewW w)
 have hinfo : ∀ w' : World, (typeInfo e).run P w' = .ok i w' := fun w' => by
  obtain ⟨i', h1, _⟩ := run_infoB hb w'
  have e1 : P.info? e = some i := by
   unfold bytesT at hb
   cases hx : P.info? e with
   | none => rw [hx] at hb; cases hb
   | some q => simp [typeInfo, hx] at hi; rw [hi]
  simp [typeInfo, e1]
 let rest := Builtin.zeroCells zv'.cells (c - (n + m))
 have hrest : rest.size = (c - (n + m)) * es := by simp [rest, Builtin.zeroCells, a2]
 refine ⟨c, { drewW w with heap := w.heap.push (.cells (O ++ N ++ rest) e) }, rest, ?_, hcap, ⟨rfl, rfl, rfl⟩, rfl, ?_⟩
 ·have hzeros : (match d with | .int _ => true | _ => false) = false := by rcases hdi with rfl | ⟨q, rfl⟩ <;> rfl
  have hnl : ¬ (n + m ≤ cap) := by omega
  have hbig : ¬ (Builtin.nextslicecap (n + m) cap * i.bytes > 2 ^ 48) := by
   have h1 := nextcap_le hlt
   have h2 : Builtin.nextslicecap (n + m) cap * i.bytes ≤ (2 * (n + m) + 1000) * i.bytes := Nat.mul_le_mul_right _ h1
   rw [hib] at h2 ⊢
   omega
  unfold Builtin.append_
  rcases hdi with rfl | ⟨q, rfl⟩
  all_goals
   simp only [List.getElem?_toArray, List.getElem?_cons_zero, List.getElem?_cons_succ, Sem.run_bind, run_und hu, Result.andThen_ok, run_size hs, run_und hd, Sem.run_pure, Bool.false_eq_true, if_false, hn, hnl,
    Sem.run_ite, hinfo, hib, hb0, or_self, and_false, hbig, hrun, run_askRoom, Bool.not_false, if_true]
   rw [hib] at hbig
   simp only [hbig, if_false, hO (drewW w) rfl, hN (drewW w) rfl, a1, Result.andThen_ok, newRow, Sem.run_bind, run_newObj, Sem.run_pure]
   rfl
 ·simp only [Array.size_append, hOs, hNs, hrest]
  rw [← Nat.add_mul, ← Nat.add_mul]
  congr 1; omega

theorem run_append_room {t ty u e : TypeId} {es : Nat} {d : TypeDesc} (hu : P.underlying t = some (.slice e)) (hd : P.underlying u = some d) (hdi : d = .string ∨ ∃ q, d = .slice q) (hs : sizeT P e = some es)
  {base : Option Addr} {n m cap : Nat} {v : Value} {N : Array Value} {w' : World} (hn : (Builtin.lenOf v).run P w = .ok m w) (hN : (Builtin.firstCells es m v).run P w = .ok N w) (hle : n + m ≤ cap)
  (hst : (match base with | some a => storeCells (a.add (n * es)) N.toList | none => pure () : Sem Unit).run P w = .ok () w') :
  (Builtin.append_ #[t, u] ty #[.slice base n cap, v]).run P w = .ok (.slice base (n + m) cap) w' := by
 unfold Builtin.append_
 rcases hdi with rfl | ⟨q, rfl⟩
 all_goals
  simp only [List.getElem?_toArray, List.getElem?_cons_zero, List.getElem?_cons_succ, Sem.run_bind, run_und hu, Result.andThen_ok, run_size hs, run_und hd, Sem.run_pure, Bool.false_eq_true, if_false, hn, hle,
   Sem.run_ite, Bool.not_false, if_true, hN]
  cases base with
  | none => simp at hst; simp [hst]
  | some a => simp only at hst ⊢; simp [hst]

theorem rowOf_append {im : Im} {es : Nat} {L M : List (List PV)} {O N R : Array Value} (hO : RowOf im es L O) (hN : RowOf im es M N) (i : Nat) (e : List PV) (j : Nat) (p : PV) (hi : (L ++ M)[i]? = some e) (hj : e[j]? = some p) :
  ∃ c, (O ++ N ++ R)[i * es + j]? = some c ∧ IR im p c := by
 rcases append_get hi with ⟨h1, h2⟩ | ⟨h1, h2⟩
 ·obtain ⟨c, hc, hr⟩ := hO.rel i e j p h2 hj
  have hlt := (Array.getElem?_eq_some_iff.1 hc).1
  exact ⟨c, by rw [Array.append_assoc, Array.getElem?_append_left hlt]; exact hc, hr⟩
 ·obtain ⟨c, hc, hr⟩ := hN.rel _ e j p h2 hj
  have hlt := (Array.getElem?_eq_some_iff.1 hc).1
  have hi' : i * es + j = O.size + ((i - L.length) * es + j) := by
   rw [hO.size, Nat.sub_mul]
   have : L.length * es ≤ i * es := Nat.mul_le_mul_right _ h1
   omega
  refine ⟨c, ?_, hr⟩
  rw [Array.getElem?_append_left (by simp only [Array.size_append]; omega), hi', Array.getElem?_append_right (by omega)]
  simpa using hc

theorem hl_append {L M : List (List PV)} {es : Nat} (h1 : ∀ (i : Nat) (e : List PV), L[i]? = some e → e.length = es) (h2 : ∀ (i : Nat) (e : List PV), M[i]? = some e → e.length = es) (i : Nat) (e : List PV) (hi : (L ++ M)[i]? = some e) : e.length = es := by
 rcases append_get hi with ⟨_, h⟩ | ⟨_, h⟩
 ·exact h1 _ _ h
 ·exact h2 _ _ h

theorem sim_app (s : Sat P C K h w) {t ty u e : TypeId} {es bs : Nat} {z : List PV} {d : TypeDesc} (hu : P.underlying t = some (.slice e)) (hd : P.underlying u = some d) (hdi : d = .string ∨ ∃ q, d = .slice q)
  (hs : sizeT P e = some es) (hb : bytesT P e = some bs) (hz : zeroT P e = some z) (hb0 : bs ≠ 0) (hzl : z.length = es) {x y p : PV} {v v' : Value} (hx : VR K x v) (hy : VR K y v') {u8 : Bool} {h' : Heap} (hu8 : u8 = true → P.underlying e = some (.int .u8) ∧ es = 1)
  (he : appP es bs u8 x y h = some (p, h')) :
  ∃ r w' K', (Builtin.append_ #[t, u] ty #[v, v']).run P w = .ok r w' ∧ VR K' p r ∧ Step K w K' w' ∧ Sat P C K' h' w' := by
 unfold appP at he
 split at he
 ·rename_i o es0 L M hM
  split at he
  ·rename_i hc
   obtain ⟨c1, c2, c3⟩ := hc
   obtain ⟨hn, N, hN, hNr⟩ := first_sim s hy hM c2
   -- a new array, whatever was there
   have fresh : ∀ (K1 : KW) (h1 : Heap) (s1 : Sat P C K1 h1 w) (him : K1.im = K.im) (hK : Step K w K1 w) (base : Option Addr) (cap : Nat) (O : Array Value),
     (∀ w' : World, w'.heap = w.heap → (Builtin.firstCells es L.length (.slice base L.length cap)).run P w' = .ok O w') → RowOf K.im es L O → cap < L.length + M.length → ∀ (q : Bool), (q = true → u8 = true) →
     ∃ r w' K', (Builtin.append_ #[t, u] ty #[.slice base L.length cap, v']).run P w = .ok r w' ∧ VR K' (.slice (.own h1.n q) es (L ++ M)) r ∧ Step K w K' w' ∧ Sat P C K' h1.newArr w' := by
    intro K1 h1 s1 him hK base cap O hO hOr hlt q hq
    obtain ⟨c, w', rest, e1, e2, e3, e4, e5⟩ := run_append_new (ty := ty) (n := L.length) (m := M.length) hu hd hdi hs hb hz hb0 hzl hn hO
     (fun w' hw => hN _ _ (s.heap hw))
     hOr.size hNr.size hlt c3
    obtain ⟨K', g1, g2, g3⟩ := sim_adopt s1 (w' := w') e3 (by rw [e4]; simp) (fun b hb => by rw [e4, getElem?_push_lt hb]) (L := L ++ M) (es := es) (cap := c) (lo := 0) (hi := 0)
     (vs := O ++ N ++ rest) (ty := e) (by rw [e4]; simp) (by simpa using e2) (by rw [e5]; exact Nat.le_refl _) (fun o _ _ => by omega) (hl_append hOr.hl hNr.hl) (fun i el j q hi hj => by
      rw [him]; exact rowOf_append hOr hNr i el j q hi hj) q (fun h => ⟨⟨(hu8 (hq h)).1, by rw [← (hu8 (hq h)).2]; exact hs⟩, Nat.zero_le _⟩)
    refine ⟨_, w', K', e1, ?_, hK.trans g2, g3⟩
    rw [List.length_append] at g1
    exact g1
   rcases hx.slice_inv with ⟨rfl, rfl, ho⟩ | ⟨b, off, cap, rfl, hel, hcap, hno, hfull, hown⟩
   ·have hO : ∀ w' : World, w'.heap = w.heap → (Builtin.firstCells es ([] : List (List PV)).length (.slice none ([] : List (List PV)).length 0)).run P w' = .ok #[] w' := fun w' _ => rfl
    have hOr : RowOf K.im es [] #[] := ⟨by simp, by simp, by simp⟩
    rcases ho with rfl | rfl | rfl
    ·simp only at he
     split at he
     ·rename_i hMe
      cases he
      have hM0 : M = [] := by simpa using hMe
      subst hM0
      refine ⟨.slice none 0 0, w, K, ?_, .ir (.snil es), .refl K w, s⟩
      exact run_append_room (ty := ty) (n := 0) (m := 0) (cap := 0) (base := none) hu hd hdi hs hn (hN _ _ s) (Nat.le_refl _) rfl
     ·rename_i hMe
      cases he
      have hpos : 0 < M.length := by
       rcases M with _ | ⟨m, M⟩
       ·simp at hMe
       ·simp
      exact fresh K h s rfl (.refl K w) none 0 #[] hO hOr (by simpa using hpos) u8 (fun h => h)
    ·cases he
    ·simp only at he
     split at he
     ·cases he
     ·rename_i hMe
      cases he
      have hpos : 0 < M.length := by
       rcases M with _ | ⟨m, M⟩
       ·simp at hMe
       ·simp
      exact fresh K h s rfl (.refl K w) none 0 #[] hO hOr (by simpa using hpos) u8 (fun h => h)
   ·have hee : es0 = es := by
     cases o <;> first
      | exact absurd rfl hno
      | simpa [esOk] using c1
    subst hee
    obtain ⟨O, hO0, hOr⟩ := elems_row (P := P) (C := C) hel
    have hO : ∀ w' : World, w'.heap = w.heap → (Builtin.firstCells es0 L.length (.slice (some ⟨b, off, none⟩) L.length cap)).run P w' = .ok O w' := fun w' hw => by
     simp only [Builtin.firstCells]
     exact hO0 _ _ (s.heap hw)
    cases o with
    | nil => exact absurd rfl hno
    | shared => cases he
    | full =>
     simp only at he
     split at he
     ·cases he
     ·rename_i hMe
      cases he
      have hpos : 0 < M.length := by
       rcases M with _ | ⟨m, M⟩
       ·simp at hMe
       ·simp
      have := hfull rfl
      exact fresh K h s rfl (.refl K w) _ cap O hO hOr (by omega) u8 (fun h => h)
    | own id ub =>
     simp only at he
     split at he
     ·rename_i hlive
      cases he
      obtain ⟨hidn, hgh⟩ := hown id ub rfl
      obtain ⟨g, vs, ty0, lo, hi, g1, g2, g3, g4, g5, g6, g7⟩ := s.live id hlive
      obtain ⟨gb, gf, gc, gu⟩ := hgh g g1
      obtain ⟨hle1, s1, hfp1⟩ := s.retire id
      have hstep1 : Step K w { K with gh := fun i => if i = id then none else K.gh i } w := ⟨.refl w, hle1, Nat.le_refl _, fun b hb => .inl (hfp1 b hb), fun _ _ _ => rfl, fun _ _ _ _ => rfl⟩
      by_cases hroom : L.length + M.length ≤ cap
      ·-- in place
       have hNs := hNr.size
       have hend : off + L.length * es0 + N.size ≤ vs.size := by
        have : (L.length + M.length) * es0 ≤ cap * es0 := Nat.mul_le_mul_right _ hroom
        rw [Nat.add_mul] at this
        rw [hNs]; omega
       rw [gb] at g2
       obtain ⟨w', cur', e1, e0, e2, e3, e4, e5, e6⟩ := run_storeCells_gen (P := P) b ty0 (lo, hi) N.toList (off + L.length * es0) 0 vs w g2 (by simpa using hend)
        (fun x hx => by
         obtain ⟨k, hk⟩ := List.mem_iff_getElem?.1 hx
         have hkl : k < M.length * es0 := by rw [← hNs]; have := (List.getElem?_eq_some_iff.1 hk).1; simpa using this
         have hes : 0 < es0 := by
          rcases Nat.eq_zero_or_pos es0 with e | e
          ·subst e; simp at hkl
          ·exact e
         have l1 : k / es0 < M.length := (Nat.div_lt_iff_lt_mul hes).2 hkl
         have l3 : M[k / es0]? = some M[k / es0] := by simp [l1]
         have l4 := hNr.hl _ _ l3
         have l5 : M[k / es0][k % es0]? = some (M[k / es0][k % es0]'(by rw [l4]; exact Nat.mod_lt _ hes)) := by simp [l4, Nat.mod_lt _ hes]
         obtain ⟨c', q1, q2⟩ := hNr.rel _ _ _ _ l3 l5
         rw [show k / es0 * es0 + k % es0 = k by have := Nat.div_add_mod k es0; rw [Nat.mul_comm] at this; omega] at q1
         have : some x = some c' := by rw [← hk, ← q1]; simp
         cases this
         exact q2.cell)
        (fun k h1 h2 => by
         have := g5 k (by rw [gf]; omega) (by
          rw [gc]
          simp only [Array.length_toList] at h2
          have h3 : (L.length + M.length) * es0 ≤ cap * es0 := Nat.mul_le_mul_right _ hroom
          rw [Nat.add_mul] at h3
          rw [hNs] at h2; omega)
         simpa using this)
       have hnfp : ¬ KW.fp { K with gh := fun i => if i = id then none else K.gh i } b := by
        rintro (⟨j, hj⟩ | ⟨j, g', hj, e⟩ | ⟨j, hj⟩)
        ·exact s.gbox id j g b g1 hj gb
        ·simp only at hj
         split at hj
         ·cases hj
         ·rename_i hne; exact hne (s.ginj j id g' g hj g1 (by rw [e, gb]))
        ·simp only at hj
         cases hx : h.loop j with
         | none => rw [s.lp0 j hx] at hj; cases hj
         | some r =>
          obtain ⟨b2, lr, y1, y2, _⟩ := s.lp j r hx
          rw [hj] at y1; cases y1
          rw [g2] at y2; cases y2
       have s2 : Sat P C { K with gh := fun i => if i = id then none else K.gh i } (h.retire id) w' := s1.keep
        (fun x hx => e3 x (fun e => hnfp (e ▸ hx)))
        (fun x o v hv => by
         have hold := s1.im x o v hv
         by_cases hxb : x = b
         ·subst hxb
          have hlt : o < off + L.length * es0 := by
           rcases Nat.lt_or_ge o (off + L.length * es0) with q | q
           ·exact q
           ·have := g6 o (by rw [gf]; exact q)
            rw [gb] at this
            simp only at hv
            rw [this] at hv; cases hv
          rw [cellAt_of e4, e6 o, if_neg (by omega)]
          rw [cellAt_of g2] at hold; exact hold
         ·unfold cellAt at hold ⊢
          rw [e3 x hxb]; exact hold)
       have hmul : (L.length + M.length) * es0 = L.length * es0 + M.length * es0 := Nat.add_mul _ _ _
       have hmul2 : (L.length + M.length) * es0 ≤ cap * es0 := Nat.mul_le_mul_right _ hroom
       obtain ⟨K2, k1, k2, k3, k4, k5, k6⟩ : ∃ K2 : KW, KW.le { K with gh := fun i => if i = id then none else K.gh i } K2 ∧ Sat P C K2 (h.retire id).newArr w' ∧ (∀ x, K2.fp x → KW.fp { K with gh := fun i => if i = id then none else K.gh i } x ∨ x = b) ∧
         K2.gh h.n = some ⟨b, off + (L.length + M.length) * es0, off + cap * es0, ub && u8⟩ ∧ (∀ o, off + L.length * es0 ≤ o → o < off + (L.length + M.length) * es0 → K2.im b o = cur'[o]?) ∧ (∀ x o, x ≠ b → K2.im x o = K.im x o) := ⟨_, s2.newArr (ub && u8) (vs := cur') (ty := ty0) (b := b) (lo := lo) (hi := hi) (f0 := off + L.length * es0) (fend := off + (L.length + M.length) * es0) (cend := off + cap * es0) e4 hnfp
        (fun o ho => by have := g6 o (by rw [gf]; exact ho); rw [gb] at this; exact this) (by omega) (by omega) (by rw [e5, ← gc]; exact g4)
        (fun o h1 h2 => g5 o (by rw [gf]; omega) (by rw [gc]; exact h2)) (fun hq => by
         rw [Bool.and_eq_true] at hq
         obtain ⟨q1, q2⟩ := g7 (gu hq.1)
         exact ⟨q1, by rw [gf] at q2; omega⟩)⟩
       refine ⟨.slice (some ⟨b, off, none⟩) (L.length + M.length) cap, w', K2, ?_, ?_, ?_, k2⟩
       ·refine run_append_room hu hd hdi hs hn (hN _ _ s) hroom ?_
        simp only [Addr.add_zero']; exact e1
       ·have hown' : VR K2 (.slice (.own h.n (ub && u8)) es0 (L ++ M)) (.slice (some ⟨b, off, none⟩) (L ++ M).length cap) := by
         refine VR.own h.n (ub && u8) es0 (L ++ M) b off cap (by rw [k2.n]; exact Nat.lt_succ_self _) ⟨hl_append hel.hl hNr.hl, fun i el j q hi hj => ?_, fun i el j q c hi hj hc => ?_⟩ (by simpa using hroom) (fun g' hg' => ?_)
         ·rcases append_get hi with ⟨a1, a2⟩ | ⟨a1, a2⟩
          ·obtain ⟨cc, hcc⟩ := Option.isSome_iff_exists.1 (hel.h1 i el j q a2 hj)
           exact Option.isSome_iff_exists.2 ⟨cc, k1.im _ _ _ hcc⟩
          ·obtain ⟨cc, q1, q2⟩ := hNr.rel _ el j q a2 hj
           have hlt := (Array.getElem?_eq_some_iff.1 q1).1
           have hpos : off + i * es0 + j = off + L.length * es0 + ((i - L.length) * es0 + j) := by
            rw [Nat.sub_mul]
            have : L.length * es0 ≤ i * es0 := Nat.mul_le_mul_right _ a1
            omega
           rw [hpos, k5 _ (by omega) (by omega), e6 _, if_pos (by simp only [Array.length_toList]; omega)]
           simp only [Nat.add_zero, Nat.add_sub_cancel_left, Array.getElem?_toList, q1, Option.isSome_some]
         ·rcases append_get hi with ⟨a1, a2⟩ | ⟨a1, a2⟩
          ·obtain ⟨cc, hcc⟩ := Option.isSome_iff_exists.1 (hel.h1 i el j q a2 hj)
           have := k1.im _ _ _ hcc
           rw [this] at hc; cases hc
           exact (hel.h2 i el j q _ a2 hj hcc).mono k1.im
          ·obtain ⟨cc, q1, q2⟩ := hNr.rel _ el j q a2 hj
           have hlt := (Array.getElem?_eq_some_iff.1 q1).1
           have hpos : off + i * es0 + j = off + L.length * es0 + ((i - L.length) * es0 + j) := by
            rw [Nat.sub_mul]
            have : L.length * es0 ≤ i * es0 := Nat.mul_le_mul_right _ a1
            omega
           rw [hpos, k5 _ (by omega) (by omega), e6 _, if_pos (by simp only [Array.length_toList]; omega)] at hc
           simp only [Nat.add_zero, Nat.add_sub_cancel_left, Array.getElem?_toList, q1] at hc
           cases hc
           exact q2.mono k1.im
         ·rw [k4] at hg'; cases hg'
          simp
        rw [List.length_append] at hown'; exact hown'
       ·have hfpb : K.fp b := .inr (.inl ⟨id, g, g1, gb⟩)
        exact ⟨e0, hle1.trans k1, Nat.le_of_eq e2.symm, fun x hx => (k3 x hx).elim (fun q => .inl (hfp1 x q)) (fun q => .inl (q ▸ hfpb)), fun x hx hnx => e3 x (fun e => hnx (e ▸ hfpb)), fun x o hx hnx => k6 x o (fun e => hnx (e ▸ hfpb))⟩
      ·obtain ⟨r, w', K', a1, a2, a3, a4⟩ := fresh _ (h.retire id) s1 rfl hstep1 _ cap O hO hOr (by omega) (ub && u8) (fun h => by rw [Bool.and_eq_true] at h; exact h.2)
       exact ⟨r, w', K', a1, a2, a3, a4⟩
     ·cases he
  ·cases he
 ·cases he
end
end Go.Proofs.YtmngkcpobmhnoaaGreatDoor.Sim
/- Every operation of the resolved language but calls is what the model's does. -/
namespace Go.Proofs.YtmngkcpobmhnoaaGreatDoor.Sim

section
variable {P : Program} {C : CEnv} {K : KW} {h : Heap} {w : World} {nt : Nat} {f : Fr} {a : Act}

def ROp.isCall : ROp → Bool
 | .call .. | .pcall .. | .ocall .. => true
 | _ => false

theorem OpOK.of {p : PV} {h' : Heap} {s : Sem Value} {u : Value} {w' : World} {K' : KW} (hr : s.run P w = .ok u w') (hv : VR K' p u) (hst : Step K w K' w') (hs : Sat P C K' h' w') :
  OpOK P C K w h' p ((do Pure.pure (Next.value (← s)) : Sem Next).run P w) := by
 refine ⟨u, w', K', .inl ?_, hv, hst, hs⟩
 rw [run_v, hr]; rfl

theorem OpOK.same (s : Sat P C K h w) {p : PV} {m : Sem Value} {u : Value} (hr : m.run P w = .ok u w) (hv : VR K p u) : OpOK P C K w h p ((do Pure.pure (Next.value (← m)) : Sem Next).run P w) :=
 .of hr hv (.refl K w) s

theorem esOk_or {z es : Nat} {o : Own} {L : List (List PV)} {v : Value} (hv : VR K (.slice o es L) v) (h : esOk z (.slice o es L) = true) : L = [] ∨ es = z := by
 cases o with
 | nil =>
  rcases hv.slice_inv with ⟨_, rfl, _⟩ | ⟨_, _, _, _, _, _, hn, _⟩
  ·exact .inl rfl
  ·exact absurd rfl hn
 | _ => exact .inr (by simpa [esOk] using h)

set_option maxHeartbeats 1600000 in
theorem op_sim (s : Sat P C K h w) (hf : FrOK K nt f a.tmps) {o : Oper} {r : ROp} (hc : cOp P C o.op = some r) (hnc : r.isCall = false) {p : PV} {h' : Heap}
  (orc pure : FuncId → List PV → Option PV) (call : PV → List PV → Heap → Option (PV × Heap)) (he : evalOp orc pure call r f h = some (p, h')) : OpOK P C K w h' p ((execOp a.eval o).run P w) := by
 have hop : ∀ (x : Operand) (y : Opd), cOpd C x = some y → VR K (y.ev f) (a.eval x) := fun x y hx => opd_sim s hf hx
 obtain ⟨dst, op, ty, pos, after, guard⟩ := o
 simp only at hc
 cases op with
 | move x =>
  simp only [cOp, Option.map_eq_some_iff] at hc
  obtain ⟨y, hy, rfl⟩ := hc
  simp only [evalOp] at he; cases he
  exact .val s (hop x y hy)
 | assign x =>
  simp only [cOp, Option.map_eq_some_iff] at hc
  obtain ⟨y, hy, rfl⟩ := hc
  simp only [evalOp] at he; cases he
  exact .val s (hop x y hy)
 | pick c x y =>
  simp only [cOp] at hc
  split at hc
  ·rename_i c' x' y' h1 h2 h3
   cases hc
   simp only [evalOp] at he
   split at he
   ·rename_i b hb
    cases he
    have hcv := hop c c' h1
    rw [hb] at hcv
    have : (execOp a.eval { dst, op := .pick c x y, type := ty, pos, after, guard }).run P w = .ok (.value (if b then a.eval x else a.eval y)) w := by
     simp [execOp, hcv.bool_inv, asBool]
    rw [this]
    refine .val s ?_
    cases b
    ·exact hop y y' h3
    ·exact hop x x' h2
   ·cases he
  ·cases hc
 | alloc t =>
  simp only [cOp, Option.map_eq_some_iff] at hc
  obtain ⟨z, hz, rfl⟩ := hc
  simp only [evalOp] at he; cases he
  exact sim_alloc s hz
 | box t x =>
  simp only [cOp, Option.map_eq_some_iff] at hc
  obtain ⟨y, hy, rfl⟩ := hc
  simp only [evalOp] at he
  split at he
  ·rename_i ho; cases he; exact sim_box s t (hop x y hy) ho
  ·cases he
 | build t parts => exact sim_build s hf hc orc pure call he
 | buildSlice t n parts => exact sim_bslice s hf hc orc pure call he
 | insert => cases hc
 | load t x =>
  simp only [cOp] at hc
  split at hc
  ·rename_i n y h1 h2
   cases hc
   simp only [evalOp] at he
   obtain ⟨u, g1, g2, rfl⟩ := run_load_sim s h1 (hop x y h2) he
   exact .same s g1 g2
  ·cases hc
 | store t x y =>
  simp only [cOp] at hc
  split at hc
  ·rename_i n x' y' h1 h2 h3
   cases hc
   simp only [evalOp] at he
   obtain ⟨w', g1, rfl, g2, g3⟩ := sim_store s h1 (hop x x' h2) (hop y y' h3) he
   refine ⟨Go.undef, w', K, .inr ⟨?_, rfl⟩, vr_undef K, g2, g3⟩
   simp only [execOp, Sem.run_bind, g1, Result.andThen_ok, Sem.run_pure]
  ·cases hc
 | ready => cases hc
 | waits => cases hc
 | nilCheck x =>
  simp only [cOp, Option.map_eq_some_iff] at hc
  obtain ⟨y, hy, rfl⟩ := hc
  simp only [evalOp] at he
  have hv := hop x y hy
  split at he
  ·rename_i id off hp
   cases he
   rw [hp] at hv
   obtain ⟨b, hb, _⟩ := hv.ptr_inv
   have : (execOp a.eval { dst, op := .nilCheck x, type := ty, pos, after, guard }).run P w = .ok (.value (a.eval x)) w := by simp [execOp, hb]
   rw [this]; exact .val s hv
  ·rename_i cs off hp
   cases he
   rw [hp] at hv
   obtain ⟨b, o, hb⟩ := hv.cptr_inv
   have : (execOp a.eval { dst, op := .nilCheck x, type := ty, pos, after, guard }).run P w = .ok (.value (a.eval x)) w := by simp [execOp, hb]
   rw [this]; exact .val s hv
  ·rename_i g x1 x2 hp
   cases he
   rw [hp] at hv
   obtain ⟨b, o, hb, _⟩ := hv.func_inv
   have : (execOp a.eval { dst, op := .nilCheck x, type := ty, pos, after, guard }).run P w = .ok (.value (a.eval x)) w := by simp [execOp, hb]
   rw [this]; exact .val s hv
  ·cases he
 | binOp op t x y yt =>
  simp only [cOp] at hc
  split at hc
  ·rename_i x' y' h1 h2
   cases hc
   simp only [evalOp, Option.map_eq_some_iff] at he
   obtain ⟨v, hv, he⟩ := he
   cases he
   have hsp := cEq_spec (P := P) t
   have hx := hop x x' h1
   have hy := hop y y' h2
   generalize hek : ekOf P C (cEq P t) x y = ek at hv
   have hspec : EqSpec P t ek := by
    rw [← hek]
    unfold ekOf
    cases hq : cEq P t <;> rw [hq] at hsp <;> simp only
    all_goals first
     | exact hsp
     | trivial
     | (
       split
       ·first | exact hsp | trivial
       ·split
        ·rename_i hall; exact ⟨hsp, hall⟩
        ·trivial)
   obtain ⟨u, g1, g2⟩ := sim_bin (w := w) op t hspec hx hy hv
   have hguard : (eqGuard op t x y (a.eval x) (a.eval y)).run P w = .ok () w := by
    by_cases hop2 : op = .eql ∨ op = .neq
    ·refine eqGuard_ok (fun e1 e2 => ?_) (fun us vs e1 e2 => ?_)
     ·-- nil interfaces: one of them is the literal
      rw [e1] at hx
      rw [e2] at hy
      rw [hx.nilIface_of, hy.nilIface_of] at hv
      have hki : ek = .iface := by
       rcases hop2 with rfl | rfl <;> cases ek <;> first | rfl | (simp [binP, eqP] at hv; done)
      rw [hki] at hek
      have hni : (isNilIface x || isNilIface y) = true := by
       unfold ekOf at hek
       split at hek
       ·split at hek
        ·assumption
        ·split at hek <;> cases hek
       ·rename_i hne; exact (hne hek).elim
      have isC : ∀ z : Operand, isNilIface z = true → ∃ c, z = .const c := by
       intro z hz
       unfold isNilIface at hz
       split at hz
       ·exact ⟨_, rfl⟩
       ·cases hz
      rcases Bool.or_eq_true _ _ ▸ hni with q | q
      ·exact .inl (isC x q)
      ·exact .inr (isC y q)
     ·rw [e1] at hx
      rw [e2] at hy
      obtain ⟨ps, ex⟩ := hx.agg_of
      obtain ⟨qs, ey⟩ := hy.agg_of
      rw [ex, ey] at hv
      have hki : ∃ ts, ek = .agg ts := by
       rcases hop2 with rfl | rfl <;> cases ek <;> first | exact ⟨_, rfl⟩ | (simp [binP, eqP] at hv; done)
      obtain ⟨ts, rfl⟩ := hki
      exact (let ⟨_, _, _, h, _⟩ := hspec; h)
    ·unfold eqGuard
     cases op <;> simp_all
   refine .same s ?_ g2
   simp only [Sem.run_bind, hguard, Result.andThen_ok, g1]
  ·cases hc
 | unOp op t x =>
  simp only [cOp, Option.map_eq_some_iff] at hc
  obtain ⟨y, hy, rfl⟩ := hc
  simp only [evalOp, Option.map_eq_some_iff] at he
  obtain ⟨v, hv, he⟩ := he
  cases he
  obtain ⟨u, g1, g2⟩ := sim_un (P := P) (w := w) op (hop x y hy) hv
  exact .same s g1 g2
 | convert st dt x =>
  simp only [cOp] at hc
  split at hc
  ·rename_i sd k x' h1 h2 h3
   cases hc
   simp only [evalOp] at he
   split at he <;> first
    | (cases he; done)
    | skip
   all_goals rename_i hcv hxv
   all_goals cases hcv
   cases he
   have hv := hop x x' h3
   rw [hxv] at hv
   refine .same s (u := .int k (k.wrap _)) ?_ (.ir (.int _ _))
   rw [hv.int_inv]
   simp [convert, run_und h1, run_und h2, Conv.intToInt]
  ·rename_i x' h1 h2 h3
   cases hc
   simp only [evalOp] at he
   split at he <;> first
    | (cases he; done)
    | skip
   all_goals rename_i hcv hxv
   all_goals cases hcv
   cases he
   have hv := hop x x' h3
   rw [hxv] at hv
   refine .same s (u := a.eval x) ?_ hv
   rw [hv.str_inv]
   simp [convert, run_und h1, run_und h2]
  ·rename_i e x' h1 h2 h3
   split at hc
   ·rename_i g1 g2
    cases hc
    simp only [evalOp] at he
    split at he <;> first
     | (cases he; done)
     | skip
    all_goals rename_i hcv hxv
    all_goals cases hcv
    cases he
    have hv := hop x x' h3
    rw [hxv] at hv
    obtain ⟨u, w', K', q1, q2, q3, q4⟩ := sim_s2b s g2 _
    refine .of (u := u) ?_ q2 q3 q4
    rw [hv.str_inv]
    simp only [convert, Sem.run_bind, run_und h1, run_und h2, run_und g1, Result.andThen_ok, q1]
   ·cases hc
  ·rename_i e x' h1 h2 h3
   split at hc
   ·rename_i g1
    cases hc
    simp only [evalOp] at he
    split at he <;> first
     | (cases he; done)
     | skip
    all_goals rename_i hcv hxv
    all_goals cases hcv
    split at he
    ·rename_i hes
     simp only [Option.map_eq_some_iff] at he
     obtain ⟨r, hr, he⟩ := he
     cases he
     have hv := hop x x' h3
     rw [hxv] at hv
     have q := sim_b2s s hv hes hr
     refine .same s (u := .string ⟨r.toArray⟩) ?_ (.ir (.str _))
     obtain ⟨b, cap, hb⟩ := hv.len_slice
     rw [hb] at q ⊢
     simp only [convert, Sem.run_bind, run_und h1, run_und h2, run_und g1, Result.andThen_ok, q]
    ·cases he
   ·cases hc
  ·cases hc
 | sliceToArrayPointer => cases hc
 | makeInterface t x =>
  simp only [cOp] at hc
  split at hc
  ·cases hc
  ·rename_i td hne hu
   simp only [Option.map_eq_some_iff] at hc
   obtain ⟨y, hy, rfl⟩ := hc
   have hv := hop x y hy
   have hrun : ∀ u : Value, a.eval x = u → (execOp a.eval { dst, op := .makeInterface t x, type := ty, pos, after, guard }).run P w = .ok (.value (.iface t u)) w := by
    intro u hu2
    simp only [execOp, Instr.makeInterface, Sem.run_bind, run_und hu, Result.andThen_ok, hu2]
    cases td <;> first | exact absurd rfl (hne _) | simp
   simp only [evalOp] at he
   split at he
   ·rename_i k n hp
    cases he
    rw [hp] at hv
    rw [hrun _ hv.int_inv]
    exact .val s (.ir (.ifcI t k n))
   ·cases he
   ·cases he
   ·cases he
    rw [hrun _ rfl]
    exact .val s (.ir (.ifc t _))
  ·cases hc
 | makeFunc fn first cap =>
  cases fn with
  | func g =>
   simp only [cOp] at hc
   split at hc
   ·rename_i x y h1 h2
    cases hc
    simp only [evalOp] at he; cases he
    obtain ⟨a1, a2⟩ := opds_sim s hf h1
    obtain ⟨b1, b2⟩ := opds_sim s hf h2
    exact .same s (u := .func (.func g) (first.map a.eval) (cap.map a.eval)) rfl (.func g _ _ _ _ a1 b1 a2 b2)
   ·cases hc
  | _ => cases hc
 | makeMap => cases hc
 | makeChan => cases hc
 | makeSlice t l c =>
  simp only [cOp] at hc
  split at hc
  ·rename_i e hu
   split at hc
   ·rename_i es bs z l' c' g1 g2 g3 g4 g5
    split at hc
    ·rename_i hcond
     cases hc
     simp only [evalOp] at he
     split at he
     ·rename_i k1 x1 k2 x2 e1 e2
      split at he
      ·rename_i hb
       cases he
       have hl := hop l l' g4
       have hcc := hop c c' g5
       rw [e1] at hl
       rw [e2] at hcc
       obtain ⟨u, w', K', q1, q2, q3, q4⟩ := sim_mkslice s (k := k1) (k' := k2) hu g1 g2 g3 hcond.1 hcond.2 hb.1 hb.2.1 hb.2.2.1 hb.2.2.2
       refine .of (u := u) ?_ q2 q3 q4
       rw [hl.int_inv, hcc.int_inv]; exact q1
      ·cases he
     ·cases he
    ·cases hc
   ·cases hc
  ·cases hc
 | slice t x lo hi mx =>
  simp only [cOp] at hc
  split at hc
  ·rename_i x' lo' hi' hu g1 g2 g3 g4
   cases hc
   rcases cOpt_cases g4 with ⟨rfl, _⟩ | ⟨_, _, _, q, _⟩
   ·simp only [evalOp] at he
    split at he
    ·rename_i str hx
     cases hb : boundP f str.length str.length hi' with
     | none => rw [hb] at he; cases he
     | some b =>
      rw [hb] at he
      simp only [Option.bind_some, Option.map_eq_some_iff] at he
      obtain ⟨l, hl, he⟩ := he
      cases he
      have hv := hop x x' g1
      rw [hx] at hv
      have hsz : (ByteArray.mk str.toArray).size = str.length := by simp [ByteArray.size]
      have hr := run_bounds2 (P := P) (a := a) hop g2 g3 false (Nat.le_refl str.length) hb hl w
      refine .same s (u := .string ⟨((str.take b).drop l).toArray⟩) ?_ (.ir (.str _))
      rw [hv.str_inv]
      simp only [Instr.sliceAt, Sem.run_bind, run_und hu, Result.andThen_ok, Instr.slice, Option.map_none, Option.isSome_none, Bool.false_eq_true, if_false, Sem.run_pure, hsz, hr, ByteArray.extract_mk]
      congr 4
      rw [List.drop_take]
    ·cases he
   ·cases q
  ·rename_i e x' lo' hi' mx' hu g1 g2 g3 g4
   simp only [Option.map_eq_some_iff] at hc
   obtain ⟨z, hz, rfl⟩ := hc
   simp only [evalOp] at he
   split at he
   ·rename_i hes
    split at he
    ·rename_i o es L hx
     rcases cOpt_cases g4 with ⟨rfl, _⟩ | ⟨_, _, _, q, _⟩
     ·cases hb : boundP f L.length L.length hi' with
      | none => rw [hb] at he; cases he
      | some b =>
       rw [hb] at he
       simp only [Option.bind_some, Option.map_eq_some_iff] at he
       obtain ⟨l, hl, he⟩ := he
       cases he
       have hv := hop x x' g1
       rw [hx] at hv hes
       obtain ⟨u, q1, q2⟩ := sim_slice2 (C := C) hu hz hv (esOk_or hv hes) hop g2 g3 hb hl w
       exact .same s q1 q2
     ·cases q
    ·rename_i o es L m hx
     rcases cOpt_cases g4 with ⟨_, q⟩ | ⟨mx0, m', rfl, hm, hm'⟩
     ·cases q
     ·cases hm
      cases hcb : boundP f L.length L.length (some m) with
      | none => rw [hcb] at he; cases he
      | some c =>
       rw [hcb] at he
       simp only [Option.bind_some] at he
       rcases cOpt_cases g3 with ⟨_, q⟩ | ⟨hi0, hi'', rfl, rfl, hh⟩
       ·subst q; cases he
       ·simp only at he
        cases hb : boundP f 0 c (some hi'') with
        | none => rw [hb] at he; cases he
        | some b =>
         rw [hb] at he
         simp only [Option.bind_some, Option.map_eq_some_iff] at he
         obtain ⟨l, hl, he⟩ := he
         cases he
         have hv := hop x x' g1
         rw [hx] at hv hes
         obtain ⟨u, q1, q2⟩ := sim_slice3 (C := C) hu hz hv (esOk_or hv hes) hop g2 hh hm' hcb hb hl w
         exact .same s q1 q2
    ·cases he
   ·cases he
  ·cases hc
 | fieldAddr t x i =>
  simp only [cOp] at hc
  split at hc
  ·rename_i fields x' hu g1
   split at hc
   ·rename_i fd hfd
    split at hc
    ·rename_i n hn
     split at hc
     ·cases hc
     ·rename_i hn0
      cases hc
      simp only [evalOp] at he
      obtain ⟨u, q1, q2, rfl⟩ := sim_faddr (w := w) hu hfd hn hn0 (hop x x' g1) he
      exact .same s q1 q2
    ·cases hc
   ·cases hc
  ·cases hc
 | field t x i =>
  simp only [cOp] at hc
  split at hc
  ·rename_i fields x' hu g1
   split at hc
   ·rename_i fd hfd
    simp only [Option.map_eq_some_iff] at hc
    obtain ⟨n, hn, rfl⟩ := hc
    simp only [evalOp] at he
    split at he
    ·rename_i cs hx
     simp only [Option.map_eq_some_iff] at he
     obtain ⟨v, hv, he⟩ := he
     cases he
     have hxv := hop x x' g1
     rw [hx] at hxv
     obtain ⟨u, q1, q2⟩ := sim_field (w := w) hu hfd hn hxv hv
     exact .same s q1 q2
    ·cases he
   ·cases hc
  ·cases hc
 | indexAddr t x i =>
  simp only [cOp] at hc
  split at hc
  ·rename_i e x' i' hu g1 g2
   simp only [Option.map_eq_some_iff] at hc
   obtain ⟨es, hes, rfl⟩ := hc
   simp only [evalOp] at he
   split at he
   ·rename_i o e' L k n h1 h2
    split at he
    ·rename_i hcond
     obtain ⟨hn, rfl⟩ := hcond
     simp only [Option.map_eq_some_iff] at he
     obtain ⟨c, hcc, he⟩ := he
     cases he
     have hv := hop x x' g1
     have hi := hop i i' g2
     rw [h1] at hv
     rw [h2] at hi
     obtain ⟨u, q1, q2⟩ := sim_iaddr (P := P) (w := w) hu hes hv (k := k) hn hcc
     refine .same s ?_ q2
     rw [hi.int_inv]; exact q1
    ·cases he
   ·cases he
  ·rename_i len e x' i' hu g1 g2
   simp only [Option.map_eq_some_iff] at hc
   obtain ⟨es, hes, rfl⟩ := hc
   simp only [evalOp] at he
   have hv := hop x x' g1
   have hi := hop i i' g2
   split at he
   ·rename_i k n h2
    rw [h2] at hi
    obtain ⟨u, q1, q2, rfl⟩ := sim_iaddrA (w := w) hu hes hv (k := k) (n := n) he
    refine .same s ?_ q2
    rw [hi.int_inv]; exact q1
   ·cases he
  ·cases hc
 | index t x i =>
  simp only [cOp] at hc
  split at hc
  ·rename_i x' i' hu g1 g2
   cases hc
   simp only [evalOp] at he
   split at he
   ·rename_i str k n h1 h2
    split at he
    ·rename_i hn
     simp only [Option.map_eq_some_iff] at he
     obtain ⟨c, hcc, he⟩ := he
     cases he
     have hv := hop x x' g1
     have hi := hop i i' g2
     rw [h1] at hv
     rw [h2] at hi
     refine .same s (u := .int .u8 c.toNat) ?_ (.ir (.int _ _))
     rw [hi.int_inv]; exact sim_indexS hu hv hn hcc
    ·cases he
   ·cases he
  ·rename_i len e x' i' hu g1 g2
   split at hc
   ·rename_i es n hes hn
    cases hc
    simp only [evalOp] at he
    split at he
    ·rename_i cs k j h1 h2
     split at he
     ·rename_i hj
      simp only [Option.map_eq_some_iff] at he
      obtain ⟨v, hv', he⟩ := he
      cases he
      have hv := hop x x' g1
      have hi := hop i i' g2
      rw [h1] at hv
      rw [h2] at hi
      obtain ⟨u, q1, q2⟩ := sim_indexA (w := w) hu hes hn hv (k := k) hj.1 hj.2 hv'
      refine .same s ?_ q2
      rw [hi.int_inv]; exact q1
     ·cases he
    ·cases he
   ·cases hc
  ·cases hc
 | lookup => cases hc
 | mapUpdate => cases hc
 | mapEntry => cases hc
 | entryStore => cases hc
 | range => cases hc
 | next => cases hc
 | entry => cases hc
 | typeAssert => cases hc
 | extract x i =>
  simp only [cOp, Option.map_eq_some_iff] at hc
  obtain ⟨y, hy, rfl⟩ := hc
  simp only [evalOp] at he
  split at he
  ·rename_i vs hx
   simp only [Option.map_eq_some_iff] at he
   obtain ⟨v, hv', he⟩ := he
   cases he
   have hv := hop x y hy
   rw [hx] at hv
   obtain ⟨u, q1, q2⟩ := sim_extract (P := P) (w := w) hv hv'
   exact .same s q1 q2
  ·cases he
 | call c =>
  obtain ⟨callee, args, argTypes⟩ := c
  simp only [cOp, cCall] at hc
  cases callee with
  | value g =>
   exfalso
   cases g with
   | func g =>
    simp only [Option.map_eq_some_iff] at hc
    obtain ⟨as, _, rfl⟩ := hc
    split at hnc
    ·cases hnc
    ·split at hnc <;> cases hnc
   | _ =>
    simp only at hc
    split at hc <;> first
     | (cases hc; cases hnc; done)
     | (cases hc; done)
  | invoke => cases hc
  | builtin bt =>
   cases bt <;> simp only at hc <;> first
    | (cases hc; done)
    | skip
   ·-- append
    split at hc
    ·rename_i x y t u ha ht
     split at hc
     ·rename_i e d hu hd
      split at hc <;> first
       | (cases hc; done)
       | skip
      all_goals
       split at hc
       ·rename_i x' y' es bs z g1 g2 g3 g4 g5
        split at hc
        ·cases hc
        ·rename_i hcond
         cases hc
         simp only [not_or, Decidable.not_not] at hcond
         simp only [evalOp] at he
         obtain ⟨r, w', K', q1, q2, q3, q4⟩ := sim_app (ty := ty) s hu hd (by first | exact .inl rfl | exact .inr ⟨_, rfl⟩) g3 g4 g5 hcond.1 hcond.2 (hop x x' g1) (hop y y' g2) (fun hh => by
          split at hh
          ·rename_i hq; exact ⟨hq, by simpa using hh⟩
          ·cases hh) he
         have ea : args = #[x, y] := by apply Array.ext'; rw [ha]
         have et : argTypes = #[t, u] := by apply Array.ext'; rw [ht]
         subst ea et
         refine ⟨r, w', K', .inl ?_, q2, q3, q4⟩
         have em : (#[x, y] : Array Operand).map a.eval = #[a.eval x, a.eval y] := by simp
         simp only [execOp, resolve, em, Sem.run_bind, Sem.run_pure, Result.andThen_ok, invoke, builtin, q1]
       ·cases hc
     ·cases hc
    ·cases hc
   ·-- len
    split at hc
    ·rename_i x t ha ht
     have ea : args = #[x] := by apply Array.ext'; rw [ha]
     have et : argTypes = #[t] := by apply Array.ext'; rw [ht]
     subst ea et
     have em : (#[x] : Array Operand).map a.eval = #[a.eval x] := by simp
     have run : ∀ {n : Nat}, (Builtin.len_ #[t] ty #[a.eval x]).run P w = .ok (.int .i64 n) w → (execOp a.eval { dst, op := .call { callee := .builtin .len, args := #[x], argTypes := #[t] }, type := ty, pos, after, guard }).run P w = .ok (.value (.int .i64 n)) w := by
      intro n hr
      simp only [execOp, resolve, em, Sem.run_bind, Sem.run_pure, Result.andThen_ok, invoke, builtin, hr]
     split at hc
     ·rename_i hu
      simp only [Option.map_eq_some_iff] at hc
      obtain ⟨y, hy, rfl⟩ := hc
      simp only [evalOp] at he
      have hv := hop x y hy
      split at he
      ·rename_i str hb hx
       cases he
       rw [hx] at hv
       have := run (sim_len (w := w) (.inl hu) hv ty (.inl ⟨_, rfl, rfl, hu⟩))
       rw [this]; exact .val s (.ir (.int _ _))
      ·rename_i hb _; cases hb
      ·cases he
     ·rename_i e hu
      simp only [Option.map_eq_some_iff] at hc
      obtain ⟨y, hy, rfl⟩ := hc
      simp only [evalOp] at he
      have hv := hop x y hy
      split at he
      ·rename_i hb _; cases hb
      ·rename_i o es L hb hx
       cases he
       rw [hx] at hv
       have := run (sim_len (w := w) (.inr ⟨_, hu⟩) hv ty (.inr ⟨_, _, _, rfl, rfl, _, hu⟩))
       rw [this]; exact .val s (.ir (.int _ _))
      ·cases he
     ·cases hc
    ·cases hc
   ·-- min
    split at hc
    ·rename_i x y ha
     split at hc
     ·rename_i x' y' g1 g2
      cases hc
      simp only [evalOp] at he
      split at he
      ·rename_i k n k' m h1 h2
       cases he
       have hx := hop x x' g1
       have hy := hop y y' g2
       rw [h1] at hx
       rw [h2] at hy
       have ea : args = #[x, y] := by apply Array.ext'; rw [ha]
       subst ea
       have em : (#[x, y] : Array Operand).map a.eval = #[.int k n, .int k' m] := by simp [hx.int_inv, hy.int_inv]
       refine ⟨.int k (if m < n then m else n), w, K, .inl ?_, .ir (.int _ _), .refl K w, s⟩
       simp only [execOp, resolve, em, Sem.run_bind, Sem.run_pure, Result.andThen_ok, invoke, builtin, Builtin.min_]
       simp [Builtin.min2]
      ·cases he
     ·cases hc
    ·cases hc
 | go => cases hc
 | defer => cases hc
 | panic => cases hc
 | send => cases hc
 | recv => cases hc
 | select => cases hc
end
end Go.Proofs.YtmngkcpobmhnoaaGreatDoor.Sim
