/-
  The executor of operations: what an operation gives of abstract values and blocks, which tests it leaves to be proved. Hints say which way is taken. No condition.
-/
import Derived.Test.YtgnhhnmpeklciaaVA
namespace Go.Proofs.Ytgnhhnmpeklciaa.VX
open Go

/-- How a piece of code ends. -/
inductive Ex where
  | normal
  | exit (id : Nat)
  | ret
  deriving DecidableEq

abbrev Tm := List (Nat × Value)

inductive Hint where
  | yes
  | no
  | lit (k : Nat)
  | sym
  | call (σ τ : List (Nat × Nat)) (n0 : Nat) (v : Value) (post : Heap)
  | callr (σ : List (Nat × Nat)) (l : List Nat) (τ : List (Nat × Nat)) (n0 : Nat) (v : Value) (post : Heap)
  | seg (live ids : List Nat) (e : Ex) (T' : Tm) (H' : Heap) (n' : Nat)
  | segk (k id : Nat) (live ids : List Nat) (e : Ex) (T' : Tm) (H' : Heap) (n' : Nat)
  | unroll
  | segs (l : List Seg)
  | eq (d : Nat) (w : Value)
  | row (j k : Nat)
  | cut (l h : Nat)
  | symcut
  | asRows
  | asInts
  | group (g : List Nat)
  | among (n : Nat)
  | ext (v : Value)
  | born
  | cutT (l : Nat)
  | lenT (k : Nat)
  | list (l : List Seg)
  | all
  | win (l : List Seg)
  | whole (l : List Seg)

def tget : Tm → Nat → Value
  | [], _ => .tuple ⟨[]⟩
  | (d, v) :: r, t => bif Nat.beq t d then v else tget r t

/-- One place of a row is another. -/
def upd {α : Type} (a : Nat → α) (o : Nat) (x : α) : Nat → α := fun j => bif Nat.beq j o then x else a j

/-- What becomes of a block. -/
inductive Upd where
  | cell (off : Nat) (v : Value)
  | blk (B : Blk)
  | del

def Seg.set : Seg → Nat → Value → Seg
  | .one x, o, v => bif Nat.beq o 0 then .one v else .one x
  | .ints k n a, o, .int k' x => bif k == k' then .ints k n (upd a o x) else .gap n
  | .ints _ n _, _, _ => .gap n
  | .bools n a, o, .bool x => .bools n (upd a o x)
  | .bools n _, _, _ => .gap n
  | .rows n sz _, _, _ => .gap (n * sz)
  | .gap n, _, _ => .gap n

def segsSet : List Seg → Nat → Value → List Seg
  | [], _, _ => []
  | s :: r, o, v => bif Nat.blt o s.size then s.set o v :: r else s :: segsSet r (o - s.size) v

def Blk.set (B : Blk) (o : Nat) (v : Value) : Blk := { B with segs := segsSet B.segs o v }

/-- One update, of a heap as a function. -/
def upd1 (h : HF) (x : Nat × Upd) : HF := fun j =>
  bif Nat.beq j x.1 then
    match x.2 with
    | .blk B => some B
    | .cell o v => (h j).map fun B => B.set o v
    | .del => none
  else h j

def app : List (Nat × Upd) → HF → HF
  | [], h => h
  | x :: r, h => app r (upd1 h x)

/-- The same on lists. -/
def hput : Heap → Nat → Blk → Heap
  | [], i, B => [(i, B)]
  | (j, C) :: r, i, B => bif Nat.beq i j then (i, B) :: r else (j, C) :: hput r i B

def hcell : Heap → Nat → Nat → Value → Heap
  | [], _, _, _ => []
  | (j, C) :: r, i, o, v => bif Nat.beq i j then (j, C.set o v) :: r else (j, C) :: hcell r i o v

def hdel : Heap → Nat → Heap
  | [], _ => []
  | (j, C) :: r, i => bif Nat.beq i j then hdel r i else (j, C) :: hdel r i

def happ : List (Nat × Upd) → Heap → Heap
  | [], h => h
  | (i, .blk B) :: r, h => happ r (hput h i B)
  | (i, .del) :: r, h => happ r (hdel h i)
  | (i, .cell o v) :: r, h => happ r (hcell h i o v)

structure Out where
  v : Value
  eff : List (Nat × Upd)
  rd : List Nat
  sh : List Nat
  new : List Nat
  n : Nat
  hs : List Hint
  ob : List Prop

def look : List (Nat × Nat) → Nat → Option Nat
  | [], _ => none
  | (i, j) :: r, x => bif Nat.beq x i then some j else look r x

/-- A value with other names for its blocks; what has no new name is anything. -/
def rn (σ : List (Nat × Nat)) : Nat → Value → Value
  | _, .func (.yield z) l c => .func (.yield z) l c
  | _, .func (.method s) l c => .func (.method s) l c
  | _, .pointer (some a) => match look σ a.block with
    | some j => .pointer (some ⟨j, a.off, a.spot⟩)
    | none => .tuple ⟨[]⟩
  | _, .slice (some a) l c => match look σ a.block with
    | some j => .slice (some ⟨j, a.off, a.spot⟩) l c
    | none => .tuple ⟨[]⟩
  | d + 1, .agg ⟨cs⟩ => .agg ⟨cs.map (rn σ d)⟩
  | d + 1, .tuple ⟨cs⟩ => .tuple ⟨cs.map (rn σ d)⟩
  | d + 1, .func fn ⟨fs⟩ ⟨cs⟩ => .func fn ⟨fs.map (rn σ d)⟩ ⟨cs.map (rn σ d)⟩
  | d + 1, .iface t v => .iface t (rn σ d v)
  | 0, .agg _ => .tuple ⟨[]⟩
  | 0, .tuple _ => .tuple ⟨[]⟩
  | 0, .func .. => .tuple ⟨[]⟩
  | 0, .iface .. => .tuple ⟨[]⟩
  | _, v => v

def rnS (σ : List (Nat × Nat)) : Seg → Seg
  | .one v => .one (rn σ 6 v)
  | .rows n sz g => .rows n sz (fun i => (g i).map (rn σ 6))
  | s => s

def rnB (σ : List (Nat × Nat)) (B : Blk) : Blk := { B with segs := B.segs.map (rnS σ) }

def swap (σ : List (Nat × Nat)) : List (Nat × Nat) := σ.map fun x => (x.2, x.1)

/-- The variables of the program lie where they lie. -/
def Gl (P : Program) (μ : Mu) : Prop := ∀ g, g < P.globals.size → μ g = some g

/-- A function's contract: with these arguments and these blocks it gives this value, and leaves these blocks. Its blocks have names below n0. -/
structure FnSpec (P : Program) (g : FuncId) (n0 : Nat) (A : List Value) (H : Heap) (v : Value) (H' : Heap) : Prop where
  enters : ∀ (args : Array Value) (w : World), (callFunc g args).run P w = .ok (.enter g args) w
  runs : ∀ (μ : Mu) (w : World) (rargs : List Value), Gl P μ → (∀ i, n0 ≤ i → μ i = none) → VRels μ A rargs → Rep μ (lk H) w →
    Calls P g ⟨rargs⟩ w fun e w' => ∃ μ' rv, (μ.le μ' ∧ ∀ i, i < n0 → μ' i = μ i) ∧ Rep μ' (lk H') w' ∧ VRel μ' v rv ∧ e = .returned rv ∧ Keeps μ (lk H) w μ' (lk H') w'

/-- A function without a body for which the model stands in: at these arguments it gives this value, and leaves the world. -/
def ExtSpec (P : Program) (g : FuncId) (args : List Value) (v : Value) : Prop :=
  args.all solid = true ∧ solid v = true ∧ ∀ w : World, (callFunc g ⟨args⟩).run P w = .ok (.value v) w

def ev (P : Program) (T : Tm) : Operand → Value
  | .tmp t => tget T t
  | .const v => bif flat v then v else .tuple ⟨[]⟩
  | .global g => bif Nat.blt g P.globals.size then .pointer (some ⟨g, 0, none⟩) else .tuple ⟨[]⟩
  | .func f => .func (.func f) ⟨[]⟩ ⟨[]⟩

-- ---------------------------------------------------------------- the operations

def isAggB (P : Program) (t : TypeId) : Option Bool :=
  match P.underlying t with
  | some (.struct _) => some true
  | some (.array _ _) => some true
  | some _ => some false
  | none => none

def sizeB (P : Program) (t : TypeId) : Option Nat := (P.info? t).map (·.size)

def gets (B : Blk) : Nat → Nat → Option (List Value)
  | _, 0 => some []
  | o, n + 1 => match B.get? o with
    | some v => match gets B (o + 1) n with
      | some r => some (v :: r)
      | none => none
    | none => none

/-- The stretch that begins at a place. -/
def segAt : List Seg → Nat → Option Seg
  | [], _ => none
  | s :: r, o => bif Nat.beq o 0 then some s else bif Nat.blt o s.size then none else segAt r (o - s.size)

/-- A stretch behind cells that are not told, at a place that is not known. -/
def gapOb : List Seg → Nat → List Prop
  | [.gap n, _], s => [s = n]
  | _, _ => []
def segAtG : List Seg → Nat → Option Seg
  | [.gap _, sg], _ => some sg
  | l, s => segAt l s

def xload (P : Program) (H : HF) (t : TypeId) : Value → Option (Value × Nat × List Prop)
  | .pointer (some ⟨i, off, none⟩) =>
    match H i, isAggB P t, sizeB P t with
    | some B, some true, some n => (gets B off n).map fun l => (.agg ⟨l⟩, i, [])
    | some B, some false, _ => (B.get? off).map fun v => (v, i, [])
    | _, _, _ => none
  | .pointer (some ⟨i, off, some s⟩) =>
    match H i, isAggB P t with
    | some B, some false =>
      match segAtG B.segs s with
      | some (.ints k n a) => some (.int k (a off), i, gapOb B.segs s ++ [off < n])
      | some (.bools n a) => some (.bool (a off), i, gapOb B.segs s ++ [off < n])
      | _ => none
    | _, _ => none
  | _ => none

def storable : Value → Bool
  | .agg _ => false
  | .tuple _ => false
  | .chan none => false
  | _ => true

def cellsEff (i : Nat) : Nat → List Value → List (Nat × Upd)
  | _, [] => []
  | o, v :: r => (i, .cell o v) :: cellsEff i (o + 1) r

/-- A stretch is turned at a place that is a term. -/
def segPut : List Seg → Nat → Nat → Value → Option (List Seg × Nat)
  | [], _, _, _ => none
  | s :: r, st, o, v =>
    bif Nat.beq st 0 then
      match s, v with
      | .ints k n a, .int k' x => bif k == k' then some (.ints k n (upd a o x) :: r, n) else none
      | .bools n a, .bool x => some (.bools n (upd a o x) :: r, n)
      | _, _ => none
    else bif Nat.blt st s.size then none else
      match segPut r (st - s.size) o v with
      | some (r', n) => some (s :: r', n)
      | none => none

inductive StoreOut where
  | cells (i off : Nat) (vs : List Value)
  | whole (i : Nat) (B : Blk) (ob : Prop)

def xstore (P : Program) (H : HF) (t : TypeId) (p v : Value) : Option StoreOut :=
  match p with
  | .pointer (some ⟨i, off, none⟩) =>
    match H i, sizeB P t with
    | some B, some n =>
      bif !B.ro && Nat.beq v.cells.toList.length n && v.cells.toList.all storable && Nat.ble (off + n) B.size then some (.cells i off v.cells.toList) else none
    | _, _ => none
  | .pointer (some ⟨i, off, some s⟩) =>
    match H i, sizeB P t with
    | some B, some 1 =>
      bif !B.ro && storable v then
        match segPut B.segs s off v with
        | some (l, n) => some (.whole i { B with segs := l } (off < n))
        | none => none
      else none
    | _, _ => none
  | _ => none

/-- All truths of a list of truths. -/
def boolsOf : List Value → Option (List Bool)
  | [] => some []
  | .bool b :: r => (boolsOf r).map (b :: ·)
  | _ => none

/-- All numbers of a list of numbers of one kind. -/
def strsOf : List Value → Option (List ByteArray)
  | [] => some []
  | .string s :: r => (strsOf r).map (s :: ·)
  | _ => none

def intsOf (k : IntKind) : List Value → Option (List Int)
  | [] => some []
  | .int k' n :: r => bif k == k' then (intsOf k r).map (n :: ·) else none
  | _ => none

/-- Cells as stretches: of one cell each, or rows of integers of one kind. -/
def groupSegs : List Nat → List Value → Option (List Seg)
  | [], [] => some []
  | [], _ :: _ => none
  | n :: r, c :: cs => bif Nat.beq n 1 then (groupSegs r cs).map (.one c :: ·) else
      match c with
      | .int k _ => match intsOf k ((c :: cs).take n) with
        | some ns => bif Nat.beq ns.length n then (groupSegs r ((c :: cs).drop n)).map (.ints k n (fun j => ns.getD j 0) :: ·) else none
        | none => none
      | _ => none
  | _ :: _, [] => none

def mulSz (i size : Nat) : Nat := bif Nat.beq size 1 then i else i * size

/-- Two values held against each other, by their type: what the model's equality gives, of values without addresses. -/
def eqv (P : Program) : Nat → TypeId → Value → Value → Option Bool
  | 0, _, _, _ => none
  | d + 1, t, x, y =>
    match P.underlying t, x, y with
    | some .bool, .bool a, .bool b => some (a == b)
    | some (.int _), .int k a, .int k' b => bif k == k' then some (a == b) else none
    | some .string, .string a, .string b => some (a == b)
    | some (.pointer _), .pointer none, .pointer b => some b.isNone
    | some (.pointer _), .pointer (some _), .pointer none => some false
    | some (.slice _), .slice none _ _, .slice b _ _ => some b.isNone
    | some (.slice _), .slice (some _) _ _, .slice none _ _ => some false
    | some (.struct fs), .agg ⟨xs⟩, .agg ⟨ys⟩ =>
      bif (P.stoodInAs t).isEmpty then
        fs.toList.foldr (fun f acc =>
          match acc with
          | none => none
          | some b => bif f.name == "_" then none else
            match isAggB P f.type, sizeB P f.type with
            | some true, some n => match eqv P d f.type (.agg ⟨(xs.drop f.offset).take n⟩) (.agg ⟨(ys.drop f.offset).take n⟩) with
              | some c => some (c && b)
              | none => none
            | some false, _ => match xs[f.offset]?, ys[f.offset]? with
              | some p, some q => match eqv P d f.type p q with
                | some c => some (c && b)
                | none => none
              | _, _ => none
            | _, _ => none) (some true)
      else none
    | _, _, _ => none

/-- The bits of two numbers of a kind. -/
def bAnd (k : IntKind) (a b : Int) : Int := k.wrap (BitVec.ofInt k.bits a &&& BitVec.ofInt k.bits b).toNat
def bOr (k : IntKind) (a b : Int) : Int := k.wrap (BitVec.ofInt k.bits a ||| BitVec.ofInt k.bits b).toNat
def bXor (k : IntKind) (a b : Int) : Int := k.wrap (BitVec.ofInt k.bits a ^^^ BitVec.ofInt k.bits b).toNat
def bAndNot (k : IntKind) (a b : Int) : Int := k.wrap (BitVec.ofInt k.bits a &&& ~~~BitVec.ofInt k.bits b).toNat
def bShl (k : IntKind) (a b : Int) : Int := k.wrap (a * 2 ^ (min b.toNat k.bits))
def bShr (k : IntKind) (a b : Int) : Int := a.fdiv (2 ^ (min b.toNat k.bits))

def isNilB : Value → Bool
  | .pointer none => true
  | _ => false

/-- An address that is told without its stretch. -/
def untag : Option Addr → Bool
  | some ⟨_, _, some _⟩ => false
  | _ => true

/-- An operator on two values: what it gives, and what must hold. -/
def xbin (P : Program) (op : BinOp) (t : TypeId) (x y : Value) : Option (Value × List Prop) :=
  match op, x, y with
  | .shl, .int k a, .int _ b => some (.int k (bShl k a b), [0 ≤ b])
  | .shr, .int k a, .int _ b => some (.int k (bShr k a b), [0 ≤ b])
  | .add, .int k a, .int k' b => bif k == k' then some (.int k (k.wrap (a + b)), []) else none
  | .sub, .int k a, .int k' b => bif k == k' then some (.int k (k.wrap (a - b)), []) else none
  | .mul, .int k a, .int k' b => bif k == k' then some (.int k (k.wrap (a * b)), []) else none
  | .quo, .int k a, .int k' b => bif k == k' then some (.int k (k.wrap (a.tdiv b)), [b ≠ 0]) else none
  | .rem, .int k a, .int k' b => bif k == k' then some (.int k (a.tmod b), [b ≠ 0]) else none
  | .and, .int k a, .int k' b => bif k == k' then some (.int k (bAnd k a b), []) else none
  | .or, .int k a, .int k' b => bif k == k' then some (.int k (bOr k a b), []) else none
  | .xor, .int k a, .int k' b => bif k == k' then some (.int k (bXor k a b), []) else none
  | .andNot, .int k a, .int k' b => bif k == k' then some (.int k (bAndNot k a b), []) else none
  | .eql, .int k a, .int k' b => bif k == k' then some (.bool (a == b), []) else none
  | .neq, .int k a, .int k' b => bif k == k' then some (.bool (a != b), []) else none
  | .lss, .int k a, .int k' b => bif k == k' then some (.bool (decide (a < b)), []) else none
  | .leq, .int k a, .int k' b => bif k == k' then some (.bool (decide (a ≤ b)), []) else none
  | .gtr, .int k a, .int k' b => bif k == k' then some (.bool (decide (a > b)), []) else none
  | .geq, .int k a, .int k' b => bif k == k' then some (.bool (decide (a ≥ b)), []) else none
  | .eql, .string a, .string b => some (.bool (a.toList == b.toList), [])
  | .neq, .string a, .string b => some (.bool !(a.toList == b.toList), [])
  | .add, .string a, .string b => some (.string (a ++ b), [a.size + b.size ≤ 1073741824])
  | .eql, .agg ⟨a⟩, .agg ⟨b⟩ => bif a.all scalar && b.all scalar && !P.eqGuardType P.depth t then (eqv P 10000 t (.agg ⟨a⟩) (.agg ⟨b⟩)).map fun c => (.bool c, []) else none
  | .neq, .agg ⟨a⟩, .agg ⟨b⟩ => bif a.all scalar && b.all scalar && !P.eqGuardType P.depth t then (eqv P 10000 t (.agg ⟨a⟩) (.agg ⟨b⟩)).map fun c => (.bool (!c), []) else none
  | .eql, .bool a, .bool b => (eqv P 10000 t (.bool a) (.bool b)).map fun c => (.bool c, [])
  | .neq, .bool a, .bool b => (eqv P 10000 t (.bool a) (.bool b)).map fun c => (.bool (!c), [])
  | .eql, .pointer a, .pointer b => (eqv P 10000 t (.pointer a) (.pointer b)).map fun c => (.bool c, [])
  | .neq, .pointer a, .pointer b => (eqv P 10000 t (.pointer a) (.pointer b)).map fun c => (.bool (!c), [])
  | .eql, .slice a l c, .slice b l' c' => bif untag a && untag b then (eqv P 10000 t (.slice a l c) (.slice b l' c')).map fun c => (.bool c, []) else none
  | .neq, .slice a l c, .slice b l' c' => bif untag a && untag b then (eqv P 10000 t (.slice a l c) (.slice b l' c')).map fun c => (.bool (!c), []) else none
  | _, _, _ => none

def xun (op : UnOp) (x : Value) : Option Value :=
  match op, x with
  | .not, .bool b => some (.bool !b)
  | .neg, .int k n => some (.int k (k.wrap (0 - n)))
  | .xor, .int k n => some (.int k (bXor k (if k.signed then -1 else k.max) n))
  | _, _ => none

def xconv (P : Program) (dst : TypeId) (x : Value) : Option Value :=
  match P.underlying dst, x with
  | some (.int k), .int _ n => some (.int k (k.wrap n))
  | _, _ => none

def strAt (s : ByteArray) (i : Nat) : Int := (s.data.getD i 0).toNat

def spread : Nat → List Value → List Value → List Value → List Value
  | _, _, _, acc => acc

/-- Parts laid into cells, as the model does. -/
def xfill (place : Nat → Option (Nat × Nat)) (cells : Array Value) (parts : List (Nat × Value)) : Option (Array Value) := Instr.fill place cells parts

def swapOk (σ : List (Nat × Nat)) (n0 : Nat) : Bool :=
  σ.all fun x => (match look (swap σ) x.2 with | some i => Nat.beq i x.1 | none => false) && (match look σ x.1 with | some j => Nat.beq j x.2 | none => false) &&
    Nat.blt x.2 n0 && (Nat.ble 1000 x.2 || Nat.beq x.1 x.2)

def newOk (τ σ : List (Nat × Nat)) (n0 : Nat) : Nat → Bool := fun n =>
  match τ with
  | [] => true
  | (j, i) :: r => Nat.beq i n && Nat.ble n0 j && (look σ i).isNone && newOk r σ n0 (n + 1)

/-- Each new name's block is told of behind the call. -/
def postHas (post : Heap) (τ : List (Nat × Nat)) : List (Nat × Nat) → Bool
  | [] => true
  | (j, i) :: r => (lk post j).isSome && (match look τ j with | some k => Nat.beq k i | none => false) && postHas post τ r

def nodupIds : Heap → Bool
  | [] => true
  | (i, _) :: r => (lk r i).isNone && nodupIds r

def renBack (σ τ : List (Nat × Nat)) : List (Nat × Nat) := swap σ ++ τ

def subHeap (H : HF) (σ : List (Nat × Nat)) : List (Nat × Nat) → Option Heap
  | [] => some []
  | (i, j) :: r => match H i, subHeap H σ r with
    | some B, some h => some ((j, rnB σ B) :: h)
    | _, _ => none

def postEff (ρ : List (Nat × Nat)) : Heap → Option (List (Nat × Upd))
  | [] => some []
  | (j, B) :: r => match look ρ j, postEff ρ r with
    | some i, some e => some ((i, .blk (rnB ρ B)) :: e)
    | _, _ => none

def roB : Option Blk → Bool
  | some B => B.ro
  | none => false

/-- What was handed over, isn't 'ro' and didn't come back is gone. -/
def goneEff (H : HF) (post : Heap) : List (Nat × Nat) → List (Nat × Upd)
  | [] => []
  | (i, j) :: r => bif roB (H i) || (lk post j).isSome then goneEff H post r else (i, .del) :: goneEff H post r

/-- A call by its contract. -/
def xcall (P : Program) (H : HF) (n : Nat) (g : FuncId) (args : List Value) : List Hint → Option Out
  | .call σ τ n0 v post :: hs =>
    match subHeap H σ σ with
    | some h0 =>
      match postEff (renBack σ τ) post with
      | some e =>
        bif swapOk σ n0 && newOk τ σ n0 n && (nodupIds post && postHas post τ τ) && Nat.ble 1000 n0 then
          some { v := rn (renBack σ τ) 6 v, eff := goneEff H post σ ++ e, rd := σ.map (·.1), sh := [], new := τ.map (·.2), n := n + τ.length, hs,
                 ob := [FnSpec P g n0 (args.map (rn σ 6)) h0 v post] }
        else none
      | none => none
    | none => none
  | _ => none

/-- A block that is lent for reading: nobody writes it till it is given back. -/
def Blk.lend (B : Blk) : Blk := { B with ro := true }

def memN (x : Nat) : List Nat → Bool
  | [] => false
  | y :: r => Nat.beq x y || memN x r

def roH (l : List Nat) (H : HF) : HF := fun i => bif memN i l then (H i).map Blk.lend else H i

/-- The effects of a call that leave what is lent alone. -/
def lendOk (l : List Nat) : List (Nat × Upd) → Bool
  | [] => true
  | (i, u) :: r => !memN i l && (match u with | .blk B => !B.ro | .del => true | .cell .. => false) && lendOk l r

/-- A call, to which blocks may be lent. -/
def xcallA (P : Program) (H : HF) (n : Nat) (g : FuncId) (args : List Value) (hs : List Hint) : Option Out :=
  match hs with
  | .callr σ l τ n0 v post :: hs' =>
    match xcall P (roH l H) n g args (.call σ τ n0 v post :: hs') with
    | some out => bif lendOk l out.eff then some out else none
    | none => none
  | .ext v :: hs' => some { v, eff := [], rd := [], sh := [], new := [], n, hs := hs', ob := [ExtSpec P g args v] }
  | hs => xcall P H n g args hs

def silent (v : Value) (n : Nat) (hs : List Hint) (ob : List Prop) : Out := { v, eff := [], rd := [], sh := [], new := [], n, hs, ob }

def cellsBlk (cs : List Value) (t : TypeId) : Blk := { segs := cs.map .one, ty := t, ro := false }

def newBlk (n : Nat) (B : Blk) (v : Value) (hs : List Hint) (ob : List Prop) : Out := { v, eff := [(n, .blk B)], rd := [], sh := [], new := [n], n := n + 1, hs, ob }

def takeB (b : Bool) : List Hint → Option (Bool × List Hint × List Prop)
  | .yes :: hs => some (true, hs, [b = true])
  | .no :: hs => some (false, hs, [b = false])
  | _ => none

/-- An address at an index. -/
def xat (i off : Nat) (s : Option Nat) (len size : Nat) (ix : Int) : List Hint → Option (Value × List Hint × List Prop)
  | .lit k :: hs => some (.pointer (some ⟨i, off + k * size, s⟩), hs, [ix = (k : Int), k < len])
  | .sym :: hs =>
    match s with
    | none => some (.pointer (some ⟨i, mulSz ix.toNat size, some off⟩), hs, [0 ≤ ix ∧ ix < (len : Int)])
    | some _ => some (.pointer (some ⟨i, bif Nat.beq off 0 then mulSz ix.toNat size else off + mulSz ix.toNat size, s⟩), hs, [0 ≤ ix ∧ ix < (len : Int)])
  | _ => none

/-- Cells that are all as a stretch says. -/
def matchInts (k : IntKind) (a : Nat → Int) : Nat → Nat → List Value → Option (List Value)
  | 0, _, l => some l
  | n + 1, j, .int k' x :: l => bif k == k' && x == a j then matchInts k a n (j + 1) l else none
  | _ + 1, _, _ => none
def matchBools (a : Nat → Bool) : Nat → Nat → List Value → Option (List Value)
  | 0, _, l => some l
  | n + 1, j, .bool x :: l => bif x == a j then matchBools a n (j + 1) l else none
  | _ + 1, _, _ => none
/-- A value without parts, held against another one. -/
def sameScalar : Value → Value → Bool
  | .bool a, .bool b => a == b
  | .int k a, .int k' b => k == k' && a == b
  | .pointer none, .pointer none => true
  | .slice none a b, .slice none c d => Nat.beq a 0 && Nat.beq b 0 && (Nat.beq c 0 && Nat.beq d 0)
  | .map none, .map none => true
  | .nilFunc, .nilFunc => true
  | .nilIface, .nilIface => true
  | .string a, .string b => Nat.beq a.size 0 && Nat.beq b.size 0
  | _, _ => false
def matchSegs : List Seg → List Value → Bool
  | [], [] => true
  | .one v :: r, c :: l => sameScalar v c && matchSegs r l
  | .ints k n a :: r, l => match matchInts k a n 0 l with
    | some l' => matchSegs r l'
    | none => false
  | .bools n a :: r, l => match matchBools a n 0 l with
    | some l' => matchSegs r l'
    | none => false
  | _, _ => false

def allScalar : List (Nat × Value) → Bool
  | [] => true
  | (_, v) :: r => flat v && allScalar r

def placesOf (P : Program) (fields : List Field) : Option (List (Nat × Nat)) :=
  match fields with
  | [] => some []
  | f :: r => match sizeB P f.type, placesOf P r with
    | some n, some l => some ((f.offset, n) :: l)
    | _, _ => none

/-- Cells laid over cells from a place on. -/
def lay (cells : List Value) (off : Nat) : List Value → List Value
  | [] => cells
  | c :: r => lay (cells.set off c) (off + 1) r

def layAll (place : Nat → Option (Nat × Nat)) : List (Nat × Value) → List Value → Option (List Value)
  | [], cells => some cells
  | (i, v) :: r, cells =>
    match place i with
    | none => none
    | some (off, size) =>
      bif Nat.beq v.cells.toList.length size && Nat.ble (off + size) cells.length && v.cells.toList.all storable then layAll place r (lay cells off v.cells.toList) else none

/-- Stretches that say of cells what they are. -/
def SegsOk (l : List Seg) (cs : List Value) : Prop := segsSize l = cs.length ∧ ∀ o v, segsGet? l o = some v → cs[o]? = some v

def repeatCells (zero : List Value) : Nat → List Value
  | 0 => []
  | n + 1 => zero ++ repeatCells zero n

def xop0 (P : Program) (ρ : Operand → Value) (H : HF) (n : Nat) (hs : List Hint) (o : Oper) : Option Out :=
  match o.op with
  | .move x => some (silent (ρ x) n hs [])
  | .assign x => some (silent (ρ x) n hs [])
  | .pick c a b =>
    match ρ c with
    | .bool t => match takeB t hs with
      | some (d, hs, ob) => some (silent (bif d then ρ a else ρ b) n hs ob)
      | none => none
    | _ => none
  | .alloc e =>
    match P.info? e with
    | some i => match i.zero with
      | some z => bif flat z then
          match hs with
          | .segs l :: hs => bif matchSegs l z.cells.toList then some (newBlk n { segs := l, ty := e, ro := false } (.pointer (some ⟨n, 0, none⟩)) hs []) else none
          | _ => some (newBlk n (cellsBlk z.cells.toList e) (.pointer (some ⟨n, 0, none⟩)) hs [])
        else none
      | none => none
    | none => none
  | .box e x => bif (ρ x).cells.toList.all storable then
      match hs with
      | .group g :: hs => (groupSegs g (ρ x).cells.toList).map fun l => newBlk n { segs := l, ty := e, ro := false } (.pointer (some ⟨n, 0, none⟩)) hs []
      | .segs l :: hs => bif matchSegs l (ρ x).cells.toList then some (newBlk n { segs := l, ty := e, ro := false } (.pointer (some ⟨n, 0, none⟩)) hs []) else none
      | _ => some (newBlk n (cellsBlk (ρ x).cells.toList e) (.pointer (some ⟨n, 0, none⟩)) hs [])
    else none
  | .load t p =>
    match xload P H t (ρ p) with
    | some (v, i, ob) => some { v, eff := [], rd := [i], sh := [], new := [], n, hs, ob }
    | none => none
  | .store t p x =>
    match xstore P H t (ρ p) (ρ x) with
    | some (.cells i off vs) => some { v := .tuple ⟨[]⟩, eff := cellsEff i off vs, rd := [], sh := [i], new := [], n, hs, ob := [] }
    | some (.whole i B ob) => some { v := .tuple ⟨[]⟩, eff := [(i, .blk B)], rd := [i], sh := [], new := [], n, hs, ob := [ob] }
    | none => none
  | .nilCheck x =>
    match ρ x with
    | .pointer (some a) => some (silent (.pointer (some a)) n hs [])
    | .func (.func f) fs cs => some (silent (.func (.func f) fs cs) n hs [])
    | _ => none
  | .binOp op t x y _ =>
    match xbin P op t (ρ x) (ρ y) with
    | some (v, ob) => some (silent v n hs ob)
    | none => none
  | .unOp op _ x => (xun op (ρ x)).map fun v => silent v n hs []
  | .convert src dst x => match (P.underlying src).isSome with
    | true => (xconv P dst (ρ x)).map fun v => silent v n hs []
    | false => none
  | .fieldAddr s p f =>
    match ρ p, P.underlying s with
    | .pointer (some ⟨i, off, sp⟩), some (.struct fields) =>
      match fields[f]? with
      | some fd => match sizeB P fd.type with
        | some (_ + 1) => some (silent (.pointer (some ⟨i, off + fd.offset, sp⟩)) n hs [])
        | _ => none
      | none => none
    | _, _ => none
  | .field t x f =>
    match ρ x, P.underlying t with
    | .agg ⟨cs⟩, some (.struct fields) =>
      match fields[f]? with
      | some fd => match isAggB P fd.type, sizeB P fd.type with
        | some true, some m => some (silent (.agg ⟨(cs.drop fd.offset).take m⟩) n hs [])
        | some false, _ => (cs[fd.offset]?).map fun v => silent v n hs []
        | _, _ => none
      | none => none
    | _, _ => none
  | .indexAddr t x ix =>
    match ρ ix, P.underlying t, ρ x with
    | .int _ i, some (.array len e), .pointer (some ⟨b, off, sp⟩) =>
      match sizeB P e with
      | some size => match xat b off sp len size i hs with
        | some (v, hs, ob) => some (silent v n hs ob)
        | none => none
      | none => none
    | .int _ i, some (.slice e), .slice (some ⟨b, off, sp⟩) len _ =>
      match sizeB P e with
      | some size => match xat b off sp len size i hs with
        | some (v, hs, ob) => some (silent v n hs ob)
        | none => none
      | none => none
    | _, _, _ => none
  | .index t x ix =>
    match ρ ix, P.underlying t, ρ x with
    | .int _ i, some (.array len e), .agg ⟨cs⟩ =>
      match isAggB P e, sizeB P e, hs with
      | some false, some 1, .lit k :: hs => (cs[k]?).map fun v => silent v n hs [i = (k : Int), k < len]
      | some false, some 1, .sym :: hs => match cs with
        | .int k z :: r => (intsOf k (.int k z :: r)).map fun l => silent (.int k (l.getD i.toNat 0)) n hs [0 ≤ i ∧ i < (len : Int), l.length = len]
        | _ => none
      | _, _, _ => none
    | .int _ i, some .string, .string s => some (silent (.int .u8 (strAt s i.toNat)) n hs [0 ≤ i ∧ i < (s.size : Int)])
    | _, _, _ => none
  | .extract x i =>
    match ρ x with
    | .tuple ⟨vs⟩ => (vs[i]?).map fun v => silent v n hs []
    | _ => none
  | .build t parts =>
    match P.info? t, P.underlying t with
    | some inf, some (.struct fields) =>
      match inf.zero, placesOf P fields.toList with
      | some z, some pl => bif flat z then
          (layAll (fun i => pl[i]?) (parts.toList.map fun p => (p.1, ρ p.2)) z.cells.toList).map fun l => silent (.agg ⟨l⟩) n hs []
        else none
      | _, _ => none
    | some inf, some (.array _ e) =>
      match inf.zero, sizeB P e with
      | some z, some sz => bif flat z then
          (layAll (fun i => some (i * sz, sz)) (parts.toList.map fun p => (p.1, ρ p.2)) z.cells.toList).map fun l => silent (.agg ⟨l⟩) n hs []
        else none
      | _, _ => none
    | _, _ => none
  | .buildSlice t (len + 1) parts =>
    match P.underlying t with
    | some (.slice e) =>
      match P.info? e with
      | some inf =>
        match inf.zero with
        | some z =>
          bif flat z && Nat.beq z.cells.toList.length inf.size && Nat.ble 1 inf.size && Nat.ble ((len + 1) * inf.size) 16777216 then
            (layAll (fun i => some (i * inf.size, inf.size)) (parts.toList.map fun p => (p.1, ρ p.2)) (repeatCells z.cells.toList (len + 1))).map fun l =>
              match hs with
              | .list S :: hs' => newBlk n { segs := S, ty := e, ro := false } (.slice (some ⟨n, 0, some 0⟩) (len + 1) inf.size) hs' [SegsOk S l]
              | hs => newBlk n (cellsBlk l e) (.slice (some ⟨n, 0, none⟩) (len + 1) inf.size) hs []
          else none
        | none => none
      | none => none
    | _ => none
  | .makeFunc (.func f) first captured => some (silent (.func (.func f) ⟨first.toList.map ρ⟩ ⟨captured.toList.map ρ⟩) n hs [])
  | .call c =>
    match c.callee with
    | .value f =>
      match ρ f with
      | .func (.func g) ⟨fs⟩ ⟨cs⟩ => xcallA P H n g (fs ++ c.args.toList.map ρ ++ cs) hs
      | _ => none
    | .builtin .len =>
      match c.argTypes[0]?, c.args.toList with
      | some t, [x] =>
        match P.underlying t, ρ x with
        | some .string, .string s => some (silent (.int .i64 s.size) n hs [])
        | some (.array m _), _ => some (silent (.int .i64 m) n hs [])
        | some (.slice _), .slice _ m _ => some (silent (.int .i64 m) n hs [])
        | _, _ => none
      | _, _ => none
    | _ => none
  | _ => none

set_option linter.unusedVariables false

/-- The cells of a slice that is laid behind another one; how many elements; what is read; what must hold. -/
def ycells (H : HF) (sz : Nat) : Value → Option (List Value × Nat × List Nat × List Prop)
  | .slice (some ⟨i, off, none⟩) m _ =>
    match H i with
    | some B => (gets B off (m * sz)).map fun l => (l, m, [i], [])
    | none => none
  | .func (.yield z) ⟨l⟩ ⟨[.bool f]⟩ => bif Nat.beq z sz && Nat.beq (l.length / z * z) l.length then some (l, l.length / z, [], [f = true]) else none
  | _ => none

/-- Cells behind a block's stretches. -/
def addSegs : List Seg → List Value → List Seg
  | [.ints k n a], [.int k' x] => bif k == k' then [.ints k (n + 1) (upd a n x)] else [.ints k n a, .one (.int k' x)]
  | [.rows n sz g], cs => bif Nat.beq cs.length sz then [.rows (n + 1) sz (upd g n cs)] else .rows n sz g :: cs.map .one
  | l, cs => l ++ cs.map .one

/-- A first stretch. -/
def firstSegs (sz : Nat) (cs : List Value) : List Hint → List Seg × List Hint
  | .asRows :: hs => (bif Nat.beq cs.length sz then [.rows 1 sz fun _ => cs] else cs.map .one, hs)
  | .asInts :: hs => (match cs with | [.int k x] => [.ints k 1 fun _ => x] | _ => cs.map .one, hs)
  | hs => (cs.map .one, hs)

def zeroOk (inf : TypeInfo) : Bool := match inf.zero with
  | some z => Nat.beq z.cells.toList.length inf.size
  | none => false

def xappend (P : Program) (ρ : Operand → Value) (H : HF) (n : Nat) (hs : List Hint) (c : Call) : Option Out :=
  match c.argTypes.toList, c.args.toList with
  | [tx, ty], [x, y] =>
    match P.underlying tx, P.underlying ty with
    | some (.slice e), some (.slice _) =>
      match P.info? e with
      | some inf =>
        match ycells H inf.size (ρ y) with
        | some (cs, m, rd, ob) =>
          bif Nat.ble 1 inf.size && Nat.ble inf.bytes 1048576 && zeroOk inf && Nat.ble 1 m && Nat.beq cs.length (m * inf.size) && cs.all storable then
            match ρ x with
            | .slice none 0 0 =>
              let q := firstSegs inf.size cs hs
              some { v := .slice (some ⟨n, 0, none⟩) m inf.size, eff := [(n, .blk { segs := q.1, ty := e, ro := false })], rd, sh := [], new := [n], n := n + 1, hs := q.2, ob := (m ≤ 1048576) :: ob }
            | .func (.yield 0) ⟨[]⟩ ⟨[.bool f]⟩ =>
              let q := firstSegs inf.size cs hs
              some { v := .slice (some ⟨n, 0, none⟩) m inf.size, eff := [(n, .blk { segs := q.1, ty := e, ro := false })], rd, sh := [], new := [n], n := n + 1, hs := q.2, ob := (f = true) :: (m ≤ 1048576) :: ob }
            | .slice (some ⟨i, 0, none⟩) len z =>
              match H i with
              | some B =>
                bif Nat.beq z inf.size && !B.ro && Nat.beq B.ty e then
                  some { v := .slice (some ⟨n, 0, none⟩) (len + m) inf.size, eff := [(i, .del), (n, .blk { segs := addSegs B.segs cs, ty := e, ro := false })], rd := i :: rd, sh := [], new := [n], n := n + 1, hs,
                         ob := (len + m ≤ 1048576) :: (B.size = len * inf.size) :: ob }
                else none
              | none => none
            | .slice (some ⟨i, 0, some 0⟩) len z =>
              match H i, hs with
              | some B, .list l :: hs' =>
                bif Nat.beq z inf.size && !B.ro && Nat.beq B.ty e then
                  some { v := .slice (some ⟨n, 0, some 0⟩) (len + m) inf.size, eff := [(i, .del), (n, .blk { segs := l, ty := e, ro := false })], rd := i :: rd, sh := [], new := [n], n := n + 1, hs := hs',
                         ob := (addSegs B.segs cs = l) :: (len + m ≤ 1048576) :: (B.size = len * inf.size) :: ob }
                else none
              | _, _ => none
            | _ => none
          else none
        | none => none
      | none => none
    | _, _ => none
  | _, _ => none

/-- Cells that are there, and may be stored. -/
def AllStor (l : List Seg) (k : Nat) : Prop := ∀ o, o < k → ∃ v, segsGet? l o = some v ∧ storable v = true

/-- A list behind an empty slice. -/
def xappendL (P : Program) (ρ : Operand → Value) (H : HF) (n : Nat) (hs : List Hint) (c : Call) : Option Out :=
  match c.argTypes.toList, c.args.toList with
  | [tx, ty], [x, y] =>
    match P.underlying tx, P.underlying ty with
    | some (.slice e), some (.slice _) =>
      match P.info? e with
      | some inf =>
        match ρ x, ρ y with
        | .func (.yield 0) ⟨[]⟩ ⟨[.bool f]⟩, .slice (some ⟨j, 0, some 0⟩) m z =>
          match H j with
          | some B =>
            bif Nat.ble 1 inf.size && Nat.ble inf.bytes 1048576 && zeroOk inf && Nat.beq z inf.size then
              some { v := .slice (some ⟨n, 0, some 0⟩) m inf.size, eff := [(n, .blk { segs := B.segs, ty := e, ro := false })], rd := [j], sh := [], new := [n], n := n + 1, hs, ob := [f = true, m ≤ 1048576, B.size = m * inf.size, AllStor B.segs (m * inf.size)] }
            else none
          | none => none
        | _, _ => none
      | none => none
    | _, _ => none
  | _, _ => none

/-- The values of a stretch from a place on. -/
def winL (f : Nat → Value) : Nat → Nat → List Value
  | _, 0 => []
  | o, m + 1 => f o :: winL f (o + 1) m
/-- The numbers of a slice that lies in a stretch, as many as its length (a literal) tells. -/
def ycellsW (H : HF) : Value → Option (List Value × Nat × List Nat × List Prop)
  | .slice (some ⟨i, off, some s⟩) m _ =>
    match H i with
    | some B => match segAt B.segs s with
      | some (.ints k n a) => some (winL (fun o => .int k (a (off + o))) 0 m, m, [i], [off + m ≤ n])
      | _ => none
    | none => none
  | _ => none
/-- Cells behind stretches, as other stretches. -/
def Behind (l : List Seg) (cs : List Value) (S : List Seg) : Prop :=
  segsSize S = segsSize l + cs.length ∧ ∀ o v, segsGet? S o = some v → (o < segsSize l ∧ segsGet? l o = some v) ∨ (segsSize l ≤ o ∧ cs[o - segsSize l]? = some v)
/-- Numbers of a stretch behind an empty slice, or behind a list. -/
def xappendW (P : Program) (ρ : Operand → Value) (H : HF) (n : Nat) (l : List Seg) (hs : List Hint) (c : Call) : Option Out :=
  match c.argTypes.toList, c.args.toList with
  | [tx, ty], [x, y] =>
    match P.underlying tx, P.underlying ty with
    | some (.slice e), some (.slice _) =>
      match P.info? e with
      | some inf =>
        match ycellsW H (ρ y) with
        | some (cs, m, rd, ob) =>
          bif Nat.ble 1 inf.size && Nat.ble inf.bytes 1048576 && zeroOk inf && Nat.ble 1 m && Nat.beq cs.length (m * inf.size) && cs.all storable then
            match ρ x with
            | .func (.yield 0) ⟨[]⟩ ⟨[.bool f]⟩ =>
              some { v := .slice (some ⟨n, 0, some 0⟩) m inf.size, eff := [(n, .blk { segs := l, ty := e, ro := false })], rd, sh := [], new := [n], n := n + 1, hs, ob := (f = true) :: Behind [] cs l :: (m ≤ 1048576) :: ob }
            | .slice (some ⟨i, 0, some 0⟩) len z =>
              match H i with
              | some B =>
                bif Nat.beq z inf.size && !B.ro && Nat.beq B.ty e then
                  some { v := .slice (some ⟨n, 0, some 0⟩) (len + m) inf.size, eff := [(i, .del), (n, .blk { segs := l, ty := e, ro := false })], rd := i :: rd, sh := [], new := [n], n := n + 1, hs,
                         ob := Behind B.segs cs l :: (len + m ≤ 1048576) :: (B.size = len * inf.size) :: ob }
                else none
              | none => none
            | _ => none
          else none
        | none => none
      | none => none
    | _, _ => none
  | _, _ => none

/-- Nothing behind nothing: a list of nothing. -/
def xappendN (P : Program) (ρ : Operand → Value) (n : Nat) (l : List Seg) (hs : List Hint) (c : Call) : Option Out :=
  match c.argTypes.toList, c.args.toList with
  | [tx, ty], [x, y] =>
    match P.underlying tx, P.underlying ty with
    | some (.slice e), some (.slice _) =>
      match P.info? e with
      | some inf =>
        match ρ x, ρ y with
        | .func (.yield 0) ⟨[]⟩ ⟨[.bool f]⟩, .func (.method "") ⟨[]⟩ ⟨[.bool true]⟩ =>
          some { v := .slice (some ⟨n, 0, some 0⟩) 0 inf.size, eff := [(n, .blk { segs := l, ty := e, ro := false })], rd := [], sh := [], new := [n], n := n + 1, hs, ob := [f = true, segsSize l = 0] }
        | _, _ => none
      | none => none
    | _, _ => none
  | _, _ => none

/-- Stretches of noughts, as many as are there at most. -/
def Noughts (k : IntKind) (C : Nat) (S : List Seg) : Prop := segsSize S ≤ C ∧ ∀ o v, segsGet? S o = some v → o < C ∧ v = .int k 0
/-- A slice of noughts. -/
def xmake (P : Program) (ρ : Operand → Value) (n : Nat) (hs : List Hint) (t : TypeId) (l c : Operand) : Option Out :=
  match hs, ρ l, ρ c, P.underlying t with
  | .cut L C :: .list S :: hs', .int _ a, .int _ b, some (.slice e) =>
    match P.info? e with
    | some inf =>
      match inf.zero with
      | some (.int k 0) => bif Nat.beq inf.size 1 && Nat.ble L C && Nat.ble 1 C && Nat.ble C 1048576 && Nat.ble inf.bytes 1048576 then
          some (newBlk n { segs := S, ty := e, ro := false } (.slice (some ⟨n, 0, some 0⟩) L 1) hs' [a = (L : Int), b = (C : Int), Noughts k C S])
        else none
      | _ => none
    | none => none
  | _, _, _, _ => none

/-- A bound of a slice's cut: what it must be. -/
def boundP (ρ : Operand → Value) : Option Operand → Nat → Option (List Prop)
  | none, _ => some []
  | some x, k => match ρ x with
    | .int _ i => some [i = (k : Int)]
    | _ => none

def xslice (P : Program) (ρ : Operand → Value) (n : Nat) (t : TypeId) (x : Operand) (low high max : Option Operand) (hs : List Hint) : Option Out :=
  match P.underlying t, ρ x, max, hs with
  | some (.slice e), .func (.yield z) ⟨l⟩ ⟨[.bool f]⟩, none, .cut lo hi :: hs =>
    match sizeB P e, boundP ρ low lo, boundP ρ high hi with
    | some sz, some o1, some o2 =>
      bif Nat.beq z sz && Nat.ble 1 sz && Nat.ble lo hi && Nat.ble (hi * z) l.length && (low.isSome || Nat.beq lo 0) && (high.isSome || Nat.beq (hi * z) l.length) then
        some (silent (.func (.yield z) ⟨(l.drop (lo * z)).take ((hi - lo) * z)⟩ ⟨[.bool true]⟩) n hs ((f = true) :: o1 ++ o2))
      else none
    | _, _, _ => none
  | some (.slice e), .func (.yield z) ⟨l⟩ ⟨[.bool f]⟩, none, .cutT lo :: hs =>
    match sizeB P e, boundP ρ low lo, high with
    | some sz, some o1, none =>
      bif Nat.beq z sz && Nat.ble 1 sz && (low.isSome || Nat.beq lo 0) then
        some (silent (.func (.yield z) ⟨l.drop (lo * z)⟩ ⟨[.bool true]⟩) n hs ((f = true) :: (lo * z ≤ l.length) :: o1))
      else none
    | _, _, _ => none
  | some (.slice e), .func (.yield z) ⟨l⟩ ⟨[.bool f]⟩, some mx, .cut lo hi :: hs =>
    match sizeB P e, boundP ρ low lo, boundP ρ high hi, boundP ρ (some mx) 0 with
    | some sz, some o1, some o2, some o3 =>
      bif Nat.beq lo 0 && Nat.beq hi 0 && high.isSome then
        some (silent (.func (.yield 0) ⟨[]⟩ ⟨[.bool true]⟩) n hs ((f = true) :: o1 ++ o2 ++ o3))
      else none
    | _, _, _, _ => none
  | some (.slice e), .slice (some ⟨i, off, sp⟩) len z, none, .cut lo hi :: hs =>
    match sizeB P e, boundP ρ low lo, boundP ρ high hi with
    | some sz, some o1, some o2 =>
      bif ((Nat.beq z sz && sp.isNone) || Nat.beq z 0) && (low.isSome || Nat.beq lo 0) then
        some (silent (.slice (some ⟨i, off + lo * sz, sp⟩) (hi - lo) z) n hs ((hi ≤ len ∧ lo ≤ hi ∧ (lo = 0 ∨ lo < hi) ∧ (high.isSome = true ∨ hi = len)) :: o1 ++ o2))
      else none
    | _, _, _ => none
  | some (.array m e), .pointer (some ⟨i, off, sp⟩), none, .cut lo hi :: hs =>
    match sizeB P e, boundP ρ low lo, boundP ρ high hi with
    | some sz, some o1, some o2 =>
      bif Nat.ble lo hi && Nat.ble hi m && (low.isSome || Nat.beq lo 0) && (high.isSome || Nat.beq hi m) && (Nat.beq lo 0 || Nat.blt lo m) then
        some (silent (.slice (some ⟨i, off + lo * sz, sp⟩) (hi - lo) 0) n hs (o1 ++ o2))
      else none
    | _, _, _ => none
  | some .string, .string s, none, .cut lo hi :: hs =>
    match boundP ρ low lo, boundP ρ high hi with
    | some o1, some o2 =>
      bif Nat.ble lo hi && Nat.ble hi s.size && (low.isSome || Nat.beq lo 0) && (high.isSome || Nat.beq hi s.size) then some (silent (.string (s.extract lo hi)) n hs (o1 ++ o2)) else none
    | _, _ => none
  | some .string, .string s, none, .symcut :: hs =>
    match low, high with
    | none, some h => match ρ h with
      | .int _ i => some (silent (.string (s.extract 0 i.toNat)) n hs [0 ≤ i ∧ i ≤ (s.size : Int)])
      | _ => none
    | some l, some h => match ρ l, ρ h with
      | .int _ i, .int _ j => some (silent (.string (s.extract i.toNat j.toNat)) n hs [0 ≤ i ∧ i ≤ j ∧ j ≤ (s.size : Int)])
      | _, _ => none
    | _, _ => none
  | _, _, _, _ => none

/-- A stretch's row. -/
def xrow (P : Program) (H : HF) (t : TypeId) (j k : Nat) : Value → Option (Value × Nat × List Prop)
  | .pointer (some ⟨i, off, some s⟩) =>
    match H i with
    | some B =>
      match segAtG B.segs s with
      | some (.rows n sz g) =>
        match isAggB P t, sizeB P t with
        | some true, some m => bif Nat.beq ((g j).drop k).length (sz - k) && Nat.ble (k + m) sz && Nat.beq (g j).length sz then some (.agg ⟨((g j).drop k).take m⟩, i, gapOb B.segs s ++ [off = j * sz + k, j < n]) else none
        | some false, _ => bif Nat.blt k sz then ((g j)[k]?).map fun v => (v, i, gapOb B.segs s ++ [off = j * sz + k, j < n]) else none
        | _, _ => none
      | _ => none
    | none => none
  | _ => none

/-- A load through a frozen address, or of a stretch's row. -/
def xloadE (P : Program) (H : HF) (n : Nat) (hs : List Hint) (t : TypeId) (v : Value) : Option Out :=
  match v, hs with
  | .func (.method "") ⟨l⟩ ⟨[]⟩, hs =>
    match isAggB P t, sizeB P t with
    | some true, some m => bif Nat.ble m l.length then some (silent (.agg ⟨l.take m⟩) n hs []) else none
    | some false, _ => (l[0]?).map fun v => silent v n hs []
    | _, _ => none
  | v, .row j k :: hs =>
    match xrow P H t j k v with
    | some (v, i, ob) => some { v, eff := [], rd := [i], sh := [], new := [], n, hs, ob }
    | none => none
  | .pointer (some ⟨i, off, some s⟩), .among m :: hs =>
    match H i with
    | some B =>
      match gets B s m, isAggB P t with
      | some (.int k a :: r), some false => (intsOf k (.int k a :: r)).map fun ns => { v := .int k (ns.getD off 0), eff := [], rd := [i], sh := [], new := [], n, hs, ob := [off < m] }
      | some (.bool a :: r), some false => (boolsOf (.bool a :: r)).map fun bs => { v := .bool (bs.getD off false), eff := [], rd := [i], sh := [], new := [], n, hs, ob := [off < m] }
      | _, _ => none
    | none => none
  | _, _ => none

def xfieldE (P : Program) (n : Nat) (hs : List Hint) (s : TypeId) (f : Nat) (v : Value) : Option Out :=
  match v, P.underlying s with
  | .func (.method "") ⟨l⟩ ⟨[]⟩, some (.struct fields) =>
    match fields[f]? with
    | some fd => match sizeB P fd.type with
      | some (_ + 1) => some (silent (.func (.method "") ⟨l.drop fd.offset⟩ ⟨[]⟩) n hs [])
      | _ => none
    | none => none
  | _, _ => none

def xatE (P : Program) (n : Nat) (hs : List Hint) (t : TypeId) (v ix : Value) : Option Out :=
  match ix, P.underlying t, v with
  | .int _ i, some (.slice e), .func (.yield z) ⟨l⟩ ⟨[.bool f]⟩ =>
    match sizeB P e, hs with
    | some sz, .lit k :: hs => bif Nat.beq z sz && Nat.ble 1 sz && Nat.ble ((k + 1) * z) l.length then some (silent (.func (.method "") ⟨l.drop (k * z)⟩ ⟨[]⟩) n hs [f = true, i = (k : Int)]) else none
    | some sz, .sym :: hs =>
      bif Nat.beq z 1 && Nat.beq sz 1 then
        match l with
        | .int k a :: r => (intsOf k (.int k a :: r)).map fun ns => silent (.func (.method "") ⟨[.int k (ns.getD i.toNat 0)]⟩ ⟨[]⟩) n hs [f = true, 0 ≤ i ∧ i < (ns.length : Int)]
        | .string a :: r => (strsOf (.string a :: r)).map fun ns => silent (.func (.method "") ⟨[.string (ns.getD i.toNat ⟨#[]⟩)]⟩ ⟨[]⟩) n hs [f = true, 0 ≤ i ∧ i < (ns.length : Int)]
        | _ => none
      else none
    | _, _ => none
  | _, _, _ => none

def xlenE (P : Program) (n : Nat) (hs : List Hint) (t : TypeId) (v : Value) : Option Out :=
  match v, P.underlying t with
  | .func (.yield z) ⟨l⟩ ⟨[.bool f]⟩, some (.slice _) =>
    match hs with
    | .lenT k :: hs' => bif Nat.ble 1 z then some (silent (.int .i64 (k : Int)) n hs' [f = true, l.length = k * z]) else none
    | hs => bif Nat.ble 1 z && Nat.beq (l.length / z * z) l.length then some (silent (.int .i64 ((l.length / z : Nat) : Int)) n hs [f = true]) else none
  | _, _ => none

def xempty (P : Program) (n : Nat) (hs : List Hint) (t : TypeId) : Option Out :=
  match P.underlying t with
  | some (.slice e) =>
    match sizeB P e with
    | some sz => some (newBlk n (cellsBlk [] e) (.slice (some ⟨n, 0, none⟩) 0 sz) hs [])
    | none => none
  | _ => none

/-- Nothing, frozen. -/
def xnone (P : Program) (n : Nat) (hs : List Hint) (t : TypeId) : Option Out :=
  match P.underlying t with
  | some (.slice e) =>
    match sizeB P e with
    | some _ => some (silent (.func (.yield 0) ⟨[]⟩ ⟨[.bool true]⟩) n hs [])
    | none => none
  | _ => none

/-- Is a slice of frozen cells, of which there are some, nil? -/
def xeqNil (P : Program) (ρ : Operand → Value) (n : Nat) (hs : List Hint) (t : TypeId) (x y : Operand) : Option Out :=
  match ρ x, ρ y with
  | .func (.yield _) ⟨_ :: _⟩ ⟨[.bool f]⟩, .slice none 0 0 => (eqv P 10000 t (.slice (some ⟨0, 0, none⟩) 0 0) (.slice none 0 0)).map fun c => silent (.bool c) n hs [f = true]
  | _, _ => none

/-- Is a list of which there is something nil? -/
def xeqNilT (P : Program) (ρ : Operand → Value) (n : Nat) (hs : List Hint) (t : TypeId) (x y : Operand) : Option Out :=
  match ρ x, ρ y with
  | .func (.method "") ⟨[]⟩ ⟨[.bool true]⟩, .slice none 0 0 => (eqv P 10000 t (.slice (some ⟨0, 0, none⟩) 0 0) (.slice none 0 0)).map fun c => silent (.bool c) n hs []
  | .slice (some ⟨_, _, some _⟩) m _, .slice none 0 0 => (eqv P 10000 t (.slice (some ⟨0, 0, none⟩) 0 0) (.slice none 0 0)).map fun c => silent (.bool c) n hs [m ≠ 0]
  | _, _ => none

/-- Further operations. -/
def xopE (P : Program) (ρ : Operand → Value) (H : HF) (n : Nat) (hs : List Hint) (o : Oper) : Option Out :=
  match o.op with
  | .load t p => xloadE P H n hs t (ρ p)
  | .fieldAddr s p f => xfieldE P n hs s f (ρ p)
  | .indexAddr t x ix => xatE P n hs t (ρ x) (ρ ix)
  | .slice t x low high max => xslice P ρ n t x low high max hs
  | .buildSlice t 0 parts => bif parts.toList.isEmpty then (match hs with
    | .born :: hs' => xnone P n hs' t
    | _ => xempty P n hs t) else none
  | .call c =>
    match c.callee, c.args.toList with
    | .builtin .min, [x, y] =>
      match ρ x, ρ y with
      | .int k a, .int _ b => some (silent (.int k (if b < a then b else a)) n hs [])
      | _, _ => none
    | .builtin .max, [x, y] =>
      match ρ x, ρ y with
      | .int k a, .int _ b => some (silent (.int k (if b > a then b else a)) n hs [])
      | _, _ => none
    | .builtin .len, [x] =>
      match c.argTypes[0]? with
      | some t => xlenE P n hs t (ρ x)
      | none => none
    | .builtin .append, _ => match hs with
      | .all :: hs' => xappendL P ρ H n hs' c
      | .win l :: hs' => match xappendW P ρ H n l hs' c with
        | some out => some out
        | none => xappendN P ρ n l hs' c
      | _ => xappend P ρ H n hs c
    | _, _ => none
  | .binOp .eql t x y _ => match xeqNil P ρ n hs t x y with
    | some out => some out
    | none => xeqNilT P ρ n hs t x y
  | .makeSlice t l c => xmake P ρ n hs t l c
  | _ => none

/-- An operation of either kind. -/
def xopA (P : Program) (ρ : Operand → Value) (H : HF) (n : Nat) (hs : List Hint) (o : Oper) : Option Out :=
  match xop0 P ρ H n hs o with
  | some out => some out
  | none => xopE P ρ H n hs o

def dstIs : Option Tmp → Nat → Bool
  | some d, e => Nat.beq d e
  | none, _ => false

/-- A slice of words without addresses that nobody will write: frozen as it is made. -/
def xborn (P : Program) (ρ : Operand → Value) (n : Nat) (hs : List Hint) (o : Oper) : Option Out :=
  match o.op with
  | .buildSlice t (len + 1) parts =>
    match P.underlying t with
    | some (.slice e) =>
      match P.info? e with
      | some inf =>
        match inf.zero with
        | some z =>
          bif flat z && Nat.beq z.cells.toList.length inf.size && Nat.ble 1 inf.size && Nat.ble ((len + 1) * inf.size) 16777216 then
            match layAll (fun i => some (i * inf.size, inf.size)) (parts.toList.map fun p => (p.1, ρ p.2)) (repeatCells z.cells.toList (len + 1)) with
            | some l => bif l.all solid then some (silent (.func (.yield inf.size) ⟨l⟩ ⟨[.bool true]⟩) n hs []) else none
            | none => none
          else none
        | none => none
      | none => none
    | _ => none
  | _ => none

/-- The cells of stretches, one behind the other. -/
def cellsOf (S : List Seg) (m : Nat) : List Value := winL (fun j => (segsGet? S j).getD (.tuple ⟨[]⟩)) 0 m
/-- A whole block is loaded, or laid. -/
def xwhole (P : Program) (ρ : Operand → Value) (H : HF) (n : Nat) (l : List Seg) (hs : List Hint) (o : Oper) : Option Out :=
  match o.op with
  | .load t p => match ρ p with
    | .pointer (some ⟨i, 0, none⟩) => match H i, isAggB P t, sizeB P t with
      | some B, some true, some m => some { v := .agg ⟨cellsOf B.segs m⟩, eff := [], rd := [i], sh := [], new := [], n, hs, ob := [AllStor B.segs m] }
      | _, _, _ => none
    | _ => none
  | .store t p x => match ρ p with
    | .pointer (some ⟨j, 0, none⟩) => match H j, sizeB P t with
      | some C, some m => bif !C.ro then some { v := .tuple ⟨[]⟩, eff := [(j, .blk { C with segs := l })], rd := [j], sh := [], new := [], n, hs, ob := [ρ x = .agg ⟨cellsOf l m⟩, segsSize l = m, C.size = m, AllStor l m] } else none
      | _, _ => none
    | _ => none
  | _ => none

/-- An operation; '.eq d w': the value that it lays into the slot d is w. -/
def xop (P : Program) (ρ : Operand → Value) (H : HF) (n : Nat) (hs : List Hint) (o : Oper) : Option Out :=
  match hs with
  | .eq d w :: hs' => bif dstIs o.dst d then (xopA P ρ H n hs' o).map fun out => { out with v := w, ob := (out.v = w) :: out.ob } else xopA P ρ H n hs o
  | .born :: hs' => match xborn P ρ n hs' o with
    | some out => some out
    | none => xopA P ρ H n hs o
  | .whole l :: hs' => match xwhole P ρ H n l hs' o with
    | some out => some out
    | none => xopA P ρ H n hs o
  | hs => xopA P ρ H n hs o

end Go.Proofs.Ytgnhhnmpeklciaa.VX
