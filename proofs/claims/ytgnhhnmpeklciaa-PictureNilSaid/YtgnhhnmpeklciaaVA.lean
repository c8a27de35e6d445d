/-
  The abstract memory of the executor: values whose addresses name abstract blocks, blocks, and how they stand for a world. Nothing of a program is said here; no condition.
-/
import Derived.Orders
import Derived.Below
import Derived.KernelRfl
namespace Go.Proofs.Ytgnhhnmpeklciaa.VX
open Go

/-- What names stand for: abstract blocks for the world's blocks; how many cells a block of the world has; which blocks are frozen (nobody will write them), and their cells. -/
structure Mu where
  nm : Nat → Option Nat
  sz : Nat → Nat
  fz : Nat → Option (Array Value)
instance : CoeFun Mu (fun _ => Nat → Option Nat) := ⟨Mu.nm⟩

/-- A value of one word without an address; a function that holds nothing, too: in the world it is itself. -/
def solid : Value → Bool
  | .bool _ | .int .. | .float .. | .string _ | .pointer none | .map none | .nilFunc | .nilIface => true
  | .slice none l c => Nat.beq l 0 && Nat.beq c 0
  | .func (.func _) ⟨[]⟩ ⟨[]⟩ => true
  | _ => false

/-- A slice of the world whose cells are l, for good: elements of z cells each. -/
def Lst (μ : Mu) (z : Nat) (l : List Value) (r : Value) : Prop :=
  (l = [] ∧ r = .slice none 0 0) ∨ (z = 0 ∧ l = [] ∧ ∃ a, r = .slice a 0 0) ∨
    (z ≠ 0 ∧ ∃ b off len cap cs, r = .slice (some ⟨b, off, none⟩) len cap ∧ len ≤ cap ∧ len * z = l.length ∧ μ.fz b = some cs ∧ ∀ j v, l[j]? = some v → cs[off + j]? = some v)

mutual
/-- An abstract value stands for a value of the world. The empty tuple stands for anything. The nil channel stands for the empty tuple alone: a slot that was not written. An abstract address with a spot 's' lies 's' further on. A slice whose abstract room isn't 0 has elements of so many cells, and its room in its block. A function 'yield z' stands for a slice of frozen cells, a 'method' for the address of such; the method 'e' for a slice of nothing that isn't nil. -/
inductive VRel (μ : Mu) : Value → Value → Prop
  | junk (r : Value) : VRel μ (.tuple #[]) r
  | und : VRel μ (.chan none) (.tuple #[])
  | bool (b : Bool) : VRel μ (.bool b) (.bool b)
  | int (k : IntKind) (n : Int) : VRel μ (.int k n) (.int k n)
  | float (k : FloatKind) (n : Nat) : VRel μ (.float k n) (.float k n)
  | string (s : ByteArray) : VRel μ (.string s) (.string s)
  | ptrNil : VRel μ (.pointer none) (.pointer none)
  | ptr {i b : Nat} (h : μ i = some b) (off : Nat) : VRel μ (.pointer (some ⟨i, off, none⟩)) (.pointer (some ⟨b, off, none⟩))
  | ptrS {i b : Nat} (h : μ i = some b) (s off : Nat) : VRel μ (.pointer (some ⟨i, off, some s⟩)) (.pointer (some ⟨b, s + off, none⟩))
  | sliceNil : VRel μ (.slice none 0 0) (.slice none 0 0)
  | slice {i b : Nat} (h : μ i = some b) (off len cap cap' : Nat) (hc : len ≤ cap') (hz : cap = 0 ∨ off + cap' * cap ≤ μ.sz b) : VRel μ (.slice (some ⟨i, off, none⟩) len cap) (.slice (some ⟨b, off, none⟩) len cap')
  | sliceS {i b : Nat} (h : μ i = some b) (s off len cap cap' : Nat) (hc : len ≤ cap') (hz : cap = 0 ∨ s + off + cap' * cap ≤ μ.sz b) : VRel μ (.slice (some ⟨i, off, some s⟩) len cap) (.slice (some ⟨b, s + off, none⟩) len cap')
  | sliceE (i s off cap : Nat) (a : Option Addr) (cap' : Nat) (hz : cap = 0 ∨ cap' = 0) : VRel μ (.slice (some ⟨i, off, some s⟩) 0 cap) (.slice a 0 cap')
  | mapNil : VRel μ (.map none) (.map none)
  | nilFunc : VRel μ .nilFunc .nilFunc
  | nilIface : VRel μ .nilIface .nilIface
  | func (fn : FuncId) {fs fs' cs cs' : List Value} (hf : VRels μ fs fs') (hc : VRels μ cs cs') : VRel μ (.func (.func fn) ⟨fs⟩ ⟨cs⟩) (.func (.func fn) ⟨fs'⟩ ⟨cs'⟩)
  | lst (z : Nat) (l : List Value) (f : Bool) {r : Value} (hs : l.all solid = true) (hr : ∃ a n c, r = .slice a n c) (h : f = true → Lst μ z l r) : VRel μ (.func (.yield z) ⟨l⟩ ⟨[.bool f]⟩) r
  | fptr (l : List Value) {b off : Nat} {cs : Array Value} (hs : l.all solid = true) (hf : μ.fz b = some cs) (h : ∀ j v, l[j]? = some v → cs[off + j]? = some v) : VRel μ (.func (.method "") ⟨l⟩ ⟨[]⟩) (.pointer (some ⟨b, off, none⟩))
  | emp (a : Addr) (c : Nat) : VRel μ (.func (.method "") ⟨[]⟩ ⟨[.bool true]⟩) (.slice (some a) 0 c)
  | iface (t : TypeId) {v v' : Value} (h : VRel μ v v') : VRel μ (.iface t v) (.iface t v')
  | agg {cs ds : List Value} (h : VRels μ cs ds) : VRel μ (.agg ⟨cs⟩) (.agg ⟨ds⟩)
  | tup {cs ds : List Value} (h : VRels μ cs ds) : VRel μ (.tuple ⟨cs⟩) (.tuple ⟨ds⟩)
inductive VRels (μ : Mu) : List Value → List Value → Prop
  | nil : VRels μ [] []
  | cons {a b : Value} {as bs : List Value} (h : VRel μ a b) (hs : VRels μ as bs) : VRels μ (a :: as) (b :: bs)
end

/-- μ' says of each abstract block what μ says. -/
structure Mu.le (μ μ' : Mu) : Prop where
  nms : ∀ i b, μ i = some b → μ' i = some b
  szs : ∀ i b, μ i = some b → μ'.sz b = μ.sz b
  fzs : ∀ b cs, μ.fz b = some cs → μ'.fz b = some cs
instance {μ μ' : Mu} : CoeFun (μ.le μ') (fun _ => ∀ i b, μ i = some b → μ' i = some b) := ⟨Mu.le.nms⟩

theorem Mu.le_refl (μ : Mu) : μ.le μ := ⟨fun _ _ h => h, fun _ _ _ => rfl, fun _ _ h => h⟩
theorem Mu.le_trans {a b c : Mu} (h : a.le b) (k : b.le c) : a.le c := ⟨fun i x e => k i x (h i x e), fun i x e => (k.szs i x (h i x e)).trans (h.szs i x e), fun x cs e => k.fzs x cs (h.fzs x cs e)⟩

theorem Lst.fmono {μ μ' : Mu} (h : ∀ b cs, μ.fz b = some cs → μ'.fz b = some cs) {z : Nat} {l : List Value} {r : Value} (k : Lst μ z l r) : Lst μ' z l r := by
  rcases k with k | k | ⟨hz, b, off, len, cap, cs, e, h1, h2, h3, h4⟩
  · exact .inl k
  · exact .inr (.inl k)
  · exact .inr (.inr ⟨hz, b, off, len, cap, cs, e, h1, h2, h _ _ h3, h4⟩)

mutual
theorem VRel.mono {μ μ' : Mu} (h : μ.le μ') : ∀ {v r : Value}, VRel μ v r → VRel μ' v r
  | _, _, .junk r => .junk r
  | _, _, .und => .und
  | _, _, .bool b => .bool b
  | _, _, .int k n => .int k n
  | _, _, .float k n => .float k n
  | _, _, .string s => .string s
  | _, _, .ptrNil => .ptrNil
  | _, _, .ptr e off => .ptr (h _ _ e) off
  | _, _, .ptrS e s off => .ptrS (h _ _ e) s off
  | _, _, .sliceNil => .sliceNil
  | _, _, .slice e off l c c' hc hz => .slice (h _ _ e) off l c c' hc (hz.imp id fun k => by rw [h.szs _ _ e]; exact k)
  | _, _, .sliceS e s off l c c' hc hz => .sliceS (h _ _ e) s off l c c' hc (hz.imp id fun k => by rw [h.szs _ _ e]; exact k)
  | _, _, .sliceE i s off c a c' hz => .sliceE i s off c a c' hz
  | _, _, .mapNil => .mapNil
  | _, _, .nilFunc => .nilFunc
  | _, _, .nilIface => .nilIface
  | _, _, .func fn a b => .func fn (VRels.mono h a) (VRels.mono h b)
  | _, _, .lst z l f hs hr k => .lst z l f hs hr fun e => (k e).fmono h.fzs
  | _, _, .fptr l hs hf k => .fptr l hs (h.fzs _ _ hf) k
  | _, _, .emp a c => .emp a c
  | _, _, .iface t a => .iface t (VRel.mono h a)
  | _, _, .agg a => .agg (VRels.mono h a)
  | _, _, .tup a => .tup (VRels.mono h a)
theorem VRels.mono {μ μ' : Mu} (h : μ.le μ') : ∀ {v r : List Value}, VRels μ v r → VRels μ' v r
  | _, _, .nil => .nil
  | _, _, .cons a b => .cons (VRel.mono h a) (VRels.mono h b)
end

theorem VRels.length {μ : Mu} : ∀ {v r : List Value}, VRels μ v r → v.length = r.length
  | _, _, .nil => rfl
  | _, _, .cons _ h => by simp [h.length]

theorem VRels.get {μ : Mu} : ∀ {v r : List Value} (_ : VRels μ v r) (i : Nat) (x : Value), v[i]? = some x → ∃ y, r[i]? = some y ∧ VRel μ x y
  | _, _, .nil, i, x, h => by simp at h
  | _, _, .cons a b, 0, x, h => by simp at h; subst h; exact ⟨_, by simp, a⟩
  | _, _, .cons a b, i + 1, x, h => by simpa using b.get i x (by simpa using h)

theorem VRels.append {μ : Mu} : ∀ {a b c d : List Value}, VRels μ a b → VRels μ c d → VRels μ (a ++ c) (b ++ d)
  | _, _, _, _, .nil, h => h
  | _, _, _, _, .cons x y, h => .cons x (y.append h)

theorem VRels.drop {μ : Mu} : ∀ {a b : List Value} (n : Nat), VRels μ a b → VRels μ (a.drop n) (b.drop n)
  | _, _, 0, h => by simpa using h
  | _, _, n + 1, .nil => by simpa using VRels.nil
  | _, _, n + 1, .cons x y => by simpa using y.drop n

theorem VRels.take {μ : Mu} : ∀ {a b : List Value} (n : Nat), VRels μ a b → VRels μ (a.take n) (b.take n)
  | _, _, 0, h => by simpa using VRels.nil
  | _, _, n + 1, .nil => by simpa using VRels.nil
  | _, _, n + 1, .cons x y => by simpa using VRels.cons x (y.take n)

/-- A value of one word without an address. -/
def scalar : Value → Bool
  | .bool _ | .int .. | .float .. | .string _ | .pointer none | .map none | .nilFunc | .nilIface => true
  | .slice none l c => Nat.beq l 0 && Nat.beq c 0
  | _ => false
/-- A value without an address, of one word or of such. -/
def flat : Value → Bool
  | .agg ⟨cs⟩ => cs.all scalar
  | v => scalar v

theorem VRel.of_scalar {μ : Mu} {v : Value} (h : scalar v = true) : VRel μ v v := by
  cases v with
  | bool b => exact .bool b
  | int k n => exact .int k n
  | float k n => exact .float k n
  | string s => exact .string s
  | pointer a => cases a with
    | none => exact .ptrNil
    | some a => simp [scalar] at h
  | slice a l c => cases a with
    | none =>
      simp only [scalar, Bool.and_eq_true] at h
      obtain ⟨h1, h2⟩ := h
      obtain rfl := Nat.eq_of_beq_eq_true h1
      obtain rfl := Nat.eq_of_beq_eq_true h2
      exact .sliceNil
    | some a => simp [scalar] at h
  | map r => cases r with
    | none => exact .mapNil
    | some a => simp [scalar] at h
  | nilFunc => exact .nilFunc
  | nilIface => exact .nilIface
  | _ => simp [scalar] at h

theorem VRel.eq_of_scalar {μ : Mu} {v r : Value} (h : scalar v = true) (hr : VRel μ v r) : r = v := by
  cases hr <;> first | rfl | (simp [scalar] at h)

theorem VRels.of_scalars {μ : Mu} : ∀ {cs : List Value}, cs.all scalar = true → VRels μ cs cs
  | [], _ => .nil
  | c :: cs, h => by
    simp only [List.all_cons, Bool.and_eq_true] at h
    exact .cons (.of_scalar h.1) (VRels.of_scalars h.2)

theorem VRels.eq_of_scalars {μ : Mu} : ∀ {cs ds : List Value}, cs.all scalar = true → VRels μ cs ds → ds = cs
  | _, _, _, .nil => rfl
  | _, _, h, .cons a b => by
    simp only [List.all_cons, Bool.and_eq_true] at h
    rw [VRel.eq_of_scalar h.1 a, VRels.eq_of_scalars h.2 b]

theorem VRel.of_flat {μ : Mu} {v : Value} (h : flat v = true) : VRel μ v v := by
  cases v with
  | agg cs => obtain ⟨l⟩ := cs; exact .agg (.of_scalars (by simpa [flat] using h))
  | _ => exact .of_scalar (by simpa [flat] using h)

theorem VRel.eq_of_flat {μ : Mu} {v r : Value} (h : flat v = true) (hr : VRel μ v r) : r = v := by
  cases v with
  | agg cs =>
    obtain ⟨l⟩ := cs
    cases hr with
    | agg a => rw [VRels.eq_of_scalars (by simpa [flat] using h) a]
  | _ => exact VRel.eq_of_scalar (by simpa [flat] using h) hr

-- ---------------------------------------------------------------- blocks

/-- A stretch of a block's cells: one value; 'n' integers of a kind; 'n' bools; 'n' rows of 'sz' cells each; 'n' cells of which nothing is known. -/
inductive Seg where
  | one (v : Value)
  | ints (k : IntKind) (n : Nat) (a : Nat → Int)
  | bools (n : Nat) (a : Nat → Bool)
  | rows (n sz : Nat) (g : Nat → List Value)
  | gap (n : Nat)

def Seg.size : Seg → Nat
  | .one _ => 1
  | .ints _ n _ => n
  | .bools n _ => n
  | .rows n sz _ => n * sz
  | .gap n => n

def Seg.get? : Seg → Nat → Option Value
  | .one v, o => bif Nat.beq o 0 then some v else none
  | .ints k n a, o => bif Nat.blt o n then some (.int k (a o)) else none
  | .bools n a, o => bif Nat.blt o n then some (.bool (a o)) else none
  | .rows n sz g, o => bif Nat.blt o (n * sz) then (g (o / sz))[o % sz]? else none
  | .gap _, _ => none

def segsSize : List Seg → Nat
  | [] => 0
  | s :: r => s.size + segsSize r

def segsGet? : List Seg → Nat → Option Value
  | [], _ => none
  | s :: r, o => bif Nat.blt o s.size then s.get? o else segsGet? r (o - s.size)

/-- A block: its stretches, the type of its elements; 'ro': nobody writes it here, it may be met under two names. -/
structure Blk where
  segs : List Seg
  ty : TypeId
  ro : Bool

def Blk.size (B : Blk) : Nat := segsSize B.segs
def Blk.get? (B : Blk) (o : Nat) : Option Value := segsGet? B.segs o

/-- What an abstract block says of the world's object: it may have more cells than are told of. -/
def BlkRel (μ : Mu) (B : Blk) (o : Option Obj) : Prop :=
  ∃ cs t fr, o = some (.cells cs t fr) ∧ (B.ro = false → t = B.ty ∧ fr = (0, 0) ∧ B.size ≤ cs.size) ∧
    ∀ off v, B.get? off = some v → ∃ r, cs[off]? = some r ∧ VRel μ v r

theorem BlkRel.mono {μ μ' : Mu} {B : Blk} {o : Option Obj} (h : μ.le μ') (hb : BlkRel μ B o) : BlkRel μ' B o := by
  obtain ⟨cs, t, fr, e, h1, h2⟩ := hb
  exact ⟨cs, t, fr, e, h1, fun off v hv => let ⟨r, hr, k⟩ := h2 off v hv; ⟨r, hr, k.mono h⟩⟩

/-- A heap as a function. -/
abbrev HF := Nat → Option Blk
/-- A heap as a list. -/
abbrev Heap := List (Nat × Blk)

def lk : Heap → HF
  | [], _ => none
  | (j, B) :: r, i => bif Nat.beq i j then some B else lk r i

/-- The world's block b is written here: it stands behind a block of the heap that isn't 'ro'. -/
def Own (μ : Mu) (h : HF) (b : Nat) : Prop := ∃ i B, h i = some B ∧ B.ro = false ∧ μ i = some b

/-- A heap stands for a world. A block of no cells may have a name that stands for nothing: a list that is nil. -/
structure Rep (μ : Mu) (h : HF) (w : World) : Prop where
  blk : ∀ i B, h i = some B → (B.size ≠ 0 ∨ μ i ≠ none) → ∃ b, μ i = some b ∧ BlkRel μ B w.heap[b]?
  apart : ∀ i j A B b, h i = some A → h j = some B → μ i = some b → μ j = some b → i ≠ j → A.ro = true ∧ B.ro = true
  bound : ∀ i b, μ i = some b → b < w.heap.size
  size : ∀ i B b, h i = some B → B.ro = false → μ i = some b → ∃ cs t fr, w.heap[b]? = some (.cells cs t fr) ∧ cs.size = μ.sz b
  frz : ∀ b cs, μ.fz b = some cs → ∃ t fr, w.heap[b]? = some (.cells cs t fr)
  nofz : ∀ i B b, h i = some B → B.ro = false → μ i = some b → μ.fz b = none

/-- What a piece of the run leaves of the world: all blocks that it doesn't own, and what it names in the end it named, or it is new. -/
structure Keeps (μ : Mu) (h : HF) (w : World) (μ' : Mu) (h' : HF) (w' : World) : Prop where
  os : w'.os = w.os
  tape : w'.tape = w.tape
  output : w'.output = w.output
  size : w.heap.size ≤ w'.heap.size
  same : ∀ b, b < w.heap.size → ¬ Own μ h b → w'.heap[b]? = w.heap[b]?
  old : ∀ i B b, h' i = some B → μ' i = some b → b < w.heap.size → ∃ i0 B0, h i0 = some B0 ∧ μ i0 = some b ∧ (B.ro = false → B0.ro = false)
  ksz : ∀ b, b < w.heap.size → μ'.sz b = μ.sz b
  kfz : ∀ b cs, μ.fz b = some cs → μ'.fz b = some cs
  nfz : ∀ b cs, μ'.fz b = some cs → μ.fz b = some cs ∨ Own μ h b ∨ w.heap.size ≤ b

theorem Keeps.own {μ μ' : Mu} {h h' : HF} {w w' : World} (k : Keeps μ h w μ' h' w') (b : Nat) (hb : b < w.heap.size) (ho : Own μ' h' b) : Own μ h b := by
  obtain ⟨i, B, hi, hro, hm⟩ := ho
  obtain ⟨i0, B0, h0, m0, r0⟩ := k.old i B b hi hm hb
  exact ⟨i0, B0, h0, r0 hro, m0⟩

theorem Keeps.refl (μ : Mu) (h : HF) (w : World) : Keeps μ h w μ h w := ⟨rfl, rfl, rfl, Nat.le_refl _, fun _ _ _ => rfl, fun i B _ e m _ => ⟨i, B, e, m, id⟩, fun _ _ => rfl, fun _ _ h => h, fun _ _ h => .inl h⟩

theorem Keeps.trans {μ μ₁ μ₂ : Mu} {h h₁ h₂ : HF} {w w₁ w₂ : World} (a : Keeps μ h w μ₁ h₁ w₁) (b : Keeps μ₁ h₁ w₁ μ₂ h₂ w₂) : Keeps μ h w μ₂ h₂ w₂ where
  os := b.os.trans a.os
  tape := b.tape.trans a.tape
  output := b.output.trans a.output
  size := Nat.le_trans a.size b.size
  same k hk ho := (b.same k (Nat.lt_of_lt_of_le hk a.size) fun o => ho (a.own k hk o)).trans (a.same k hk ho)
  old i B k hi hm hk := by
    obtain ⟨i1, B1, h1, m1, r1⟩ := b.old i B k hi hm (Nat.lt_of_lt_of_le hk a.size)
    obtain ⟨i0, B0, h0, m0, r0⟩ := a.old i1 B1 k h1 m1 hk
    exact ⟨i0, B0, h0, m0, fun h => r0 (r1 h)⟩
  ksz k hk := (b.ksz k (Nat.lt_of_lt_of_le hk a.size)).trans (a.ksz k hk)
  kfz k cs h := b.kfz k cs (a.kfz k cs h)
  nfz k cs h := by
    rcases b.nfz k cs h with h | h | h
    · exact a.nfz k cs h
    · rcases Nat.lt_or_ge k w.heap.size with hk | hk
      · exact .inr (.inl (a.own k hk h))
      · exact .inr (.inr hk)
    · exact .inr (.inr (Nat.le_trans a.size h))

/-- A smaller heap at the end. -/
theorem Keeps.sub {μ μ' : Mu} {h h' h'' : HF} {w w' : World} (a : Keeps μ h w μ' h' w') (hs : ∀ i B, h'' i = some B → h' i = some B) : Keeps μ h w μ' h'' w' :=
  { a with old := fun i B b e m hb => a.old i B b (hs i B e) m hb }

theorem Rep.sub {μ : Mu} {h h' : HF} {w : World} (r : Rep μ h w) (hs : ∀ i B, h' i = some B → h i = some B) : Rep μ h' w where
  blk i B e hne := r.blk i B (hs i B e) hne
  apart i j A B b e f := r.apart i j A B b (hs i A e) (hs j B f)
  bound := r.bound
  size i B b e := r.size i B b (hs i B e)
  frz := r.frz
  nofz i B b e := r.nofz i B b (hs i B e)

/-- A world with the same heap (a draw). -/
theorem Rep.heap_eq {μ : Mu} {h : HF} {w w' : World} (r : Rep μ h w) (e : w'.heap = w.heap) : Rep μ h w' where
  blk i B k hne := by rw [e]; exact r.blk i B k hne
  apart := r.apart
  bound i b k := by rw [e]; exact r.bound i b k
  size i B b k := by rw [e]; exact r.size i B b k
  frz b cs k := by rw [e]; exact r.frz b cs k
  nofz := r.nofz

theorem Keeps.drew (μ : Mu) (h : HF) (w : World) : Keeps μ h w μ h w.drew := ⟨rfl, rfl, rfl, Nat.le_refl _, fun _ _ _ => rfl, fun i B _ e m _ => ⟨i, B, e, m, id⟩, fun _ _ => rfl, fun _ _ h => h, fun _ _ h => .inl h⟩

/-- A solid value is itself. -/
theorem VRel.of_solid {μ : Mu} {v : Value} (h : solid v = true) : VRel μ v v := by
  unfold solid at h
  split at h
  · exact .bool _
  · exact .int _ _
  · exact .float _ _
  · exact .string _
  · exact .ptrNil
  · exact .mapNil
  · exact .nilFunc
  · exact .nilIface
  · rename_i l c
    simp only [Bool.and_eq_true] at h
    obtain rfl := Nat.eq_of_beq_eq_true h.1
    obtain rfl := Nat.eq_of_beq_eq_true h.2
    exact .sliceNil
  · exact .func _ .nil .nil
  · cases h
theorem VRel.eq_of_solid {μ : Mu} {v r : Value} (h : solid v = true) (hr : VRel μ v r) : r = v := by
  cases hr with
  | func fn a b =>
    rename_i fs fs' cs cs'
    match fs, fs', cs, cs', a, b, h with
    | [], [], [], [], _, _, _ => rfl
    | _ :: _, _, _, _, _, _, h => simp [solid] at h
    | [], _, _ :: _, _, _, _, h => simp [solid] at h
  | _ => first | rfl | (simp [solid] at h)
theorem VRels.of_solids {μ : Mu} : ∀ {cs : List Value}, cs.all solid = true → VRels μ cs cs
  | [], _ => .nil
  | c :: cs, h => by
    simp only [List.all_cons, Bool.and_eq_true] at h
    exact .cons (.of_solid h.1) (VRels.of_solids h.2)
theorem VRels.eq_of_solids {μ : Mu} : ∀ {cs ds : List Value}, cs.all solid = true → VRels μ cs ds → ds = cs
  | _, _, _, .nil => rfl
  | _, _, h, .cons a b => by
    simp only [List.all_cons, Bool.and_eq_true] at h
    rw [VRel.eq_of_solid h.1 a, VRels.eq_of_solids h.2 b]

theorem VRel.ptr_ne {μ : Mu} {i off : Nat} {s : Option Nat} {r : Value} (h : VRel μ (.pointer (some ⟨i, off, s⟩)) r) : μ i ≠ none := by
  cases h with
  | ptr e _ => rw [e]; exact fun h => nomatch h
  | ptrS e _ _ => rw [e]; exact fun h => nomatch h

theorem VRel.slice_ne {μ : Mu} {i off l c : Nat} {r : Value} (h : VRel μ (.slice (some ⟨i, off, none⟩) l c) r) : μ i ≠ none := by
  cases h with
  | slice e _ _ _ _ _ _ => rw [e]; exact fun h => nomatch h

end Go.Proofs.Ytgnhhnmpeklciaa.VX
