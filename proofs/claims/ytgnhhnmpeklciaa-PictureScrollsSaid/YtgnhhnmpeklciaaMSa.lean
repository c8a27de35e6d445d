/-
  Texts laid together: VA, VB, VC, VD, VE, VF, VG. No condition.
-/
import Derived.Below
import Derived.KernelRfl
import Derived.Laws.StructEq
import Derived.Laws.Tables
import Derived.Orders
import Derived.WalkKit
set_option linter.unusedVariables false
set_option linter.unusedSimpArgs false
set_option linter.unusedSectionVars false
set_option maxRecDepth 100000
set_option maxHeartbeats 4000000
namespace Go.Proofs.Ytgnhhnmpeklciaa
theorem T1:true = true:=rfl
theorem T0:false = false:=rfl
end Go.Proofs.Ytgnhhnmpeklciaa
namespace Go.Proofs.Ytgnhhnmpeklciaa.VX
open Go
structure Mu where
 nm:Nat → Option Nat
 sz:Nat → Nat
 fz:Nat → Option (Array Value)
instance:CoeFun Mu (fun _ => Nat → Option Nat):=⟨Mu.nm⟩
def solid:Value → Bool
 | .bool _ | .int .. | .float .. | .string _ | .pointer none | .map none | .nilFunc | .nilIface => true
 | .slice none l c => Nat.beq l 0 && Nat.beq c 0
 | .func (.func _) ⟨[]⟩ ⟨[]⟩ => true
 | _ => false
def Lst (μ:Mu) (z:Nat) (l:List Value) (r:Value):Prop:=
 (l = [] ∧ r = .slice none 0 0) ∨ (z = 0 ∧ l = [] ∧ ∃ a,r = .slice a 0 0) ∨
  (z ≠ 0 ∧ ∃ b off len cap cs,r = .slice (some ⟨b,off,none⟩) len cap ∧ len ≤ cap ∧ len * z = l.length ∧ μ.fz b = some cs ∧ ∀ j v,l[j]? = some v → cs[off + j]? = some v)
mutual
inductive VRel (μ:Mu):Value → Value → Prop
 | junk (r:Value):VRel μ (.tuple #[]) r
 | und:VRel μ (.chan none) (.tuple #[])
 | bool (b:Bool):VRel μ (.bool b) (.bool b)
 | int (k:IntKind) (n:Int):VRel μ (.int k n) (.int k n)
 | float (k:FloatKind) (n:Nat):VRel μ (.float k n) (.float k n)
 | string (s:ByteArray):VRel μ (.string s) (.string s)
 | ptrNil:VRel μ (.pointer none) (.pointer none)
 | ptr {i b:Nat} (h:μ i = some b) (off:Nat):VRel μ (.pointer (some ⟨i,off,none⟩)) (.pointer (some ⟨b,off,none⟩))
 | ptrS {i b:Nat} (h:μ i = some b) (s off:Nat):VRel μ (.pointer (some ⟨i,off,some s⟩)) (.pointer (some ⟨b,s + off,none⟩))
 | sliceNil:VRel μ (.slice none 0 0) (.slice none 0 0)
 | slice {i b:Nat} (h:μ i = some b) (off len cap cap':Nat) (hc:len ≤ cap') (hz:cap = 0 ∨ off + cap' * cap ≤ μ.sz b):VRel μ (.slice (some ⟨i,off,none⟩) len cap) (.slice (some ⟨b,off,none⟩) len cap')
 | sliceS {i b:Nat} (h:μ i = some b) (s off len cap cap':Nat) (hc:len ≤ cap') (hz:cap = 0 ∨ s + off + cap' * cap ≤ μ.sz b):VRel μ (.slice (some ⟨i,off,some s⟩) len cap) (.slice (some ⟨b,s + off,none⟩) len cap')
 | sliceE (i s off cap:Nat) (a:Option Addr) (cap':Nat) (hz:cap = 0 ∨ cap' = 0):VRel μ (.slice (some ⟨i,off,some s⟩) 0 cap) (.slice a 0 cap')
 | mapNil:VRel μ (.map none) (.map none)
 | nilFunc:VRel μ .nilFunc .nilFunc
 | nilIface:VRel μ .nilIface .nilIface
 | func (fn:FuncId) {fs fs' cs cs':List Value} (hf:VRels μ fs fs') (hc:VRels μ cs cs'):VRel μ (.func (.func fn) ⟨fs⟩ ⟨cs⟩) (.func (.func fn) ⟨fs'⟩ ⟨cs'⟩)
 | lst (z:Nat) (l:List Value) (f:Bool) {r:Value} (hs:l.all solid = true) (hr:∃ a n c,r = .slice a n c) (h:f = true → Lst μ z l r):VRel μ (.func (.yield z) ⟨l⟩ ⟨[.bool f]⟩) r
 | fptr (l : List Value) {b off : Nat} {cs : Array Value} (hs : l.all solid = true) (hf : μ.fz b = some cs) (h : ∀ j v, l[j]? = some v → cs[off + j]? = some v) : VRel μ (.func (.method "") ⟨l⟩ ⟨[]⟩) (.pointer (some ⟨b, off, none⟩))
 | emp (a : Addr) (c : Nat) : VRel μ (.func (.method "") ⟨[]⟩ ⟨[.bool true]⟩) (.slice (some a) 0 c)
 | iface (t:TypeId) {v v':Value} (h:VRel μ v v'):VRel μ (.iface t v) (.iface t v')
 | agg {cs ds:List Value} (h:VRels μ cs ds):VRel μ (.agg ⟨cs⟩) (.agg ⟨ds⟩)
 | tup {cs ds:List Value} (h:VRels μ cs ds):VRel μ (.tuple ⟨cs⟩) (.tuple ⟨ds⟩)
inductive VRels (μ:Mu):List Value → List Value → Prop
 | nil:VRels μ [] []
 | cons {a b:Value} {as bs:List Value} (h:VRel μ a b) (hs:VRels μ as bs):VRels μ (a :: as) (b :: bs)
end
structure Mu.le (μ μ':Mu):Prop where
 nms:∀ i b,μ i = some b → μ' i = some b
 szs:∀ i b,μ i = some b → μ'.sz b = μ.sz b
 fzs:∀ b cs,μ.fz b = some cs → μ'.fz b = some cs
instance {μ μ':Mu}:CoeFun (μ.le μ') (fun _ => ∀ i b,μ i = some b → μ' i = some b):=⟨Mu.le.nms⟩
theorem Mu.le_refl (μ:Mu):μ.le μ:=⟨fun _ _ h => h,fun _ _ _ => rfl,fun _ _ h => h⟩
theorem Mu.le_trans {a b c:Mu} (h:a.le b) (k:b.le c):a.le c:=⟨fun i x e => k i x (h i x e),fun i x e => (k.szs i x (h i x e)).trans (h.szs i x e),fun x cs e => k.fzs x cs (h.fzs x cs e)⟩
theorem Lst.fmono {μ μ':Mu} (h:∀ b cs,μ.fz b = some cs → μ'.fz b = some cs) {z:Nat} {l:List Value} {r:Value} (k:Lst μ z l r):Lst μ' z l r:=by
 rcases k with k | k | ⟨hz,b,off,len,cap,cs,e,h1,h2,h3,h4⟩
 ·exact .inl k
 ·exact .inr (.inl k)
 ·exact .inr (.inr ⟨hz,b,off,len,cap,cs,e,h1,h2,h _ _ h3,h4⟩)
mutual
theorem VRel.mono {μ μ':Mu} (h:μ.le μ'):∀ {v r:Value},VRel μ v r → VRel μ' v r
 | _,_,.junk r => .junk r
 | _,_,.und => .und
 | _,_,.bool b => .bool b
 | _,_,.int k n => .int k n
 | _,_,.float k n => .float k n
 | _,_,.string s => .string s
 | _,_,.ptrNil => .ptrNil
 | _,_,.ptr e off => .ptr (h _ _ e) off
 | _,_,.ptrS e s off => .ptrS (h _ _ e) s off
 | _,_,.sliceNil => .sliceNil
 | _,_,.slice e off l c c' hc hz => .slice (h _ _ e) off l c c' hc (hz.imp id fun k => by rw [h.szs _ _ e];exact k)
 | _,_,.sliceS e s off l c c' hc hz => .sliceS (h _ _ e) s off l c c' hc (hz.imp id fun k => by rw [h.szs _ _ e];exact k)
 | _,_,.sliceE i s off c a c' hz => .sliceE i s off c a c' hz
 | _,_,.mapNil => .mapNil
 | _,_,.nilFunc => .nilFunc
 | _,_,.nilIface => .nilIface
 | _,_,.func fn a b => .func fn (VRels.mono h a) (VRels.mono h b)
 | _,_,.lst z l f hs hr k => .lst z l f hs hr fun e => (k e).fmono h.fzs
 | _,_,.fptr l hs hf k => .fptr l hs (h.fzs _ _ hf) k
 | _,_,.emp a c => .emp a c
 | _,_,.iface t a => .iface t (VRel.mono h a)
 | _,_,.agg a => .agg (VRels.mono h a)
 | _,_,.tup a => .tup (VRels.mono h a)
theorem VRels.mono {μ μ':Mu} (h:μ.le μ'):∀ {v r:List Value},VRels μ v r → VRels μ' v r
 | _,_,.nil => .nil
 | _,_,.cons a b => .cons (VRel.mono h a) (VRels.mono h b)
end
theorem VRels.length {μ:Mu}:∀ {v r:List Value},VRels μ v r → v.length = r.length
 | _,_,.nil => rfl
 | _,_,.cons _ h => by simp [h.length]
theorem VRels.get {μ:Mu}:∀ {v r:List Value} (_:VRels μ v r) (i:Nat) (x:Value),v[i]? = some x → ∃ y,r[i]? = some y ∧ VRel μ x y
 | _,_,.nil,i,x,h => by simp at h
 | _,_,.cons a b,0,x,h => by simp at h;subst h;exact ⟨_,by simp,a⟩
 | _,_,.cons a b,i + 1,x,h => by simpa using b.get i x (by simpa using h)
theorem VRels.append {μ:Mu}:∀ {a b c d:List Value},VRels μ a b → VRels μ c d → VRels μ (a ++ c) (b ++ d)
 | _,_,_,_,.nil,h => h
 | _,_,_,_,.cons x y,h => .cons x (y.append h)
theorem VRels.drop {μ:Mu}:∀ {a b:List Value} (n:Nat),VRels μ a b → VRels μ (a.drop n) (b.drop n)
 | _,_,0,h => by simpa using h
 | _,_,n + 1,.nil => by simpa using VRels.nil
 | _,_,n + 1,.cons x y => by simpa using y.drop n
theorem VRels.take {μ:Mu}:∀ {a b:List Value} (n:Nat),VRels μ a b → VRels μ (a.take n) (b.take n)
 | _,_,0,h => by simpa using VRels.nil
 | _,_,n + 1,.nil => by simpa using VRels.nil
 | _,_,n + 1,.cons x y => by simpa using VRels.cons x (y.take n)
def scalar:Value → Bool
 | .bool _ | .int .. | .float .. | .string _ | .pointer none | .map none | .nilFunc | .nilIface => true
 | .slice none l c => Nat.beq l 0 && Nat.beq c 0
 | _ => false
def flat:Value → Bool
 | .agg ⟨cs⟩ => cs.all scalar
 | v => scalar v
theorem VRel.of_scalar {μ:Mu} {v:Value} (h:scalar v = true):VRel μ v v:=by
 cases v with
 | bool b => exact .bool b
 | int k n => exact .int k n
 | float k n => exact .float k n
 | string s => exact .string s
 | pointer a => cases a with
  | none => exact .ptrNil
  | some a => simp [scalar] at h
 | slice a l c => cases a with
  | none =>
   simp only [scalar,Bool.and_eq_true] at h
   obtain ⟨h1,h2⟩:=h
   obtain rfl:=Nat.eq_of_beq_eq_true h1
   obtain rfl:=Nat.eq_of_beq_eq_true h2
   exact .sliceNil
  | some a => simp [scalar] at h
 | map r => cases r with
  | none => exact .mapNil
  | some a => simp [scalar] at h
 | nilFunc => exact .nilFunc
 | nilIface => exact .nilIface
 | _ => simp [scalar] at h
theorem VRel.eq_of_scalar {μ:Mu} {v r:Value} (h:scalar v = true) (hr:VRel μ v r):r = v:=by
 cases hr <;> first | rfl | (simp [scalar] at h)
theorem VRels.of_scalars {μ:Mu}:∀ {cs:List Value},cs.all scalar = true → VRels μ cs cs
 | [],_ => .nil
 | c :: cs,h => by
  simp only [List.all_cons,Bool.and_eq_true] at h
  exact .cons (.of_scalar h.1) (VRels.of_scalars h.2)
theorem VRels.eq_of_scalars {μ:Mu}:∀ {cs ds:List Value},cs.all scalar = true → VRels μ cs ds → ds = cs
 | _,_,_,.nil => rfl
 | _,_,h,.cons a b => by
  simp only [List.all_cons,Bool.and_eq_true] at h
  rw [VRel.eq_of_scalar h.1 a,VRels.eq_of_scalars h.2 b]
theorem VRel.of_flat {μ:Mu} {v:Value} (h:flat v = true):VRel μ v v:=by
 cases v with
 | agg cs => obtain ⟨l⟩:=cs;exact .agg (.of_scalars (by simpa [flat] using h))
 | _ => exact .of_scalar (by simpa [flat] using h)
theorem VRel.eq_of_flat {μ:Mu} {v r:Value} (h:flat v = true) (hr:VRel μ v r):r = v:=by
 cases v with
 | agg cs =>
  obtain ⟨l⟩:=cs
  cases hr with
  | agg a => rw [VRels.eq_of_scalars (by simpa [flat] using h) a]
 | _ => exact VRel.eq_of_scalar (by simpa [flat] using h) hr
inductive Seg where
 | one (v:Value)
 | ints (k:IntKind) (n:Nat) (a:Nat → Int)
 | bools (n:Nat) (a:Nat → Bool)
 | rows (n sz:Nat) (g:Nat → List Value)
 | gap (n:Nat)
def Seg.size:Seg → Nat
 | .one _ => 1
 | .ints _ n _ => n
 | .bools n _ => n
 | .rows n sz _ => n * sz
 | .gap n => n
def Seg.get?:Seg → Nat → Option Value
 | .one v,o => bif Nat.beq o 0 then some v else none
 | .ints k n a,o => bif Nat.blt o n then some (.int k (a o)) else none
 | .bools n a,o => bif Nat.blt o n then some (.bool (a o)) else none
 | .rows n sz g,o => bif Nat.blt o (n * sz) then (g (o / sz))[o % sz]? else none
 | .gap _,_ => none
def segsSize:List Seg → Nat
 | [] => 0
 | s :: r => s.size + segsSize r
def segsGet?:List Seg → Nat → Option Value
 | [],_ => none
 | s :: r,o => bif Nat.blt o s.size then s.get? o else segsGet? r (o - s.size)
structure Blk where
 segs:List Seg
 ty:TypeId
 ro:Bool
def Blk.size (B:Blk):Nat:=segsSize B.segs
def Blk.get? (B:Blk) (o:Nat):Option Value:=segsGet? B.segs o
def BlkRel (μ:Mu) (B:Blk) (o:Option Obj):Prop:=
 ∃ cs t fr,o = some (.cells cs t fr) ∧ (B.ro = false → t = B.ty ∧ fr = (0,0) ∧ B.size ≤ cs.size) ∧
  ∀ off v,B.get? off = some v → ∃ r,cs[off]? = some r ∧ VRel μ v r
theorem BlkRel.mono {μ μ':Mu} {B:Blk} {o:Option Obj} (h:μ.le μ') (hb:BlkRel μ B o):BlkRel μ' B o:=by
 obtain ⟨cs,t,fr,e,h1,h2⟩:=hb
 exact ⟨cs,t,fr,e,h1,fun off v hv => let ⟨r,hr,k⟩:=h2 off v hv;⟨r,hr,k.mono h⟩⟩
abbrev HF:=Nat → Option Blk
abbrev Heap:=List (Nat × Blk)
def lk:Heap → HF
 | [],_ => none
 | (j,B) :: r,i => bif Nat.beq i j then some B else lk r i
def Own (μ:Mu) (h:HF) (b:Nat):Prop:=∃ i B,h i = some B ∧ B.ro = false ∧ μ i = some b
structure Rep (μ:Mu) (h:HF) (w:World):Prop where
 blk:∀ i B,h i = some B → (B.size ≠ 0 ∨ μ i ≠ none) → ∃ b,μ i = some b ∧ BlkRel μ B w.heap[b]?
 apart:∀ i j A B b,h i = some A → h j = some B → μ i = some b → μ j = some b → i ≠ j → A.ro = true ∧ B.ro = true
 bound:∀ i b,μ i = some b → b < w.heap.size
 size:∀ i B b,h i = some B → B.ro = false → μ i = some b → ∃ cs t fr,w.heap[b]? = some (.cells cs t fr) ∧ cs.size = μ.sz b
 frz:∀ b cs,μ.fz b = some cs → ∃ t fr,w.heap[b]? = some (.cells cs t fr)
 nofz:∀ i B b,h i = some B → B.ro = false → μ i = some b → μ.fz b = none
structure Keeps (μ:Mu) (h:HF) (w:World) (μ':Mu) (h':HF) (w':World):Prop where
 os:w'.os = w.os
 tape:w'.tape = w.tape
 output:w'.output = w.output
 size:w.heap.size ≤ w'.heap.size
 same:∀ b,b < w.heap.size → ¬ Own μ h b → w'.heap[b]? = w.heap[b]?
 old:∀ i B b,h' i = some B → μ' i = some b → b < w.heap.size → ∃ i0 B0,h i0 = some B0 ∧ μ i0 = some b ∧ (B.ro = false → B0.ro = false)
 ksz:∀ b,b < w.heap.size → μ'.sz b = μ.sz b
 kfz:∀ b cs,μ.fz b = some cs → μ'.fz b = some cs
 nfz:∀ b cs,μ'.fz b = some cs → μ.fz b = some cs ∨ Own μ h b ∨ w.heap.size ≤ b
theorem Keeps.own {μ μ':Mu} {h h':HF} {w w':World} (k:Keeps μ h w μ' h' w') (b:Nat) (hb:b < w.heap.size) (ho:Own μ' h' b):Own μ h b:=by
 obtain ⟨i,B,hi,hro,hm⟩:=ho
 obtain ⟨i0,B0,h0,m0,r0⟩:=k.old i B b hi hm hb
 exact ⟨i0,B0,h0,r0 hro,m0⟩
theorem Keeps.refl (μ:Mu) (h:HF) (w:World):Keeps μ h w μ h w:=⟨rfl,rfl,rfl,Nat.le_refl _,fun _ _ _ => rfl,fun i B _ e m _ => ⟨i,B,e,m,id⟩,fun _ _ => rfl,fun _ _ h => h,fun _ _ h => .inl h⟩
theorem Keeps.trans {μ μ₁ μ₂:Mu} {h h₁ h₂:HF} {w w₁ w₂:World} (a:Keeps μ h w μ₁ h₁ w₁) (b:Keeps μ₁ h₁ w₁ μ₂ h₂ w₂):Keeps μ h w μ₂ h₂ w₂ where
 os:=b.os.trans a.os
 tape:=b.tape.trans a.tape
 output:=b.output.trans a.output
 size:=Nat.le_trans a.size b.size
 same k hk ho:=(b.same k (Nat.lt_of_lt_of_le hk a.size) fun o => ho (a.own k hk o)).trans (a.same k hk ho)
 old i B k hi hm hk:=by
  obtain ⟨i1,B1,h1,m1,r1⟩:=b.old i B k hi hm (Nat.lt_of_lt_of_le hk a.size)
  obtain ⟨i0,B0,h0,m0,r0⟩:=a.old i1 B1 k h1 m1 hk
  exact ⟨i0,B0,h0,m0,fun h => r0 (r1 h)⟩
 ksz k hk:=(b.ksz k (Nat.lt_of_lt_of_le hk a.size)).trans (a.ksz k hk)
 kfz k cs h:=b.kfz k cs (a.kfz k cs h)
 nfz k cs h:=by
  rcases b.nfz k cs h with h | h | h
  ·exact a.nfz k cs h
  ·rcases Nat.lt_or_ge k w.heap.size with hk | hk
   ·exact .inr (.inl (a.own k hk h))
   ·exact .inr (.inr hk)
  ·exact .inr (.inr (Nat.le_trans a.size h))
theorem Keeps.sub {μ μ':Mu} {h h' h'':HF} {w w':World} (a:Keeps μ h w μ' h' w') (hs:∀ i B,h'' i = some B → h' i = some B):Keeps μ h w μ' h'' w':=
 { a with old:=fun i B b e m hb => a.old i B b (hs i B e) m hb }
theorem Rep.sub {μ:Mu} {h h':HF} {w:World} (r:Rep μ h w) (hs:∀ i B,h' i = some B → h i = some B):Rep μ h' w where
 blk i B e hne:=r.blk i B (hs i B e) hne
 apart i j A B b e f:=r.apart i j A B b (hs i A e) (hs j B f)
 bound:=r.bound
 size i B b e:=r.size i B b (hs i B e)
 frz:=r.frz
 nofz i B b e:=r.nofz i B b (hs i B e)
theorem Rep.heap_eq {μ:Mu} {h:HF} {w w':World} (r:Rep μ h w) (e:w'.heap = w.heap):Rep μ h w' where
 blk i B k hne:=by rw [e];exact r.blk i B k hne
 apart:=r.apart
 bound i b k:=by rw [e];exact r.bound i b k
 size i B b k:=by rw [e];exact r.size i B b k
 frz b cs k:=by rw [e];exact r.frz b cs k
 nofz:=r.nofz
theorem Keeps.drew (μ:Mu) (h:HF) (w:World):Keeps μ h w μ h w.drew:=⟨rfl,rfl,rfl,Nat.le_refl _,fun _ _ _ => rfl,fun i B _ e m _ => ⟨i,B,e,m,id⟩,fun _ _ => rfl,fun _ _ h => h,fun _ _ h => .inl h⟩
theorem VRel.of_solid {μ:Mu} {v:Value} (h:solid v = true):VRel μ v v:=by
 unfold solid at h
 split at h
 ·exact .bool _
 ·exact .int _ _
 ·exact .float _ _
 ·exact .string _
 ·exact .ptrNil
 ·exact .mapNil
 ·exact .nilFunc
 ·exact .nilIface
 ·rename_i l c
  simp only [Bool.and_eq_true] at h
  obtain rfl:=Nat.eq_of_beq_eq_true h.1
  obtain rfl:=Nat.eq_of_beq_eq_true h.2
  exact .sliceNil
 ·exact .func _ .nil .nil
 ·cases h
theorem VRel.eq_of_solid {μ:Mu} {v r:Value} (h:solid v = true) (hr:VRel μ v r):r = v:=by
 cases hr with
 | func fn a b =>
  rename_i fs fs' cs cs'
  match fs,fs',cs,cs',a,b,h with
  | [],[],[],[],_,_,_ => rfl
  | _ :: _,_,_,_,_,_,h => simp [solid] at h
  | [],_,_ :: _,_,_,_,h => simp [solid] at h
 | _ => first | rfl | (simp [solid] at h)
theorem VRels.of_solids {μ:Mu}:∀ {cs:List Value},cs.all solid = true → VRels μ cs cs
 | [],_ => .nil
 | c :: cs,h => by
  simp only [List.all_cons,Bool.and_eq_true] at h
  exact .cons (.of_solid h.1) (VRels.of_solids h.2)
theorem VRels.eq_of_solids {μ:Mu}:∀ {cs ds:List Value},cs.all solid = true → VRels μ cs ds → ds = cs
 | _,_,_,.nil => rfl
 | _,_,h,.cons a b => by
  simp only [List.all_cons,Bool.and_eq_true] at h
  rw [VRel.eq_of_solid h.1 a,VRels.eq_of_solids h.2 b]
theorem VRel.ptr_ne {μ:Mu} {i off:Nat} {s:Option Nat} {r:Value} (h:VRel μ (.pointer (some ⟨i,off,s⟩)) r):μ i ≠ none:=by
 cases h with
 | ptr e _ => rw [e];exact fun h => nomatch h
 | ptrS e _ _ => rw [e];exact fun h => nomatch h
theorem VRel.slice_ne {μ:Mu} {i off l c:Nat} {r:Value} (h:VRel μ (.slice (some ⟨i,off,none⟩) l c) r):μ i ≠ none:=by
 cases h with
 | slice e _ _ _ _ _ _ => rw [e];exact fun h => nomatch h
end Go.Proofs.Ytgnhhnmpeklciaa.VX
namespace Go.Proofs.Ytgnhhnmpeklciaa.VX
open Go
inductive Ex where
 | normal
 | exit (id:Nat)
 | ret
 deriving DecidableEq
abbrev Tm:=List (Nat × Value)
inductive Hint where
 | yes
 | no
 | lit (k:Nat)
 | sym
 | call (σ τ:List (Nat × Nat)) (n0:Nat) (v:Value) (post:Heap)
 | callr (σ:List (Nat × Nat)) (l:List Nat) (τ:List (Nat × Nat)) (n0:Nat) (v:Value) (post:Heap)
 | seg (live ids:List Nat) (e:Ex) (T':Tm) (H':Heap) (n':Nat)
 | segk (k id:Nat) (live ids:List Nat) (e:Ex) (T':Tm) (H':Heap) (n':Nat)
 | unroll
 | segs (l:List Seg)
 | eq (d:Nat) (w:Value)
 | row (j k:Nat)
 | cut (l h:Nat)
 | symcut
 | asRows
 | asInts
 | group (g:List Nat)
 | among (n:Nat)
 | ext (v:Value)
 | born
 | cutT (l:Nat)
 | lenT (k:Nat)
 | list (l:List Seg)
 | all
 | win (l:List Seg)
 | whole (l:List Seg)
def tget:Tm → Nat → Value
 | [],_ => .tuple ⟨[]⟩
 | (d,v) :: r,t => bif Nat.beq t d then v else tget r t
def upd {α:Type} (a:Nat → α) (o:Nat) (x:α):Nat → α:=fun j => bif Nat.beq j o then x else a j
inductive Upd where
 | cell (off:Nat) (v:Value)
 | blk (B:Blk)
 | del
def Seg.set:Seg → Nat → Value → Seg
 | .one x,o,v => bif Nat.beq o 0 then .one v else .one x
 | .ints k n a,o,.int k' x => bif k == k' then .ints k n (upd a o x) else .gap n
 | .ints _ n _,_,_ => .gap n
 | .bools n a,o,.bool x => .bools n (upd a o x)
 | .bools n _,_,_ => .gap n
 | .rows n sz _,_,_ => .gap (n * sz)
 | .gap n,_,_ => .gap n
def segsSet:List Seg → Nat → Value → List Seg
 | [],_,_ => []
 | s :: r,o,v => bif Nat.blt o s.size then s.set o v :: r else s :: segsSet r (o - s.size) v
def Blk.set (B:Blk) (o:Nat) (v:Value):Blk:={ B with segs:=segsSet B.segs o v }
def upd1 (h:HF) (x:Nat × Upd):HF:=fun j =>
 bif Nat.beq j x.1 then
  match x.2 with
  | .blk B => some B
  | .cell o v => (h j).map fun B => B.set o v
  | .del => none
 else h j
def app:List (Nat × Upd) → HF → HF
 | [],h => h
 | x :: r,h => app r (upd1 h x)
def hput:Heap → Nat → Blk → Heap
 | [],i,B => [(i,B)]
 | (j,C) :: r,i,B => bif Nat.beq i j then (i,B) :: r else (j,C) :: hput r i B
def hcell:Heap → Nat → Nat → Value → Heap
 | [],_,_,_ => []
 | (j,C) :: r,i,o,v => bif Nat.beq i j then (j,C.set o v) :: r else (j,C) :: hcell r i o v
def hdel:Heap → Nat → Heap
 | [],_ => []
 | (j,C) :: r,i => bif Nat.beq i j then hdel r i else (j,C) :: hdel r i
def happ:List (Nat × Upd) → Heap → Heap
 | [],h => h
 | (i,.blk B) :: r,h => happ r (hput h i B)
 | (i,.del) :: r,h => happ r (hdel h i)
 | (i,.cell o v) :: r,h => happ r (hcell h i o v)
structure Out where
 v:Value
 eff:List (Nat × Upd)
 rd:List Nat
 sh:List Nat
 new:List Nat
 n:Nat
 hs:List Hint
 ob:List Prop
def look:List (Nat × Nat) → Nat → Option Nat
 | [],_ => none
 | (i,j) :: r,x => bif Nat.beq x i then some j else look r x
def rn (σ:List (Nat × Nat)):Nat → Value → Value
 | _,.func (.yield z) l c => .func (.yield z) l c
 | _,.func (.method s) l c => .func (.method s) l c
 | _,.pointer (some a) => match look σ a.block with
  | some j => .pointer (some ⟨j,a.off,a.spot⟩)
  | none => .tuple ⟨[]⟩
 | _,.slice (some a) l c => match look σ a.block with
  | some j => .slice (some ⟨j,a.off,a.spot⟩) l c
  | none => .tuple ⟨[]⟩
 | d + 1,.agg ⟨cs⟩ => .agg ⟨cs.map (rn σ d)⟩
 | d + 1,.tuple ⟨cs⟩ => .tuple ⟨cs.map (rn σ d)⟩
 | d + 1,.func fn ⟨fs⟩ ⟨cs⟩ => .func fn ⟨fs.map (rn σ d)⟩ ⟨cs.map (rn σ d)⟩
 | d + 1,.iface t v => .iface t (rn σ d v)
 | 0,.agg _ => .tuple ⟨[]⟩
 | 0,.tuple _ => .tuple ⟨[]⟩
 | 0,.func .. => .tuple ⟨[]⟩
 | 0,.iface .. => .tuple ⟨[]⟩
 | _,v => v
def rnS (σ:List (Nat × Nat)):Seg → Seg
 | .one v => .one (rn σ 6 v)
 | .rows n sz g => .rows n sz (fun i => (g i).map (rn σ 6))
 | s => s
def rnB (σ:List (Nat × Nat)) (B:Blk):Blk:={ B with segs:=B.segs.map (rnS σ) }
def swap (σ:List (Nat × Nat)):List (Nat × Nat):=σ.map fun x => (x.2,x.1)
def Gl (P:Program) (μ:Mu):Prop:=∀ g,g < P.globals.size → μ g = some g
structure FnSpec (P:Program) (g:FuncId) (n0:Nat) (A:List Value) (H:Heap) (v:Value) (H':Heap):Prop where
 enters:∀ (args:Array Value) (w:World),(callFunc g args).run P w = .ok (.enter g args) w
 runs:∀ (μ:Mu) (w:World) (rargs:List Value),Gl P μ → (∀ i,n0 ≤ i → μ i = none) → VRels μ A rargs → Rep μ (lk H) w →
  Calls P g ⟨rargs⟩ w fun e w' => ∃ μ' rv,(μ.le μ' ∧ ∀ i,i < n0 → μ' i = μ i) ∧ Rep μ' (lk H') w' ∧ VRel μ' v rv ∧ e = .returned rv ∧ Keeps μ (lk H) w μ' (lk H') w'
def ExtSpec (P:Program) (g:FuncId) (args:List Value) (v:Value):Prop:=
 args.all solid = true ∧ solid v = true ∧ ∀ w:World,(callFunc g ⟨args⟩).run P w = .ok (.value v) w
def ev (P:Program) (T:Tm):Operand → Value
 | .tmp t => tget T t
 | .const v => bif flat v then v else .tuple ⟨[]⟩
 | .global g => bif Nat.blt g P.globals.size then .pointer (some ⟨g,0,none⟩) else .tuple ⟨[]⟩
 | .func f => .func (.func f) ⟨[]⟩ ⟨[]⟩
def isAggB (P:Program) (t:TypeId):Option Bool:=
 match P.underlying t with
 | some (.struct _) => some true
 | some (.array _ _) => some true
 | some _ => some false
 | none => none
def sizeB (P:Program) (t:TypeId):Option Nat:=(P.info? t).map (·.size)
def gets (B:Blk):Nat → Nat → Option (List Value)
 | _,0 => some []
 | o,n + 1 => match B.get? o with
  | some v => match gets B (o + 1) n with
   | some r => some (v :: r)
   | none => none
  | none => none
def segAt:List Seg → Nat → Option Seg
 | [],_ => none
 | s :: r,o => bif Nat.beq o 0 then some s else bif Nat.blt o s.size then none else segAt r (o - s.size)
def gapOb:List Seg → Nat → List Prop
 | [.gap n,_],s => [s = n]
 | _,_ => []
def segAtG:List Seg → Nat → Option Seg
 | [.gap _,sg],_ => some sg
 | l,s => segAt l s
def xload (P:Program) (H:HF) (t:TypeId):Value → Option (Value × Nat × List Prop)
 | .pointer (some ⟨i,off,none⟩) =>
  match H i,isAggB P t,sizeB P t with
  | some B,some true,some n => (gets B off n).map fun l => (.agg ⟨l⟩,i,[])
  | some B,some false,_ => (B.get? off).map fun v => (v,i,[])
  | _,_,_ => none
 | .pointer (some ⟨i,off,some s⟩) =>
  match H i,isAggB P t with
  | some B,some false =>
   match segAtG B.segs s with
   | some (.ints k n a) => some (.int k (a off),i,gapOb B.segs s ++ [off < n])
   | some (.bools n a) => some (.bool (a off),i,gapOb B.segs s ++ [off < n])
   | _ => none
  | _,_ => none
 | _ => none
def storable:Value → Bool
 | .agg _ => false
 | .tuple _ => false
 | .chan none => false
 | _ => true
def cellsEff (i:Nat):Nat → List Value → List (Nat × Upd)
 | _,[] => []
 | o,v :: r => (i,.cell o v) :: cellsEff i (o + 1) r
def segPut:List Seg → Nat → Nat → Value → Option (List Seg × Nat)
 | [],_,_,_ => none
 | s :: r,st,o,v =>
  bif Nat.beq st 0 then
   match s,v with
   | .ints k n a,.int k' x => bif k == k' then some (.ints k n (upd a o x) :: r,n) else none
   | .bools n a,.bool x => some (.bools n (upd a o x) :: r,n)
   | _,_ => none
  else bif Nat.blt st s.size then none else
   match segPut r (st - s.size) o v with
   | some (r',n) => some (s :: r',n)
   | none => none
inductive StoreOut where
 | cells (i off:Nat) (vs:List Value)
 | whole (i:Nat) (B:Blk) (ob:Prop)
def xstore (P:Program) (H:HF) (t:TypeId) (p v:Value):Option StoreOut:=
 match p with
 | .pointer (some ⟨i,off,none⟩) =>
  match H i,sizeB P t with
  | some B,some n =>
   bif !B.ro && Nat.beq v.cells.toList.length n && v.cells.toList.all storable && Nat.ble (off + n) B.size then some (.cells i off v.cells.toList) else none
  | _,_ => none
 | .pointer (some ⟨i,off,some s⟩) =>
  match H i,sizeB P t with
  | some B,some 1 =>
   bif !B.ro && storable v then
    match segPut B.segs s off v with
    | some (l,n) => some (.whole i { B with segs:=l } (off < n))
    | none => none
   else none
  | _,_ => none
 | _ => none
def boolsOf:List Value → Option (List Bool)
 | [] => some []
 | .bool b :: r => (boolsOf r).map (b :: ·)
 | _ => none
def strsOf:List Value → Option (List ByteArray)
 | [] => some []
 | .string s :: r => (strsOf r).map (s :: ·)
 | _ => none
def intsOf (k:IntKind):List Value → Option (List Int)
 | [] => some []
 | .int k' n :: r => bif k == k' then (intsOf k r).map (n :: ·) else none
 | _ => none
def groupSegs:List Nat → List Value → Option (List Seg)
 | [],[] => some []
 | [],_ :: _ => none
 | n :: r,c :: cs => bif Nat.beq n 1 then (groupSegs r cs).map (.one c :: ·) else
   match c with
   | .int k _ => match intsOf k ((c :: cs).take n) with
    | some ns => bif Nat.beq ns.length n then (groupSegs r ((c :: cs).drop n)).map (.ints k n (fun j => ns.getD j 0) :: ·) else none
    | none => none
   | _ => none
 | _ :: _,[] => none
def mulSz (i size:Nat):Nat:=bif Nat.beq size 1 then i else i * size
def eqv (P:Program):Nat → TypeId → Value → Value → Option Bool
 | 0,_,_,_ => none
 | d + 1,t,x,y =>
  match P.underlying t,x,y with
  | some .bool,.bool a,.bool b => some (a == b)
  | some (.int _),.int k a,.int k' b => bif k == k' then some (a == b) else none
  | some .string,.string a,.string b => some (a == b)
  | some (.pointer _),.pointer none,.pointer b => some b.isNone
  | some (.pointer _),.pointer (some _),.pointer none => some false
  | some (.slice _),.slice none _ _,.slice b _ _ => some b.isNone
  | some (.slice _),.slice (some _) _ _,.slice none _ _ => some false
  | some (.struct fs),.agg ⟨xs⟩,.agg ⟨ys⟩ =>
   bif (P.stoodInAs t).isEmpty then
    fs.toList.foldr (fun f acc =>
     match acc with
     | none => none
     | some b => bif f.name == "_" then none else
      match isAggB P f.type,sizeB P f.type with
      | some true,some n => match eqv P d f.type (.agg ⟨(xs.drop f.offset).take n⟩) (.agg ⟨(ys.drop f.offset).take n⟩) with
       | some c => some (c && b)
       | none => none
      | some false,_ => match xs[f.offset]?,ys[f.offset]? with
       | some p,some q => match eqv P d f.type p q with
        | some c => some (c && b)
        | none => none
       | _,_ => none
      | _,_ => none) (some true)
   else none
  | _,_,_ => none
def bAnd (k:IntKind) (a b:Int):Int:=k.wrap (BitVec.ofInt k.bits a &&& BitVec.ofInt k.bits b).toNat
def bOr (k:IntKind) (a b:Int):Int:=k.wrap (BitVec.ofInt k.bits a ||| BitVec.ofInt k.bits b).toNat
def bXor (k:IntKind) (a b:Int):Int:=k.wrap (BitVec.ofInt k.bits a ^^^ BitVec.ofInt k.bits b).toNat
def bAndNot (k:IntKind) (a b:Int):Int:=k.wrap (BitVec.ofInt k.bits a &&& ~~~BitVec.ofInt k.bits b).toNat
def bShl (k:IntKind) (a b:Int):Int:=k.wrap (a * 2 ^ (min b.toNat k.bits))
def bShr (k:IntKind) (a b:Int):Int:=a.fdiv (2 ^ (min b.toNat k.bits))
def untag:Option Addr → Bool
 | some ⟨_,_,some _⟩ => false
 | _ => true
def xbin (P:Program) (op:BinOp) (t:TypeId) (x y:Value):Option (Value × List Prop):=
 match op,x,y with
 | .shl,.int k a,.int _ b => some (.int k (bShl k a b),[0 ≤ b])
 | .shr,.int k a,.int _ b => some (.int k (bShr k a b),[0 ≤ b])
 | .add,.int k a,.int k' b => bif k == k' then some (.int k (k.wrap (a + b)),[]) else none
 | .sub,.int k a,.int k' b => bif k == k' then some (.int k (k.wrap (a - b)),[]) else none
 | .mul,.int k a,.int k' b => bif k == k' then some (.int k (k.wrap (a * b)),[]) else none
 | .quo,.int k a,.int k' b => bif k == k' then some (.int k (k.wrap (a.tdiv b)),[b ≠ 0]) else none
 | .rem,.int k a,.int k' b => bif k == k' then some (.int k (a.tmod b),[b ≠ 0]) else none
 | .and,.int k a,.int k' b => bif k == k' then some (.int k (bAnd k a b),[]) else none
 | .or,.int k a,.int k' b => bif k == k' then some (.int k (bOr k a b),[]) else none
 | .xor,.int k a,.int k' b => bif k == k' then some (.int k (bXor k a b),[]) else none
 | .andNot,.int k a,.int k' b => bif k == k' then some (.int k (bAndNot k a b),[]) else none
 | .eql,.int k a,.int k' b => bif k == k' then some (.bool (a == b),[]) else none
 | .neq,.int k a,.int k' b => bif k == k' then some (.bool (a != b),[]) else none
 | .lss,.int k a,.int k' b => bif k == k' then some (.bool (decide (a < b)),[]) else none
 | .leq,.int k a,.int k' b => bif k == k' then some (.bool (decide (a ≤ b)),[]) else none
 | .gtr,.int k a,.int k' b => bif k == k' then some (.bool (decide (a > b)),[]) else none
 | .geq,.int k a,.int k' b => bif k == k' then some (.bool (decide (a ≥ b)),[]) else none
 | .eql,.string a,.string b => some (.bool (a.toList == b.toList),[])
 | .neq,.string a,.string b => some (.bool !(a.toList == b.toList),[])
 | .add,.string a,.string b => some (.string (a ++ b),[a.size + b.size ≤ 1073741824])
 | .eql,.agg ⟨a⟩,.agg ⟨b⟩ => bif a.all scalar && b.all scalar && !P.eqGuardType P.depth t then (eqv P 10000 t (.agg ⟨a⟩) (.agg ⟨b⟩)).map fun c => (.bool c,[]) else none
 | .neq,.agg ⟨a⟩,.agg ⟨b⟩ => bif a.all scalar && b.all scalar && !P.eqGuardType P.depth t then (eqv P 10000 t (.agg ⟨a⟩) (.agg ⟨b⟩)).map fun c => (.bool (!c),[]) else none
 | .eql,.bool a,.bool b => (eqv P 10000 t (.bool a) (.bool b)).map fun c => (.bool c,[])
 | .neq,.bool a,.bool b => (eqv P 10000 t (.bool a) (.bool b)).map fun c => (.bool (!c),[])
 | .eql,.pointer a,.pointer b => (eqv P 10000 t (.pointer a) (.pointer b)).map fun c => (.bool c,[])
 | .neq,.pointer a,.pointer b => (eqv P 10000 t (.pointer a) (.pointer b)).map fun c => (.bool (!c),[])
 | .eql,.slice a l c,.slice b l' c' => bif untag a && untag b then (eqv P 10000 t (.slice a l c) (.slice b l' c')).map fun c => (.bool c,[]) else none
 | .neq,.slice a l c,.slice b l' c' => bif untag a && untag b then (eqv P 10000 t (.slice a l c) (.slice b l' c')).map fun c => (.bool (!c),[]) else none
 | _,_,_ => none
def xun (op:UnOp) (x:Value):Option Value:=
 match op,x with
 | .not,.bool b => some (.bool !b)
 | .neg,.int k n => some (.int k (k.wrap (0 - n)))
 | .xor,.int k n => some (.int k (bXor k (if k.signed then -1 else k.max) n))
 | _,_ => none
def xconv (P:Program) (dst:TypeId) (x:Value):Option Value:=
 match P.underlying dst,x with
 | some (.int k),.int _ n => some (.int k (k.wrap n))
 | _,_ => none
def strAt (s:ByteArray) (i:Nat):Int:=(s.data.getD i 0).toNat
def swapOk (σ:List (Nat × Nat)) (n0:Nat):Bool:=
 σ.all fun x => (match look (swap σ) x.2 with | some i => Nat.beq i x.1 | none => false) && (match look σ x.1 with | some j => Nat.beq j x.2 | none => false) &&
  Nat.blt x.2 n0 && (Nat.ble 1000 x.2 || Nat.beq x.1 x.2)
def newOk (τ σ:List (Nat × Nat)) (n0:Nat):Nat → Bool:=fun n =>
 match τ with
 | [] => true
 | (j,i) :: r => Nat.beq i n && Nat.ble n0 j && (look σ i).isNone && newOk r σ n0 (n + 1)
def postHas (post:Heap) (τ:List (Nat × Nat)):List (Nat × Nat) → Bool
 | [] => true
 | (j,i) :: r => (lk post j).isSome && (match look τ j with | some k => Nat.beq k i | none => false) && postHas post τ r
def nodupIds:Heap → Bool
 | [] => true
 | (i,_) :: r => (lk r i).isNone && nodupIds r
def renBack (σ τ:List (Nat × Nat)):List (Nat × Nat):=swap σ ++ τ
def subHeap (H:HF) (σ:List (Nat × Nat)):List (Nat × Nat) → Option Heap
 | [] => some []
 | (i,j) :: r => match H i,subHeap H σ r with
  | some B,some h => some ((j,rnB σ B) :: h)
  | _,_ => none
def postEff (ρ:List (Nat × Nat)):Heap → Option (List (Nat × Upd))
 | [] => some []
 | (j,B) :: r => match look ρ j,postEff ρ r with
  | some i,some e => some ((i,.blk (rnB ρ B)) :: e)
  | _,_ => none
def roB:Option Blk → Bool
 | some B => B.ro
 | none => false
def goneEff (H:HF) (post:Heap):List (Nat × Nat) → List (Nat × Upd)
 | [] => []
 | (i,j) :: r => bif roB (H i) || (lk post j).isSome then goneEff H post r else (i,.del) :: goneEff H post r
def xcall (P : Program) (H : HF) (n : Nat) (g : FuncId) (args : List Value) : List Hint → Option Out
  | .call σ τ n0 v post :: hs =>
    match subHeap H σ σ with
    | some h0 =>
      match postEff (renBack σ τ) post with
      | some e =>
        bif swapOk σ n0 && newOk τ σ n0 n && (nodupIds post && postHas post τ τ) && Nat.ble 1000 n0 then
          some { v := rn (renBack σ τ) 6 v, eff := goneEff H post σ ++ e, rd := σ.map (·.1), sh := [], new := τ.map (·.2), n := n + τ.length, hs,
                 ob := [FnSpec P g n0 (args.map (rn σ 6)) h0 v post] }
        else none
      | none => none
    | none => none
  | _ => none
def Blk.lend (B:Blk):Blk:={ B with ro:=true }
def memN (x:Nat):List Nat → Bool
 | [] => false
 | y :: r => Nat.beq x y || memN x r
def roH (l:List Nat) (H:HF):HF:=fun i => bif memN i l then (H i).map Blk.lend else H i
def lendOk (l:List Nat):List (Nat × Upd) → Bool
 | [] => true
 | (i,u) :: r => !memN i l && (match u with | .blk B => !B.ro | .del => true | .cell .. => false) && lendOk l r
def xcallA (P:Program) (H:HF) (n:Nat) (g:FuncId) (args:List Value) (hs:List Hint):Option Out:=
 match hs with
 | .callr σ l τ n0 v post :: hs' =>
  match xcall P (roH l H) n g args (.call σ τ n0 v post :: hs') with
  | some out => bif lendOk l out.eff then some out else none
  | none => none
 | .ext v :: hs' => some { v,eff:=[],rd:=[],sh:=[],new:=[],n,hs:=hs',ob:=[ExtSpec P g args v] }
 | hs => xcall P H n g args hs
def silent (v:Value) (n:Nat) (hs:List Hint) (ob:List Prop):Out:={ v,eff:=[],rd:=[],sh:=[],new:=[],n,hs,ob }
def cellsBlk (cs:List Value) (t:TypeId):Blk:={ segs:=cs.map .one,ty:=t,ro:=false }
def newBlk (n:Nat) (B:Blk) (v:Value) (hs:List Hint) (ob:List Prop):Out:={ v,eff:=[(n,.blk B)],rd:=[],sh:=[],new:=[n],n:=n + 1,hs,ob }
def takeB (b:Bool):List Hint → Option (Bool × List Hint × List Prop)
 | .yes :: hs => some (true,hs,[b = true])
 | .no :: hs => some (false,hs,[b = false])
 | _ => none
def xat (i off:Nat) (s:Option Nat) (len size:Nat) (ix:Int):List Hint → Option (Value × List Hint × List Prop)
 | .lit k :: hs => some (.pointer (some ⟨i,off + k * size,s⟩),hs,[ix = (k:Int),k < len])
 | .sym :: hs =>
  match s with
  | none => some (.pointer (some ⟨i,mulSz ix.toNat size,some off⟩),hs,[0 ≤ ix ∧ ix < (len:Int)])
  | some _ => some (.pointer (some ⟨i,bif Nat.beq off 0 then mulSz ix.toNat size else off + mulSz ix.toNat size,s⟩),hs,[0 ≤ ix ∧ ix < (len:Int)])
 | _ => none
def matchInts (k:IntKind) (a:Nat → Int):Nat → Nat → List Value → Option (List Value)
 | 0,_,l => some l
 | n + 1,j,.int k' x :: l => bif k == k' && x == a j then matchInts k a n (j + 1) l else none
 | _ + 1,_,_ => none
def matchBools (a:Nat → Bool):Nat → Nat → List Value → Option (List Value)
 | 0,_,l => some l
 | n + 1,j,.bool x :: l => bif x == a j then matchBools a n (j + 1) l else none
 | _ + 1,_,_ => none
def sameScalar:Value → Value → Bool
 | .bool a,.bool b => a == b
 | .int k a,.int k' b => k == k' && a == b
 | .pointer none,.pointer none => true
 | .slice none a b,.slice none c d => Nat.beq a 0 && Nat.beq b 0 && (Nat.beq c 0 && Nat.beq d 0)
 | .map none,.map none => true
 | .nilFunc,.nilFunc => true
 | .nilIface,.nilIface => true
 | .string a,.string b => Nat.beq a.size 0 && Nat.beq b.size 0
 | _,_ => false
def matchSegs:List Seg → List Value → Bool
 | [],[] => true
 | .one v :: r,c :: l => sameScalar v c && matchSegs r l
 | .ints k n a :: r,l => match matchInts k a n 0 l with
  | some l' => matchSegs r l'
  | none => false
 | .bools n a :: r,l => match matchBools a n 0 l with
  | some l' => matchSegs r l'
  | none => false
 | _,_ => false
def placesOf (P:Program) (fields:List Field):Option (List (Nat × Nat)):=
 match fields with
 | [] => some []
 | f :: r => match sizeB P f.type,placesOf P r with
  | some n,some l => some ((f.offset,n) :: l)
  | _,_ => none
def lay (cells:List Value) (off:Nat):List Value → List Value
 | [] => cells
 | c :: r => lay (cells.set off c) (off + 1) r
def layAll (place:Nat → Option (Nat × Nat)):List (Nat × Value) → List Value → Option (List Value)
 | [],cells => some cells
 | (i,v) :: r,cells =>
  match place i with
  | none => none
  | some (off,size) =>
   bif Nat.beq v.cells.toList.length size && Nat.ble (off + size) cells.length && v.cells.toList.all storable then layAll place r (lay cells off v.cells.toList) else none
def SegsOk (l:List Seg) (cs:List Value):Prop:=segsSize l = cs.length ∧ ∀ o v,segsGet? l o = some v → cs[o]? = some v
def repeatCells (zero:List Value):Nat → List Value
 | 0 => []
 | n + 1 => zero ++ repeatCells zero n
def xop0 (P:Program) (ρ:Operand → Value) (H:HF) (n:Nat) (hs:List Hint) (o:Oper):Option Out:=
 match o.op with
 | .move x => some (silent (ρ x) n hs [])
 | .assign x => some (silent (ρ x) n hs [])
 | .pick c a b =>
  match ρ c with
  | .bool t => match takeB t hs with
   | some (d,hs,ob) => some (silent (bif d then ρ a else ρ b) n hs ob)
   | none => none
  | _ => none
 | .alloc e =>
  match P.info? e with
  | some i => match i.zero with
   | some z => bif flat z then
     match hs with
     | .segs l :: hs => bif matchSegs l z.cells.toList then some (newBlk n { segs:=l,ty:=e,ro:=false } (.pointer (some ⟨n,0,none⟩)) hs []) else none
     | _ => some (newBlk n (cellsBlk z.cells.toList e) (.pointer (some ⟨n,0,none⟩)) hs [])
    else none
   | none => none
  | none => none
 | .box e x => bif (ρ x).cells.toList.all storable then
   match hs with
   | .group g :: hs => (groupSegs g (ρ x).cells.toList).map fun l => newBlk n { segs:=l,ty:=e,ro:=false } (.pointer (some ⟨n,0,none⟩)) hs []
   | .segs l :: hs => bif matchSegs l (ρ x).cells.toList then some (newBlk n { segs:=l,ty:=e,ro:=false } (.pointer (some ⟨n,0,none⟩)) hs []) else none
   | _ => some (newBlk n (cellsBlk (ρ x).cells.toList e) (.pointer (some ⟨n,0,none⟩)) hs [])
  else none
 | .load t p =>
  match xload P H t (ρ p) with
  | some (v,i,ob) => some { v,eff:=[],rd:=[i],sh:=[],new:=[],n,hs,ob }
  | none => none
 | .store t p x =>
  match xstore P H t (ρ p) (ρ x) with
  | some (.cells i off vs) => some { v:=.tuple ⟨[]⟩,eff:=cellsEff i off vs,rd:=[],sh:=[i],new:=[],n,hs,ob:=[] }
  | some (.whole i B ob) => some { v:=.tuple ⟨[]⟩,eff:=[(i,.blk B)],rd:=[i],sh:=[],new:=[],n,hs,ob:=[ob] }
  | none => none
 | .nilCheck x =>
  match ρ x with
  | .pointer (some a) => some (silent (.pointer (some a)) n hs [])
  | .func (.func f) fs cs => some (silent (.func (.func f) fs cs) n hs [])
  | _ => none
 | .binOp op t x y _ =>
  match xbin P op t (ρ x) (ρ y) with
  | some (v,ob) => some (silent v n hs ob)
  | none => none
 | .unOp op _ x => (xun op (ρ x)).map fun v => silent v n hs []
 | .convert src dst x => match (P.underlying src).isSome with
  | true => (xconv P dst (ρ x)).map fun v => silent v n hs []
  | false => none
 | .fieldAddr s p f =>
  match ρ p,P.underlying s with
  | .pointer (some ⟨i,off,sp⟩),some (.struct fields) =>
   match fields[f]? with
   | some fd => match sizeB P fd.type with
    | some (_ + 1) => some (silent (.pointer (some ⟨i,off + fd.offset,sp⟩)) n hs [])
    | _ => none
   | none => none
  | _,_ => none
 | .field t x f =>
  match ρ x,P.underlying t with
  | .agg ⟨cs⟩,some (.struct fields) =>
   match fields[f]? with
   | some fd => match isAggB P fd.type,sizeB P fd.type with
    | some true,some m => some (silent (.agg ⟨(cs.drop fd.offset).take m⟩) n hs [])
    | some false,_ => (cs[fd.offset]?).map fun v => silent v n hs []
    | _,_ => none
   | none => none
  | _,_ => none
 | .indexAddr t x ix =>
  match ρ ix,P.underlying t,ρ x with
  | .int _ i,some (.array len e),.pointer (some ⟨b,off,sp⟩) =>
   match sizeB P e with
   | some size => match xat b off sp len size i hs with
    | some (v,hs,ob) => some (silent v n hs ob)
    | none => none
   | none => none
  | .int _ i,some (.slice e),.slice (some ⟨b,off,sp⟩) len _ =>
   match sizeB P e with
   | some size => match xat b off sp len size i hs with
    | some (v,hs,ob) => some (silent v n hs ob)
    | none => none
   | none => none
  | _,_,_ => none
 | .index t x ix =>
  match ρ ix,P.underlying t,ρ x with
  | .int _ i,some (.array len e),.agg ⟨cs⟩ =>
   match isAggB P e,sizeB P e,hs with
   | some false,some 1,.lit k :: hs => (cs[k]?).map fun v => silent v n hs [i = (k:Int),k < len]
   | some false,some 1,.sym :: hs => match cs with
    | .int k z :: r => (intsOf k (.int k z :: r)).map fun l => silent (.int k (l.getD i.toNat 0)) n hs [0 ≤ i ∧ i < (len:Int),l.length = len]
    | _ => none
   | _,_,_ => none
  | .int _ i,some .string,.string s => some (silent (.int .u8 (strAt s i.toNat)) n hs [0 ≤ i ∧ i < (s.size:Int)])
  | _,_,_ => none
 | .extract x i =>
  match ρ x with
  | .tuple ⟨vs⟩ => (vs[i]?).map fun v => silent v n hs []
  | _ => none
 | .build t parts =>
  match P.info? t,P.underlying t with
  | some inf,some (.struct fields) =>
   match inf.zero,placesOf P fields.toList with
   | some z,some pl => bif flat z then
     (layAll (fun i => pl[i]?) (parts.toList.map fun p => (p.1,ρ p.2)) z.cells.toList).map fun l => silent (.agg ⟨l⟩) n hs []
    else none
   | _,_ => none
  | some inf,some (.array _ e) =>
   match inf.zero,sizeB P e with
   | some z,some sz => bif flat z then
     (layAll (fun i => some (i * sz,sz)) (parts.toList.map fun p => (p.1,ρ p.2)) z.cells.toList).map fun l => silent (.agg ⟨l⟩) n hs []
    else none
   | _,_ => none
  | _,_ => none
 | .buildSlice t (len + 1) parts =>
  match P.underlying t with
  | some (.slice e) =>
   match P.info? e with
   | some inf =>
    match inf.zero with
    | some z =>
     bif flat z && Nat.beq z.cells.toList.length inf.size && Nat.ble 1 inf.size && Nat.ble ((len + 1) * inf.size) 16777216 then
      (layAll (fun i => some (i * inf.size,inf.size)) (parts.toList.map fun p => (p.1,ρ p.2)) (repeatCells z.cells.toList (len + 1))).map fun l =>
       match hs with
       | .list S :: hs' => newBlk n { segs:=S,ty:=e,ro:=false } (.slice (some ⟨n,0,some 0⟩) (len + 1) inf.size) hs' [SegsOk S l]
       | hs => newBlk n (cellsBlk l e) (.slice (some ⟨n,0,none⟩) (len + 1) inf.size) hs []
     else none
    | none => none
   | none => none
  | _ => none
 | .makeFunc (.func f) first captured => some (silent (.func (.func f) ⟨first.toList.map ρ⟩ ⟨captured.toList.map ρ⟩) n hs [])
 | .call c =>
  match c.callee with
  | .value f =>
   match ρ f with
   | .func (.func g) ⟨fs⟩ ⟨cs⟩ => xcallA P H n g (fs ++ c.args.toList.map ρ ++ cs) hs
   | _ => none
  | .builtin .len =>
   match c.argTypes[0]?,c.args.toList with
   | some t,[x] =>
    match P.underlying t,ρ x with
    | some .string,.string s => some (silent (.int .i64 s.size) n hs [])
    | some (.array m _),_ => some (silent (.int .i64 m) n hs [])
    | some (.slice _),.slice _ m _ => some (silent (.int .i64 m) n hs [])
    | _,_ => none
   | _,_ => none
  | _ => none
 | _ => none
def ycells (H:HF) (sz:Nat):Value → Option (List Value × Nat × List Nat × List Prop)
 | .slice (some ⟨i,off,none⟩) m _ =>
  match H i with
  | some B => (gets B off (m * sz)).map fun l => (l,m,[i],[])
  | none => none
 | .func (.yield z) ⟨l⟩ ⟨[.bool f]⟩ => bif Nat.beq z sz && Nat.beq (l.length / z * z) l.length then some (l,l.length / z,[],[f = true]) else none
 | _ => none
def addSegs:List Seg → List Value → List Seg
 | [.ints k n a],[.int k' x] => bif k == k' then [.ints k (n + 1) (upd a n x)] else [.ints k n a,.one (.int k' x)]
 | [.rows n sz g],cs => bif Nat.beq cs.length sz then [.rows (n + 1) sz (upd g n cs)] else .rows n sz g :: cs.map .one
 | l,cs => l ++ cs.map .one
def firstSegs (sz:Nat) (cs:List Value):List Hint → List Seg × List Hint
 | .asRows :: hs => (bif Nat.beq cs.length sz then [.rows 1 sz fun _ => cs] else cs.map .one,hs)
 | .asInts :: hs => (match cs with | [.int k x] => [.ints k 1 fun _ => x] | _ => cs.map .one,hs)
 | hs => (cs.map .one,hs)
def zeroOk (inf:TypeInfo):Bool:=match inf.zero with
 | some z => Nat.beq z.cells.toList.length inf.size
 | none => false
def xappend (P : Program) (ρ : Operand → Value) (H : HF) (n : Nat) (hs : List Hint) (c : Call) : Option Out :=
  match c.argTypes.toList, c.args.toList with
  | [tx, ty], [x, y] =>
    match P.underlying tx, P.underlying ty with
    | some (.slice e), some (.slice _) =>
      match P.info? e with
      | some inf =>
        match ycells H inf.size (ρ y) with
        | some (cs, m, rd, ob) =>
          bif Nat.ble 1 inf.size && Nat.ble inf.bytes 1048576 && zeroOk inf && Nat.ble 1 m && Nat.beq cs.length (m * inf.size) && cs.all storable then
            match ρ x with
            | .slice none 0 0 =>
              let q := firstSegs inf.size cs hs
              some { v := .slice (some ⟨n, 0, none⟩) m inf.size, eff := [(n, .blk { segs := q.1, ty := e, ro := false })], rd, sh := [], new := [n], n := n + 1, hs := q.2, ob := (m ≤ 1048576) :: ob }
            | .func (.yield 0) ⟨[]⟩ ⟨[.bool f]⟩ =>
              let q := firstSegs inf.size cs hs
              some { v := .slice (some ⟨n, 0, none⟩) m inf.size, eff := [(n, .blk { segs := q.1, ty := e, ro := false })], rd, sh := [], new := [n], n := n + 1, hs := q.2, ob := (f = true) :: (m ≤ 1048576) :: ob }
            | .slice (some ⟨i, 0, none⟩) len z =>
              match H i with
              | some B =>
                bif Nat.beq z inf.size && !B.ro && Nat.beq B.ty e then
                  some { v := .slice (some ⟨n, 0, none⟩) (len + m) inf.size, eff := [(i, .del), (n, .blk { segs := addSegs B.segs cs, ty := e, ro := false })], rd := i :: rd, sh := [], new := [n], n := n + 1, hs,
                         ob := (len + m ≤ 1048576) :: (B.size = len * inf.size) :: ob }
                else none
              | none => none
            | .slice (some ⟨i, 0, some 0⟩) len z =>
              match H i, hs with
              | some B, .list l :: hs' =>
                bif Nat.beq z inf.size && !B.ro && Nat.beq B.ty e then
                  some { v := .slice (some ⟨n, 0, some 0⟩) (len + m) inf.size, eff := [(i, .del), (n, .blk { segs := l, ty := e, ro := false })], rd := i :: rd, sh := [], new := [n], n := n + 1, hs := hs',
                         ob := (addSegs B.segs cs = l) :: (len + m ≤ 1048576) :: (B.size = len * inf.size) :: ob }
                else none
              | _, _ => none
            | _ => none
          else none
        | none => none
      | none => none
    | _, _ => none
  | _, _ => none
def AllStor (l:List Seg) (k:Nat):Prop:=∀ o,o < k → ∃ v,segsGet? l o = some v ∧ storable v = true
def xappendL (P:Program) (ρ:Operand → Value) (H:HF) (n:Nat) (hs:List Hint) (c:Call):Option Out:=
 match c.argTypes.toList,c.args.toList with
 | [tx,ty],[x,y] =>
  match P.underlying tx,P.underlying ty with
  | some (.slice e),some (.slice _) =>
   match P.info? e with
   | some inf =>
    match ρ x,ρ y with
    | .func (.yield 0) ⟨[]⟩ ⟨[.bool f]⟩,.slice (some ⟨j,0,some 0⟩) m z =>
     match H j with
     | some B =>
      bif Nat.ble 1 inf.size && Nat.ble inf.bytes 1048576 && zeroOk inf && Nat.beq z inf.size then
       some { v:=.slice (some ⟨n,0,some 0⟩) m inf.size,eff:=[(n,.blk { segs:=B.segs,ty:=e,ro:=false })],rd:=[j],sh:=[],new:=[n],n:=n + 1,hs,ob:=[f = true,m ≤ 1048576,B.size = m * inf.size,AllStor B.segs (m * inf.size)] }
      else none
     | none => none
    | _,_ => none
   | none => none
  | _,_ => none
 | _,_ => none
def winL (f:Nat → Value):Nat → Nat → List Value
 | _,0 => []
 | o,m + 1 => f o :: winL f (o + 1) m
def ycellsW (H:HF):Value → Option (List Value × Nat × List Nat × List Prop)
 | .slice (some ⟨i,off,some s⟩) m _ =>
  match H i with
  | some B => match segAt B.segs s with
   | some (.ints k n a) => some (winL (fun o => .int k (a (off + o))) 0 m,m,[i],[off + m ≤ n])
   | _ => none
  | none => none
 | _ => none
def Behind (l:List Seg) (cs:List Value) (S:List Seg):Prop:=
 segsSize S = segsSize l + cs.length ∧ ∀ o v,segsGet? S o = some v → (o < segsSize l ∧ segsGet? l o = some v) ∨ (segsSize l ≤ o ∧ cs[o - segsSize l]? = some v)
def xappendW (P : Program) (ρ : Operand → Value) (H : HF) (n : Nat) (l : List Seg) (hs : List Hint) (c : Call) : Option Out :=
  match c.argTypes.toList, c.args.toList with
  | [tx, ty], [x, y] =>
    match P.underlying tx, P.underlying ty with
    | some (.slice e), some (.slice _) =>
      match P.info? e with
      | some inf =>
        match ycellsW H (ρ y) with
        | some (cs, m, rd, ob) =>
          bif Nat.ble 1 inf.size && Nat.ble inf.bytes 1048576 && zeroOk inf && Nat.ble 1 m && Nat.beq cs.length (m * inf.size) && cs.all storable then
            match ρ x with
            | .func (.yield 0) ⟨[]⟩ ⟨[.bool f]⟩ =>
              some { v := .slice (some ⟨n, 0, some 0⟩) m inf.size, eff := [(n, .blk { segs := l, ty := e, ro := false })], rd, sh := [], new := [n], n := n + 1, hs, ob := (f = true) :: Behind [] cs l :: (m ≤ 1048576) :: ob }
            | .slice (some ⟨i, 0, some 0⟩) len z =>
              match H i with
              | some B =>
                bif Nat.beq z inf.size && !B.ro && Nat.beq B.ty e then
                  some { v := .slice (some ⟨n, 0, some 0⟩) (len + m) inf.size, eff := [(i, .del), (n, .blk { segs := l, ty := e, ro := false })], rd := i :: rd, sh := [], new := [n], n := n + 1, hs,
                         ob := Behind B.segs cs l :: (len + m ≤ 1048576) :: (B.size = len * inf.size) :: ob }
                else none
              | none => none
            | _ => none
          else none
        | none => none
      | none => none
    | _, _ => none
  | _, _ => none
def xappendN (P:Program) (ρ:Operand → Value) (n:Nat) (l:List Seg) (hs:List Hint) (c:Call):Option Out:=
 match c.argTypes.toList,c.args.toList with
 | [tx,ty],[x,y] =>
  match P.underlying tx,P.underlying ty with
  | some (.slice e),some (.slice _) =>
   match P.info? e with
   | some inf =>
    match ρ x,ρ y with
    | .func (.yield 0) ⟨[]⟩ ⟨[.bool f]⟩, .func (.method "") ⟨[]⟩ ⟨[.bool true]⟩ =>
     some { v:=.slice (some ⟨n,0,some 0⟩) 0 inf.size,eff:=[(n,.blk { segs:=l,ty:=e,ro:=false })],rd:=[],sh:=[],new:=[n],n:=n + 1,hs,ob:=[f = true,segsSize l = 0] }
    | _,_ => none
   | none => none
  | _,_ => none
 | _,_ => none
def Noughts (k:IntKind) (C:Nat) (S:List Seg):Prop:=segsSize S ≤ C ∧ ∀ o v,segsGet? S o = some v → o < C ∧ v = .int k 0
def xmake (P:Program) (ρ:Operand → Value) (n:Nat) (hs:List Hint) (t:TypeId) (l c:Operand):Option Out:=
 match hs,ρ l,ρ c,P.underlying t with
 | .cut L C :: .list S :: hs',.int _ a,.int _ b,some (.slice e) =>
  match P.info? e with
  | some inf =>
   match inf.zero with
   | some (.int k 0) => bif Nat.beq inf.size 1 && Nat.ble L C && Nat.ble 1 C && Nat.ble C 1048576 && Nat.ble inf.bytes 1048576 then
     some (newBlk n { segs:=S,ty:=e,ro:=false } (.slice (some ⟨n,0,some 0⟩) L 1) hs' [a = (L:Int),b = (C:Int),Noughts k C S])
    else none
   | _ => none
  | none => none
 | _,_,_,_ => none
def boundP (ρ:Operand → Value):Option Operand → Nat → Option (List Prop)
 | none,_ => some []
 | some x,k => match ρ x with
  | .int _ i => some [i = (k:Int)]
  | _ => none
def xslice (P:Program) (ρ:Operand → Value) (n:Nat) (t:TypeId) (x:Operand) (low high max:Option Operand) (hs:List Hint):Option Out:=
 match P.underlying t,ρ x,max,hs with
 | some (.slice e),.func (.yield z) ⟨l⟩ ⟨[.bool f]⟩,none,.cut lo hi :: hs =>
  match sizeB P e,boundP ρ low lo,boundP ρ high hi with
  | some sz,some o1,some o2 =>
   bif Nat.beq z sz && Nat.ble 1 sz && Nat.ble lo hi && Nat.ble (hi * z) l.length && (low.isSome || Nat.beq lo 0) && (high.isSome || Nat.beq (hi * z) l.length) then
    some (silent (.func (.yield z) ⟨(l.drop (lo * z)).take ((hi - lo) * z)⟩ ⟨[.bool true]⟩) n hs ((f = true) :: o1 ++ o2))
   else none
  | _,_,_ => none
 | some (.slice e),.func (.yield z) ⟨l⟩ ⟨[.bool f]⟩,none,.cutT lo :: hs =>
  match sizeB P e,boundP ρ low lo,high with
  | some sz,some o1,none =>
   bif Nat.beq z sz && Nat.ble 1 sz && (low.isSome || Nat.beq lo 0) then
    some (silent (.func (.yield z) ⟨l.drop (lo * z)⟩ ⟨[.bool true]⟩) n hs ((f = true) :: (lo * z ≤ l.length) :: o1))
   else none
  | _,_,_ => none
 | some (.slice e),.func (.yield z) ⟨l⟩ ⟨[.bool f]⟩,some mx,.cut lo hi :: hs =>
  match sizeB P e,boundP ρ low lo,boundP ρ high hi,boundP ρ (some mx) 0 with
  | some sz,some o1,some o2,some o3 =>
   bif Nat.beq lo 0 && Nat.beq hi 0 && high.isSome then
    some (silent (.func (.yield 0) ⟨[]⟩ ⟨[.bool true]⟩) n hs ((f = true) :: o1 ++ o2 ++ o3))
   else none
  | _,_,_,_ => none
 | some (.slice e),.slice (some ⟨i,off,sp⟩) len z,none,.cut lo hi :: hs =>
  match sizeB P e,boundP ρ low lo,boundP ρ high hi with
  | some sz,some o1,some o2 =>
   bif (Nat.beq z sz || Nat.beq z 0 || sp.isSome) && (low.isSome || Nat.beq lo 0) then
    some (silent (.slice (some ⟨i,off + lo * sz,sp⟩) (hi - lo) (bif sp.isSome then 0 else z)) n hs ((hi ≤ len ∧ lo ≤ hi ∧ (lo = 0 ∨ lo < hi) ∧ (high.isSome = true ∨ hi = len)) :: o1 ++ o2))
   else none
  | _,_,_ => none
 | some (.array m e),.pointer (some ⟨i,off,sp⟩),none,.cut lo hi :: hs =>
  match sizeB P e,boundP ρ low lo,boundP ρ high hi with
  | some sz,some o1,some o2 =>
   bif Nat.ble lo hi && Nat.ble hi m && (low.isSome || Nat.beq lo 0) && (high.isSome || Nat.beq hi m) && (Nat.beq lo 0 || Nat.blt lo m) then
    some (silent (.slice (some ⟨i,off + lo * sz,sp⟩) (hi - lo) 0) n hs (o1 ++ o2))
   else none
  | _,_,_ => none
 | some .string,.string s,none,.cut lo hi :: hs =>
  match boundP ρ low lo,boundP ρ high hi with
  | some o1,some o2 =>
   bif Nat.ble lo hi && Nat.ble hi s.size && (low.isSome || Nat.beq lo 0) && (high.isSome || Nat.beq hi s.size) then some (silent (.string (s.extract lo hi)) n hs (o1 ++ o2)) else none
  | _,_ => none
 | some .string,.string s,none,.symcut :: hs =>
  match low,high with
  | none,some h => match ρ h with
   | .int _ i => some (silent (.string (s.extract 0 i.toNat)) n hs [0 ≤ i ∧ i ≤ (s.size:Int)])
   | _ => none
  | some l,some h => match ρ l,ρ h with
   | .int _ i,.int _ j => some (silent (.string (s.extract i.toNat j.toNat)) n hs [0 ≤ i ∧ i ≤ j ∧ j ≤ (s.size:Int)])
   | _,_ => none
  | _,_ => none
 | _,_,_,_ => none
def xrow (P:Program) (H:HF) (t:TypeId) (j k:Nat):Value → Option (Value × Nat × List Prop)
 | .pointer (some ⟨i,off,some s⟩) =>
  match H i with
  | some B =>
   match segAtG B.segs s with
   | some (.rows n sz g) =>
    match isAggB P t,sizeB P t with
    | some true,some m => bif Nat.beq ((g j).drop k).length (sz - k) && Nat.ble (k + m) sz && Nat.beq (g j).length sz then some (.agg ⟨((g j).drop k).take m⟩,i,gapOb B.segs s ++ [off = j * sz + k,j < n]) else none
    | some false,_ => bif Nat.blt k sz then ((g j)[k]?).map fun v => (v,i,gapOb B.segs s ++ [off = j * sz + k,j < n]) else none
    | _,_ => none
   | _ => none
  | none => none
 | _ => none
def xloadE (P:Program) (H:HF) (n:Nat) (hs:List Hint) (t:TypeId) (v:Value):Option Out:=
 match v,hs with
 | .func (.method "") ⟨l⟩ ⟨[]⟩, hs =>
  match isAggB P t,sizeB P t with
  | some true,some m => bif Nat.ble m l.length then some (silent (.agg ⟨l.take m⟩) n hs []) else none
  | some false,_ => (l[0]?).map fun v => silent v n hs []
  | _,_ => none
 | v,.row j k :: hs =>
  match xrow P H t j k v with
  | some (v,i,ob) => some { v,eff:=[],rd:=[i],sh:=[],new:=[],n,hs,ob }
  | none => none
 | .pointer (some ⟨i,off,some s⟩),.among m :: hs =>
  match H i with
  | some B =>
   match gets B s m,isAggB P t with
   | some (.int k a :: r),some false => (intsOf k (.int k a :: r)).map fun ns => { v:=.int k (ns.getD off 0),eff:=[],rd:=[i],sh:=[],new:=[],n,hs,ob:=[off < m] }
   | some (.bool a :: r),some false => (boolsOf (.bool a :: r)).map fun bs => { v:=.bool (bs.getD off false),eff:=[],rd:=[i],sh:=[],new:=[],n,hs,ob:=[off < m] }
   | _,_ => none
  | none => none
 | _,_ => none
def xfieldE (P:Program) (n:Nat) (hs:List Hint) (s:TypeId) (f:Nat) (v:Value):Option Out:=
 match v,P.underlying s with
 | .func (.method "") ⟨l⟩ ⟨[]⟩, some (.struct fields) =>
  match fields[f]? with
  | some fd => match sizeB P fd.type with
   | some (_ + 1) => some (silent (.func (.method "") ⟨l.drop fd.offset⟩ ⟨[]⟩) n hs [])
   | _ => none
  | none => none
 | _,_ => none
def xatE (P:Program) (n:Nat) (hs:List Hint) (t:TypeId) (v ix:Value):Option Out:=
 match ix,P.underlying t,v with
 | .int _ i,some (.slice e),.func (.yield z) ⟨l⟩ ⟨[.bool f]⟩ =>
  match sizeB P e,hs with
  | some sz, .lit k :: hs => bif Nat.beq z sz && Nat.ble 1 sz && Nat.ble ((k + 1) * z) l.length then some (silent (.func (.method "") ⟨l.drop (k * z)⟩ ⟨[]⟩) n hs [f = true, i = (k : Int)]) else none
  | some sz,.sym :: hs =>
   bif Nat.beq z 1 && Nat.beq sz 1 then
    match l with
    | .int k a :: r => (intsOf k (.int k a :: r)).map fun ns => silent (.func (.method "") ⟨[.int k (ns.getD i.toNat 0)]⟩ ⟨[]⟩) n hs [f = true, 0 ≤ i ∧ i < (ns.length : Int)]
    | .string a :: r => (strsOf (.string a :: r)).map fun ns => silent (.func (.method "") ⟨[.string (ns.getD i.toNat ⟨#[]⟩)]⟩ ⟨[]⟩) n hs [f = true, 0 ≤ i ∧ i < (ns.length : Int)]
    | _ => none
   else none
  | _,_ => none
 | _,_,_ => none
def xlenE (P:Program) (n:Nat) (hs:List Hint) (t:TypeId) (v:Value):Option Out:=
 match v,P.underlying t with
 | .func (.yield z) ⟨l⟩ ⟨[.bool f]⟩,some (.slice _) =>
  match hs with
  | .lenT k :: hs' => bif Nat.ble 1 z then some (silent (.int .i64 (k:Int)) n hs' [f = true,l.length = k * z]) else none
  | hs => bif Nat.ble 1 z && Nat.beq (l.length / z * z) l.length then some (silent (.int .i64 ((l.length / z:Nat):Int)) n hs [f = true]) else none
 | _,_ => none
def xempty (P:Program) (n:Nat) (hs:List Hint) (t:TypeId):Option Out:=
 match P.underlying t with
 | some (.slice e) =>
  match sizeB P e with
  | some sz => some (newBlk n (cellsBlk [] e) (.slice (some ⟨n,0,none⟩) 0 sz) hs [])
  | none => none
 | _ => none
def xnone (P:Program) (n:Nat) (hs:List Hint) (t:TypeId):Option Out:=
 match P.underlying t with
 | some (.slice e) =>
  match sizeB P e with
  | some _ => some (silent (.func (.yield 0) ⟨[]⟩ ⟨[.bool true]⟩) n hs [])
  | none => none
 | _ => none
def xeqNil (P:Program) (ρ:Operand → Value) (n:Nat) (hs:List Hint) (t:TypeId) (x y:Operand):Option Out:=
 match ρ x,ρ y with
 | .func (.yield _) ⟨_ :: _⟩ ⟨[.bool f]⟩,.slice none 0 0 => (eqv P 10000 t (.slice (some ⟨0,0,none⟩) 0 0) (.slice none 0 0)).map fun c => silent (.bool c) n hs [f = true]
 | _,_ => none
def xeqNilT (P:Program) (ρ:Operand → Value) (n:Nat) (hs:List Hint) (t:TypeId) (x y:Operand):Option Out:=
 match ρ x,ρ y with
 | .func (.method "") ⟨[]⟩ ⟨[.bool true]⟩, .slice none 0 0 => (eqv P 10000 t (.slice (some ⟨0, 0, none⟩) 0 0) (.slice none 0 0)).map fun c => silent (.bool c) n hs []
 | .slice (some ⟨_,_,some _⟩) m _,.slice none 0 0 => (eqv P 10000 t (.slice (some ⟨0,0,none⟩) 0 0) (.slice none 0 0)).map fun c => silent (.bool c) n hs [m ≠ 0]
 | _,_ => none
def xopE (P:Program) (ρ:Operand → Value) (H:HF) (n:Nat) (hs:List Hint) (o:Oper):Option Out:=
 match o.op with
 | .load t p => xloadE P H n hs t (ρ p)
 | .fieldAddr s p f => xfieldE P n hs s f (ρ p)
 | .indexAddr t x ix => xatE P n hs t (ρ x) (ρ ix)
 | .slice t x low high max => xslice P ρ n t x low high max hs
 | .buildSlice t 0 parts => bif parts.toList.isEmpty then (match hs with
  | .born :: hs' => xnone P n hs' t
  | _ => xempty P n hs t) else none
 | .call c =>
  match c.callee,c.args.toList with
  | .builtin .min,[x,y] =>
   match ρ x,ρ y with
   | .int k a,.int _ b => some (silent (.int k (if b < a then b else a)) n hs [])
   | _,_ => none
  | .builtin .max,[x,y] =>
   match ρ x,ρ y with
   | .int k a,.int _ b => some (silent (.int k (if b > a then b else a)) n hs [])
   | _,_ => none
  | .builtin .len,[x] =>
   match c.argTypes[0]? with
   | some t => xlenE P n hs t (ρ x)
   | none => none
  | .builtin .append,_ => match hs with
   | .all :: hs' => xappendL P ρ H n hs' c
   | .win l :: hs' => match xappendW P ρ H n l hs' c with
    | some out => some out
    | none => xappendN P ρ n l hs' c
   | _ => xappend P ρ H n hs c
  | _,_ => none
 | .binOp .eql t x y _ => match xeqNil P ρ n hs t x y with
  | some out => some out
  | none => xeqNilT P ρ n hs t x y
 | .makeSlice t l c => xmake P ρ n hs t l c
 | _ => none
def xopA (P:Program) (ρ:Operand → Value) (H:HF) (n:Nat) (hs:List Hint) (o:Oper):Option Out:=
 match xop0 P ρ H n hs o with
 | some out => some out
 | none => xopE P ρ H n hs o
def dstIs:Option Tmp → Nat → Bool
 | some d,e => Nat.beq d e
 | none,_ => false
def xborn (P:Program) (ρ:Operand → Value) (n:Nat) (hs:List Hint) (o:Oper):Option Out:=
 match o.op with
 | .buildSlice t (len + 1) parts =>
  match P.underlying t with
  | some (.slice e) =>
   match P.info? e with
   | some inf =>
    match inf.zero with
    | some z =>
     bif flat z && Nat.beq z.cells.toList.length inf.size && Nat.ble 1 inf.size && Nat.ble ((len + 1) * inf.size) 16777216 then
      match layAll (fun i => some (i * inf.size,inf.size)) (parts.toList.map fun p => (p.1,ρ p.2)) (repeatCells z.cells.toList (len + 1)) with
      | some l => bif l.all solid then some (silent (.func (.yield inf.size) ⟨l⟩ ⟨[.bool true]⟩) n hs []) else none
      | none => none
     else none
    | none => none
   | none => none
  | _ => none
 | _ => none
def cellsOf (S:List Seg) (m:Nat):List Value:=winL (fun j => (segsGet? S j).getD (.tuple ⟨[]⟩)) 0 m
def xwhole (P:Program) (ρ:Operand → Value) (H:HF) (n:Nat) (l:List Seg) (hs:List Hint) (o:Oper):Option Out:=
 match o.op with
 | .load t p => match ρ p with
  | .pointer (some ⟨i,0,none⟩) => match H i,isAggB P t,sizeB P t with
   | some B,some true,some m => some { v:=.agg ⟨cellsOf B.segs m⟩,eff:=[],rd:=[i],sh:=[],new:=[],n,hs,ob:=[AllStor B.segs m] }
   | _,_,_ => none
  | _ => none
 | .store t p x => match ρ p with
  | .pointer (some ⟨j,0,none⟩) => match H j,sizeB P t with
   | some C,some m => bif !C.ro then some { v:=.tuple ⟨[]⟩,eff:=[(j,.blk { C with segs:=l })],rd:=[j],sh:=[],new:=[],n,hs,ob:=[ρ x = .agg ⟨cellsOf l m⟩,segsSize l = m,C.size = m,AllStor l m] } else none
   | _,_ => none
  | _ => none
 | _ => none
def xop (P:Program) (ρ:Operand → Value) (H:HF) (n:Nat) (hs:List Hint) (o:Oper):Option Out:=
 match hs with
 | .eq d w :: hs' => bif dstIs o.dst d then (xopA P ρ H n hs' o).map fun out => { out with v:=w,ob:=(out.v = w) :: out.ob } else xopA P ρ H n hs o
 | .born :: hs' => match xborn P ρ n hs' o with
  | some out => some out
  | none => xopA P ρ H n hs o
 | .whole l :: hs' => match xwhole P ρ H n l hs' o with
  | some out => some out
  | none => xopA P ρ H n hs o
 | hs => xopA P ρ H n hs o
end Go.Proofs.Ytgnhhnmpeklciaa.VX
namespace Go.Proofs.Ytgnhhnmpeklciaa.VX
open Go
theorem hAllocOld (w:World) (o:Obj) (k:Nat) (h:k < w.heap.size):(w.alloc o).heap[k]? = w.heap[k]?:=by
 simp only [World.alloc,Array.getElem?_push]
 rw [if_neg (by omega)]
theorem beq_tt {a b:Nat} (h:Nat.beq a b = true):a = b:=Nat.eq_of_beq_eq_true h
theorem beq_ff {a b:Nat} (h:Nat.beq a b = false):a ≠ b:=Nat.ne_of_beq_eq_false h
theorem beq_self (a:Nat):Nat.beq a a = true:=Nat.beq_refl a
theorem beq_ne {a b:Nat} (h:a ≠ b):Nat.beq a b = false:=by
 cases e:Nat.beq a b with
 | false => rfl
 | true => exact absurd (beq_tt e) h
theorem blt_tt {a b:Nat} (h:Nat.blt a b = true):a < b:=Nat.le_of_ble_eq_true h
theorem blt_ff {a b:Nat} (h:Nat.blt a b = false):b ≤ a:=by
 rcases Nat.lt_or_ge a b with k | k
 ·have:Nat.blt a b = true:=Nat.ble_eq_true_of_le k
  rw [h] at this;cases this
 ·exact k
theorem ble_tt {a b:Nat} (h:Nat.ble a b = true):a ≤ b:=Nat.le_of_ble_eq_true h
theorem Seg.set_size (s:Seg) (o:Nat) (v:Value):(s.set o v).size = s.size:=by
 cases s with
 | one x => simp only [Seg.set];cases Nat.beq o 0 <;> rfl
 | ints k n a =>
  cases v with
  | int k' x => simp only [Seg.set];cases k == k' <;> rfl
  | _ => rfl
 | bools n a => cases v <;> rfl
 | rows n sz g => rfl
 | gap n => rfl
theorem Seg.get_lt {s:Seg} {o:Nat} {v:Value} (h:s.get? o = some v):o < s.size:=by
 cases s with
 | one x => simp only [Seg.get?] at h;cases e:Nat.beq o 0 <;> rw [e] at h <;> simp at h;rw [beq_tt e];simp [Seg.size]
 | ints k n a => simp only [Seg.get?] at h;cases e:Nat.blt o n <;> rw [e] at h <;> simp at h;exact blt_tt e
 | bools n a => simp only [Seg.get?] at h;cases e:Nat.blt o n <;> rw [e] at h <;> simp at h;exact blt_tt e
 | rows n sz g => simp only [Seg.get?] at h;cases e:Nat.blt o (n * sz) <;> rw [e] at h <;> simp at h;exact blt_tt e
 | gap n => simp [Seg.get?] at h
theorem Seg.get_set {s:Seg} {o o':Nat} {v u:Value} (ho:o < s.size) (h:(s.set o v).get? o' = some u):(o' = o ∧ u = v) ∨ (o' ≠ o ∧ s.get? o' = some u):=by
 cases s with
 | one x =>
  have h0:o = 0:=by simpa [Seg.size] using ho
  subst h0
  simp only [Seg.set,beq_self,cond_true,Seg.get?] at h
  cases e:Nat.beq o' 0 <;> rw [e] at h <;> simp at h
  exact .inl ⟨beq_tt e,h.symm⟩
 | ints k n a =>
  cases v with
  | int k' x =>
   simp only [Seg.set] at h
   cases ek:k == k' <;> rw [ek] at h
   ·simp [Seg.get?] at h
   ·simp only [cond_true,Seg.get?,upd] at h
    cases e:Nat.blt o' n <;> rw [e] at h <;> simp at h
    cases e2:Nat.beq o' o <;> rw [e2] at h <;> simp at h
    ·exact .inr ⟨beq_ff e2,by simp [Seg.get?,e,h]⟩
    ·have:k = k':=by simpa using ek
     subst this
     exact .inl ⟨beq_tt e2,h.symm⟩
  | _ => simp [Seg.set,Seg.get?] at h
 | bools n a =>
  cases v with
  | bool x =>
   simp only [Seg.set,Seg.get?,upd] at h
   cases e:Nat.blt o' n <;> rw [e] at h <;> simp at h
   cases e2:Nat.beq o' o <;> rw [e2] at h <;> simp at h
   ·exact .inr ⟨beq_ff e2,by simp [Seg.get?,e,h]⟩
   ·exact .inl ⟨beq_tt e2,by rw [← h]⟩
  | _ => simp [Seg.set,Seg.get?] at h
 | rows n sz g => simp [Seg.set,Seg.get?] at h
 | gap n => simp [Seg.set,Seg.get?] at h
theorem segsSet_size:∀ (l:List Seg) (o:Nat) (v:Value),segsSize (segsSet l o v) = segsSize l
 | [],_,_ => rfl
 | s :: r,o,v => by
  simp only [segsSet]
  cases Nat.blt o s.size
  ·simp [segsSize,segsSet_size r]
  ·simp [segsSize,Seg.set_size]
theorem segsGet_lt:∀ {l:List Seg} {o:Nat} {v:Value},segsGet? l o = some v → o < segsSize l
 | [],o,v,h => by simp [segsGet?] at h
 | s :: r,o,v,h => by
  simp only [segsGet?] at h
  cases e:Nat.blt o s.size <;> rw [e] at h
  ·have:=segsGet_lt (l:=r) (by simpa using h)
   have:=blt_ff e
   simp [segsSize];omega
  ·have:=blt_tt e
   simp [segsSize];omega
theorem segsGet_set:∀ {l:List Seg} {o o':Nat} {v u:Value},o < segsSize l → segsGet? (segsSet l o v) o' = some u →
  (o' = o ∧ u = v) ∨ (o' ≠ o ∧ segsGet? l o' = some u)
 | [],o,o',v,u,ho,h => by simp [segsSize] at ho
 | s :: r,o,o',v,u,ho,h => by
  simp only [segsSet] at h
  cases e:Nat.blt o s.size <;> rw [e] at h
  ·have ho':=blt_ff e
   simp only [cond_false,segsGet?] at h ⊢
   cases e2:Nat.blt o' s.size <;> rw [e2] at h
   ·have h2:=blt_ff e2
    simp only [cond_false] at h ⊢
    rcases segsGet_set (l:=r) (by simp [segsSize] at ho;omega) h with ⟨a,b⟩ | ⟨a,b⟩
    ·exact .inl ⟨by omega,b⟩
    ·exact .inr ⟨by omega,b⟩
   ·have h2:=blt_tt e2
    exact .inr ⟨by omega,by simpa using h⟩
  ·have ho':=blt_tt e
   simp only [cond_true,segsGet?,Seg.set_size] at h ⊢
   cases e2:Nat.blt o' s.size <;> rw [e2] at h
   ·have h2:=blt_ff e2
    exact .inr ⟨by omega,by simpa using h⟩
   ·rcases Seg.get_set ho' (by simpa using h) with ⟨a,b⟩ | ⟨a,b⟩
    ·exact .inl ⟨a,b⟩
    ·exact .inr ⟨a,by simpa using b⟩
theorem Blk.set_size (B:Blk) (o:Nat) (v:Value):(B.set o v).size = B.size:=segsSet_size _ _ _
theorem upd1_same (h:HF) (i:Nat) (B:Blk):upd1 h (i,.blk B) i = some B:=by simp [upd1,beq_self]
theorem upd1_other {h:HF} {x:Nat × Upd} {j:Nat} (hj:j ≠ x.1):upd1 h x j = h j:=by simp [upd1,beq_ne hj]
theorem upd1_del (h:HF) (i:Nat):upd1 h (i,.del) i = none:=by simp [upd1,beq_self]
theorem upd1_cell (h:HF) (i o:Nat) (v:Value):upd1 h (i,.cell o v) i = (h i).map fun B => B.set o v:=by simp [upd1,beq_self]
theorem lk_hput:∀ (H:Heap) (i:Nat) (B:Blk),lk (hput H i B) = upd1 (lk H) (i,.blk B)
 | [],i,B => by
  funext j
  simp only [hput,lk,upd1]
 | (k,C) :: r,i,B => by
  funext j
  simp only [hput]
  cases e:Nat.beq i k
  ·simp only [cond_false,lk]
   rw [congrFun (lk_hput r i B) j]
   simp only [upd1,lk]
   cases e2:Nat.beq j k
   ·simp
   ·have:j ≠ i:=by rw [beq_tt e2];exact fun h => beq_ff e h.symm
    simp [beq_ne this]
  ·have hk:=beq_tt e
   subst hk
   simp only [cond_true,lk,upd1]
   cases e2:Nat.beq j i
   ·simp
   ·simp
theorem lk_hcell:∀ (H:Heap) (i o:Nat) (v:Value),lk (hcell H i o v) = upd1 (lk H) (i,.cell o v)
 | [],i,o,v => by
  funext j
  simp only [hcell,lk,upd1]
  cases Nat.beq j i <;> rfl
 | (k,C) :: r,i,o,v => by
  funext j
  simp only [hcell]
  cases e:Nat.beq i k
  ·simp only [cond_false,lk]
   rw [congrFun (lk_hcell r i o v) j]
   simp only [upd1,lk]
   cases e2:Nat.beq j k
   ·simp
   ·have:j ≠ i:=by rw [beq_tt e2];exact fun h => beq_ff e h.symm
    simp [beq_ne this]
  ·have hk:=beq_tt e
   subst hk
   simp only [cond_true,lk,upd1]
   cases e2:Nat.beq j i
   ·simp
   ·simp
theorem lk_hdel:∀ (H:Heap) (i:Nat),lk (hdel H i) = upd1 (lk H) (i,.del)
 | [],i => by
  funext j
  simp only [hdel,lk,upd1]
  cases Nat.beq j i <;> rfl
 | (k,C) :: r,i => by
  funext j
  simp only [hdel]
  cases e:Nat.beq i k
  ·simp only [cond_false,lk]
   rw [congrFun (lk_hdel r i) j]
   simp only [upd1,lk]
   cases e2:Nat.beq j k
   ·simp
   ·have:j ≠ i:=by rw [beq_tt e2];exact fun h => beq_ff e h.symm
    simp [beq_ne this]
  ·have hk:=beq_tt e
   subst hk
   simp only [cond_true,lk,upd1]
   rw [congrFun (lk_hdel r i) j]
   simp only [upd1]
   cases e2:Nat.beq j i
   ·simp
   ·simp
theorem lk_happ:∀ (l:List (Nat × Upd)) (H:Heap),lk (happ l H) = app l (lk H)
 | [],H => rfl
 | (i,.blk B) :: r,H => by simp only [happ,app];rw [lk_happ r,lk_hput]
 | (i,.cell o v) :: r,H => by simp only [happ,app];rw [lk_happ r,lk_hcell]
 | (i,.del) :: r,H => by simp only [happ,app];rw [lk_happ r,lk_hdel]
theorem app_append:∀ (a b:List (Nat × Upd)) (h:HF),app (a ++ b) h = app b (app a h)
 | [],b,h => rfl
 | x :: a,b,h => by simp only [List.cons_append,app];exact app_append a b _
theorem Rep.cell {μ:Mu} {h:HF} {w:World} (r:Rep μ h w) {i b o:Nat} {B:Blk} {v u:Value} (hi:h i = some B) (hro:B.ro = false) (hb:μ i = some b) (ho:o < B.size) (hv:VRel μ v u) :
  Rep μ (upd1 h (i,.cell o v)) (w.setCell ⟨b,o,none⟩ u) ∧ Keeps μ h w μ (upd1 h (i,.cell o v)) (w.setCell ⟨b,o,none⟩ u):=by
 obtain ⟨b',hb',cs,t,fr,e,hrw,hcs⟩:=r.blk i B hi (.inr (by rw [hb];exact fun h => nomatch h))
 rw [hb] at hb'
 obtain rfl:b = b':=by simpa using hb'
 obtain ⟨rfl,rfl,hsz⟩:=hrw hro
 have hother:∀ k,k ≠ b → (w.setCell ⟨b,o,none⟩ u).heap[k]? = w.heap[k]?:=fun k hk => heap_setCell_other w ⟨b,o,none⟩ k u hk
 have hself:(w.setCell ⟨b,o,none⟩ u).heap[b]? = some (.cells (cs.setIfInBounds o u) B.ty (0,0)):=by
  have:=heap_setCell_same w b o cs B.ty u e
  simpa using this
 constructor
 ·refine ⟨?_,?_,?_,?_,?_,?_⟩
  ·intro j C hj hne
   by_cases hji:j = i
   ·subst hji
    rw [upd1_cell,hi] at hj
    obtain rfl:B.set o v = C:=by simpa using hj
    refine ⟨b,hb,_,_,_,hself,fun _ => ⟨rfl,rfl,by simpa [Blk.set_size] using hsz⟩,?_⟩
    intro off x hx
    rcases segsGet_set (l:=B.segs) ho hx with ⟨rfl,rfl⟩ | ⟨hne,hx⟩
    ·exact ⟨u,by simp [Array.getElem?_setIfInBounds,show off < cs.size by omega],hv⟩
    ·obtain ⟨y,hy,hxy⟩:=hcs off x hx
     exact ⟨y,by rw [Array.getElem?_setIfInBounds_ne (fun h => hne h.symm)];exact hy,hxy⟩
   ·rw [upd1_other hji] at hj
    obtain ⟨c,hc,hrel⟩:=r.blk j C hj hne
    refine ⟨c,hc,?_⟩
    have hcb:c ≠ b:=by
     rintro rfl
     have:=(r.apart j i C B c hj hi hc hb hji).2
     rw [hro] at this;cases this
    rw [hother c hcb]
    exact hrel
  ·have key:∀ {k C},upd1 h (i,.cell o v) k = some C → ∃ C',h k = some C' ∧ C'.ro = C.ro:=by
    intro k C hk
    by_cases hki:k = i
    ·subst hki
     rw [upd1_cell,hi] at hk
     obtain rfl:B.set o v = C:=by simpa using hk
     exact ⟨B,hi,rfl⟩
    ·rw [upd1_other hki] at hk
     exact ⟨C,hk,rfl⟩
   intro j k A C c hj hk hjc hkc hne
   obtain ⟨A',hA,ea⟩:=key hj
   obtain ⟨C',hC,ec⟩:=key hk
   have:=r.apart j k A' C' c hA hC hjc hkc hne
   exact ⟨by rw [← ea];exact this.1,by rw [← ec];exact this.2⟩
  ·intro j c hj
   simpa using r.bound j c hj
  ·intro j C c hj hCro hjc
   obtain ⟨C',hC,eC⟩:∃ C',h j = some C' ∧ C'.ro = C.ro:=by
    by_cases hji:j = i
    ·subst hji
     rw [upd1_cell,hi] at hj
     obtain rfl:B.set o v = C:=by simpa using hj
     exact ⟨B,hi,rfl⟩
    ·rw [upd1_other hji] at hj
     exact ⟨C,hj,rfl⟩
   obtain ⟨cs',t',fr',e',hs'⟩:=r.size j C' c hC (by rw [eC];exact hCro) hjc
   by_cases hcb:c = b
   ·subst hcb
    rw [e] at e'
    cases e'
    exact ⟨_,_,_,hself,by simpa using hs'⟩
   ·exact ⟨cs',t',fr',by rw [hother c hcb];exact e',hs'⟩
  ·intro c cs' hf
   have hcb:c ≠ b:=by
    rintro rfl
    rw [r.nofz i B c hi hro hb] at hf
    cases hf
   rw [hother c hcb]
   exact r.frz c cs' hf
  ·intro j C c hj hCro hjc
   by_cases hji:j = i
   ·subst hji
    exact r.nofz j B c hi hro hjc
   ·rw [upd1_other hji] at hj
    exact r.nofz j C c hj hCro hjc
 ·refine ⟨rfl,rfl,rfl,by simp,?_,?_,fun _ _ => rfl,fun _ _ h => h,fun _ _ h => .inl h⟩
  ·intro k hk hno
   exact hother k fun hkb => hno ⟨i,B,hi,hro,by rw [hkb];exact hb⟩
  ·intro j C k hj hjk hk
   by_cases hji:j = i
   ·subst hji
    exact ⟨j,B,hi,hjk,fun _ => hro⟩
   ·rw [upd1_other hji] at hj
    exact ⟨j,C,hj,hjk,id⟩
theorem Rep.new {μ:Mu} {h:HF} {w:World} (r:Rep μ h w) {i:Nat} {B:Blk} {cs:Array Value} {t:TypeId} (hi:μ i = none)
  (hrel:∀ μ':Mu,μ.le μ' → BlkRel μ' B (some (.cells cs t (0,0)))) :
  let μ':Mu:=⟨fun j => if j = i then some w.heap.size else μ j,fun b => if b = w.heap.size then cs.size else μ.sz b,μ.fz⟩
  μ.le μ' ∧ Rep μ' (upd1 h (i,.blk B)) (w.alloc (.cells cs t)) ∧ Keeps μ h w μ' (upd1 h (i,.blk B)) (w.alloc (.cells cs t)):=by
 intro μ'
 have hle:μ.le μ':=by
  refine ⟨?_,?_,fun _ _ h => h⟩
  ·intro j b hj
   have:j ≠ i:=by rintro rfl;rw [hi] at hj;cases hj
   simp [μ',this,hj]
  ·intro j b hj
   have:b ≠ w.heap.size:=by have:=r.bound j b hj;omega
   simp [μ',this]
 have hnofz:μ.fz w.heap.size = none:=by
  cases e:μ.fz w.heap.size with
  | none => rfl
  | some cs' =>
   obtain ⟨t',fr',e'⟩:=r.frz _ _ e
   have:=(Array.getElem?_eq_some_iff.1 e').1
   omega
 have hself:μ' i = some w.heap.size:=by simp [μ']
 have hoth:∀ j,j ≠ i → μ' j = μ j:=fun j hj => by simp [μ',hj]
 refine ⟨hle,⟨?_,?_,?_,?_,?_,?_⟩,⟨rfl,rfl,rfl,by simp,?_,?_,?_,fun _ _ h => h,fun _ _ h => .inl h⟩⟩
 ·intro j C hj hne
  by_cases hji:j = i
  ·subst hji
   rw [upd1_same] at hj
   obtain rfl:B = C:=by simpa using hj
   exact ⟨_,hself,by rw [heap_alloc_new];exact hrel μ' hle⟩
  ·rw [upd1_other hji] at hj
   obtain ⟨c,hc,hb⟩:=r.blk j C hj (by rw [hoth j hji] at hne;exact hne)
   exact ⟨c,by rw [hoth j hji];exact hc,by rw [hAllocOld _ _ _ (r.bound j c hc)];exact hb.mono hle⟩
 ·intro j k A C c hj hk hjc hkc hne
  by_cases hji:j = i
  ·subst hji
   rw [hself] at hjc
   obtain rfl:w.heap.size = c:=by simpa using hjc
   have hk':k ≠ j:=fun h => hne h.symm
   rw [hoth k hk'] at hkc
   have:=r.bound k _ hkc
   omega
  ·by_cases hki:k = i
   ·subst hki
    rw [hself] at hkc
    obtain rfl:w.heap.size = c:=by simpa using hkc
    rw [hoth j hji] at hjc
    have:=r.bound j _ hjc
    omega
   ·rw [upd1_other hji] at hj
    rw [upd1_other hki] at hk
    rw [hoth j hji] at hjc
    rw [hoth k hki] at hkc
    exact r.apart j k A C c hj hk hjc hkc hne
 ·intro j c hj
  by_cases hji:j = i
  ·subst hji
   rw [hself] at hj
   obtain rfl:w.heap.size = c:=by simpa using hj
   simp
  ·rw [hoth j hji] at hj
   have:=r.bound j c hj
   simp;omega
 ·intro j C c hj hCro hjc
  by_cases hji:j = i
  ·subst hji
   rw [hself] at hjc
   obtain rfl:w.heap.size = c:=by simpa using hjc
   exact ⟨cs,t,(0,0),by rw [heap_alloc_new],by simp [μ']⟩
  ·rw [upd1_other hji] at hj
   rw [hoth j hji] at hjc
   have hlt:=r.bound j c hjc
   obtain ⟨cs',t',fr',e',hs'⟩:=r.size j C c hj hCro hjc
   exact ⟨cs',t',fr',by rw [hAllocOld _ _ _ hlt];exact e',by simp only [μ',if_neg (show ¬ c = w.heap.size by omega)];exact hs'⟩
 ·intro c cs' hf
  obtain ⟨t',fr',e'⟩:=r.frz c cs' hf
  exact ⟨t',fr',by rw [hAllocOld _ _ _ (Array.getElem?_eq_some_iff.1 e').1];exact e'⟩
 ·intro j C c hj hCro hjc
  by_cases hji:j = i
  ·subst hji
   rw [hself] at hjc
   obtain rfl:w.heap.size = c:=by simpa using hjc
   exact hnofz
  ·rw [upd1_other hji] at hj
   rw [hoth j hji] at hjc
   exact r.nofz j C c hj hCro hjc
 ·intro k hk _
  exact hAllocOld _ _ _ hk
 ·intro j C k hj hjk hk
  by_cases hji:j = i
  ·subst hji
   rw [hself] at hjk
   have:w.heap.size = k:=by simpa using hjk
   omega
  ·rw [upd1_other hji] at hj
   rw [hoth j hji] at hjk
   exact ⟨j,C,hj,hjk,id⟩
 ·intro k hk
  simp only [μ',if_neg (show ¬ k = w.heap.size by omega)]
theorem Rep.del {μ:Mu} {h:HF} {w:World} (r:Rep μ h w) (i:Nat):Rep μ (upd1 h (i,.del)) w ∧ Keeps μ h w μ (upd1 h (i,.del)) w:=by
 have hs:∀ j B,upd1 h (i,.del) j = some B → h j = some B:=by
  intro j B hj
  by_cases hji:j = i
  ·subst hji;rw [upd1_del] at hj;cases hj
  ·rwa [upd1_other hji] at hj
 exact ⟨r.sub hs,(Keeps.refl μ h w).sub hs⟩
theorem Rep.more {μ:Mu} {h:HF} {w:World} (r:Rep μ h w) {i j b:Nat} {A B:Blk} (hi:h i = some A) (hro:A.ro = false) (hb:μ i = some b) (hj:μ j = none) (hrel:∀ μ':Mu,μ.le μ' → BlkRel μ' B w.heap[b]?) (hB:B.ro = false) :
  let μ':Mu:=⟨fun k => if k = j then some b else μ k,μ.sz,μ.fz⟩
  μ.le μ' ∧ Rep μ' (upd1 (upd1 h (i,.del)) (j,.blk B)) w ∧ Keeps μ h w μ' (upd1 (upd1 h (i,.del)) (j,.blk B)) w:=by
 intro μ'
 have hij:j ≠ i:=by rintro rfl;rw [hb] at hj;cases hj
 have hle:μ.le μ':=by
  refine ⟨?_,fun _ _ _ => rfl,fun _ _ h => h⟩
  intro k c hk
  have:k ≠ j:=by rintro rfl;rw [hj] at hk;cases hk
  simp [μ',this,hk]
 have hself:μ' j = some b:=by simp [μ']
 have hoth:∀ k,k ≠ j → μ' k = μ k:=fun k hk => by simp [μ',hk]
 have hcase:∀ {k C},upd1 (upd1 h (i,.del)) (j,.blk B) k = some C → (k = j ∧ C = B) ∨ (k ≠ j ∧ k ≠ i ∧ h k = some C):=by
  intro k C hk
  by_cases hkj:k = j
  ·subst hkj;rw [upd1_same] at hk;exact .inl ⟨rfl,by simpa using hk.symm⟩
  ·rw [upd1_other hkj] at hk
   by_cases hki:k = i
   ·subst hki;rw [upd1_del] at hk;cases hk
   ·rw [upd1_other hki] at hk;exact .inr ⟨hkj,hki,hk⟩
 have hno:∀ {k C},k ≠ i → h k = some C → μ k = some b → False:=by
  intro k C hki hk hkb
  have:=(r.apart k i C A b hk hi hkb hb hki).2
  rw [hro] at this;cases this
 refine ⟨hle,⟨?_,?_,?_,?_,?_,?_⟩,⟨rfl,rfl,rfl,Nat.le_refl _,fun _ _ _ => rfl,?_,fun _ _ => rfl,fun _ _ h => h,fun _ _ h => .inl h⟩⟩
 ·intro k C hk hne
  rcases hcase hk with ⟨rfl,rfl⟩ | ⟨hkj,hki,hk⟩
  ·exact ⟨b,hself,hrel μ' hle⟩
  ·obtain ⟨c,hc,hr⟩:=r.blk k C hk (by rw [hoth k hkj] at hne;exact hne)
   exact ⟨c,by rw [hoth k hkj];exact hc,hr.mono hle⟩
 ·intro k l C D c hk0 hl0 hkc hlc hne
  rcases hcase hk0 with ⟨e1,e2⟩ | ⟨hkj,hki,hk⟩ <;> rcases hcase hl0 with ⟨e3,e4⟩ | ⟨hlj,hli,hl⟩
  ·exact absurd (e1.trans e3.symm) hne
  ·rw [e1,hself] at hkc
   obtain rfl:b = c:=by simpa using hkc
   rw [hoth l hlj] at hlc
   exact (hno hli hl hlc).elim
  ·rw [e3,hself] at hlc
   obtain rfl:b = c:=by simpa using hlc
   rw [hoth k hkj] at hkc
   exact (hno hki hk hkc).elim
  ·rw [hoth k hkj] at hkc
   rw [hoth l hlj] at hlc
   exact r.apart k l C D c hk hl hkc hlc hne
 ·intro k c hk
  by_cases hkj:k = j
  ·subst hkj
   rw [hself] at hk
   obtain rfl:b = c:=by simpa using hk
   exact r.bound i b hb
  ·rw [hoth k hkj] at hk
   exact r.bound k c hk
 ·intro k C c hk hCro hkc
  rcases hcase hk with ⟨rfl,rfl⟩ | ⟨hkj,hki,hk⟩
  ·rw [hself] at hkc
   obtain rfl:b = c:=by simpa using hkc
   exact r.size i A b hi hro hb
  ·rw [hoth k hkj] at hkc
   exact r.size k C c hk hCro hkc
 ·exact r.frz
 ·intro k C c hk hCro hkc
  rcases hcase hk with ⟨rfl,rfl⟩ | ⟨hkj,hki,hk⟩
  ·rw [hself] at hkc
   obtain rfl:b = c:=by simpa using hkc
   exact r.nofz i A b hi hro hb
  ·rw [hoth k hkj] at hkc
   exact r.nofz k C c hk hCro hkc
 ·intro k C c hk hkc hc
  rcases hcase hk with ⟨rfl,rfl⟩ | ⟨hkj,hki,hk⟩
  ·rw [hself] at hkc
   obtain rfl:b = c:=by simpa using hkc
   exact ⟨i,A,hi,hb,fun _ => hro⟩
  ·rw [hoth k hkj] at hkc
   exact ⟨k,C,hk,hkc,id⟩
def World.putCells (w:World) (b:Nat):Nat → List Value → World
 | _,[] => w
 | o,v :: r => World.putCells (w.setCell ⟨b,o,none⟩ v) b (o + 1) r
theorem upd1_cell_some {h:HF} {i o:Nat} {v:Value} {B:Blk} (hi:h i = some B):upd1 h (i,.cell o v) i = some (B.set o v):=by rw [upd1_cell,hi];rfl
theorem Rep.cells {μ:Mu}:∀ {vs us:List Value} {h:HF} {w:World} (_:Rep μ h w) {i b o:Nat} {B:Blk} (_:h i = some B) (_:B.ro = false) (_:μ i = some b) (_:o + vs.length ≤ B.size) (_:VRels μ vs us),
  Rep μ (app (cellsEff i o vs) h) (World.putCells w b o us) ∧ Keeps μ h w μ (app (cellsEff i o vs) h) (World.putCells w b o us)
 | [],[],h,w,r,i,b,o,B,hi,hro,hb,ho,_ => ⟨r,Keeps.refl _ _ _⟩
 | [],_ :: _,h,w,r,i,b,o,B,hi,hro,hb,ho,hh => nomatch hh
 | _ :: _,[],h,w,r,i,b,o,B,hi,hro,hb,ho,hh => nomatch hh
 | v :: vs,u :: us,h,w,r,i,b,o,B,hi,hro,hb,ho,hh => by
  have ⟨hv,hvs⟩:VRel μ v u ∧ VRels μ vs us:=by cases hh with | cons a b => exact ⟨a,b⟩
  simp only [List.length_cons] at ho
  obtain ⟨r1,k1⟩:=r.cell hi hro hb (o:=o) (by omega) hv
  obtain ⟨r2,k2⟩:=Rep.cells r1 (i:=i) (b:=b) (o:=o + 1) (B:=B.set o v) (upd1_cell_some hi) hro hb (by rw [Blk.set_size];omega) hvs
  exact ⟨r2,k1.trans k2⟩
end Go.Proofs.Ytgnhhnmpeklciaa.VX
namespace Go.Proofs.Ytgnhhnmpeklciaa.VX
open Go
theorem wp_of_value {P:Program} {o:Oper} {a:Act} {w w':World} {K:Act → World → Prop} {Q:Exit → Act → World → Prop} {v:Value}
  (h:(execOp a.eval o).run P w = .ok (.value v) w') (k:K (a.put o.dst v) w'):o.wp P a w K Q:=by
 unfold Oper.wp;rw [h];exact k
theorem wp_of_skip {P:Program} {o:Oper} {a:Act} {w w':World} {K:Act → World → Prop} {Q:Exit → Act → World → Prop}
  (h:(execOp a.eval o).run P w = .ok .skip w') (k:K (a.put o.dst undef) w'):o.wp P a w K Q:=by
 unfold Oper.wp;rw [h];exact k
theorem wp_of_enter {P:Program} {o:Oper} {a:Act} {w w':World} {K:Act → World → Prop} {Q:Exit → Act → World → Prop} {f:FuncId} {args:Array Value}
  (h:(execOp a.eval o).run P w = .ok (.enter f args) w') (k:Calls P f args w' fun e w'' => ∃ rv,e = .returned rv ∧ K (a.put o.dst rv) w''):o.wp P a w K Q:=by
 unfold Oper.wp;rw [h]
 refine k.mono ?_
 rintro e w'' ⟨rv,rfl,hk⟩
 exact hk
theorem isAgg_run {P:Program} {t:TypeId} {b:Bool} (h:isAggB P t = some b) (w:World):(isAgg t).run P w = .ok b w:=by
 unfold isAggB at h
 unfold isAgg underlying program
 cases hu:P.underlying t with
 | none => simp [hu] at h
 | some d =>
  rw [hu] at h
  simp only [Sem.run_bind,Sem.run,Result.andThen_ok,hu]
  cases d <;> simp at h <;> subst h <;> rfl
theorem sizeOf_run {P:Program} {t:TypeId} {n:Nat} (h:sizeB P t = some n) (w:World):(sizeOf t).run P w = .ok n w:=by
 unfold sizeB at h
 unfold sizeOf typeInfo program
 cases hi:P.info? t with
 | none => simp [hi] at h
 | some i =>
  simp [hi] at h
  subst h
  simp [Sem.run_bind,Sem.run,hi]
theorem underlying_run {P:Program} {t:TypeId} {d:TypeDesc} (h:P.underlying t = some d) (w:World):(underlying t).run P w = .ok d w:=by
 unfold underlying program
 simp [Sem.run_bind,Sem.run,h]
theorem zeroValue_run {P:Program} {t:TypeId} {i:TypeInfo} {z:Value} (h:P.info? t = some i) (hz:i.zero = some z) (w:World):(zeroValue t).run P w = .ok z w:=by
 unfold zeroValue typeInfo program
 simp [Sem.run_bind,Sem.run,h,hz]
theorem cell_of {w:World} {b o:Nat} {cs:Array Value} {t:TypeId} {fr:Nat × Nat} {v:Value} (h:w.heap[b]? = some (.cells cs t fr)) (hv:cs[o]? = some v):w.cell? ⟨b,o,none⟩ = some v:=by
 simp [World.cell?,h,hv]
theorem add_off (b o n:Nat):(Addr.add ⟨b,o,none⟩ n) = ⟨b,o + n,none⟩:=by
 unfold Addr.add
 split
 ·rename_i h;subst h;rfl
 ·rfl
theorem gets_spec {μ:Mu} {B:Blk} {cs:Array Value} (h:∀ off v,B.get? off = some v → ∃ r,cs[off]? = some r ∧ VRel μ v r) :
  ∀ (n o:Nat) (l:List Value),gets B o n = some l → ∃ rs:List Value,VRels μ l rs ∧ l.length = n ∧ ∀ j r,rs[j]? = some r → cs[o + j]? = some r
 | 0,o,l,hl => by
  simp [gets] at hl;subst hl
  exact ⟨[],.nil,rfl,fun j r hr => by simp at hr⟩
 | n + 1,o,l,hl => by
  simp only [gets] at hl
  cases hb:B.get? o with
  | none => simp [hb] at hl
  | some v =>
   rw [hb] at hl
   cases hg:gets B (o + 1) n with
   | none => simp [hg] at hl
   | some l' =>
    simp [hg] at hl;subst hl
    obtain ⟨rs,h1,h2,h3⟩:=gets_spec h n (o + 1) l' hg
    obtain ⟨r,hr,hv⟩:=h o v hb
    refine ⟨r :: rs,.cons hv h1,by simp [h2],fun j x hx => ?_⟩
    cases j with
    | zero => simp at hx;subst hx;simpa using hr
    | succ j => have:=h3 j x (by simpa using hx);rw [show o + (j + 1) = o + 1 + j by omega];exact this
theorem loadAt_run_one {P:Program} {t:TypeId} {w:World} {b o:Nat} {v:Value} (ht:isAggB P t = some false) (hc:w.cell? ⟨b,o,none⟩ = some v) :
  (Instr.loadAt t (.pointer (some ⟨b,o,none⟩))).run P w = .ok v w:=by
 unfold Instr.loadAt Instr.sureAddr loadVar
 simp only [Sem.run_bind,Sem.run_pure,Result.andThen_ok,isAgg_run ht w,Bool.false_eq_true,if_false]
 simp [hc]
theorem loadAt_run_agg {P:Program} {t:TypeId} {w:World} {b o n:Nat} {rs:List Value} (ht:isAggB P t = some true) (hn:sizeB P t = some n) (hl:rs.length = n)
  (hc:∀ j r,rs[j]? = some r → w.cell? ⟨b,o + j,none⟩ = some r) :
  (Instr.loadAt t (.pointer (some ⟨b,o,none⟩))).run P w = .ok (.agg ⟨rs⟩) w:=by
 unfold Instr.loadAt Instr.sureAddr loadVar
 simp only [Sem.run_bind,Sem.run_pure,Result.andThen_ok,isAgg_run ht w,if_true,sizeOf_run hn w]
 subst hl
 have:=run_loadCells_list (P:=P) (w:=w) ⟨b,o,none⟩ rs (fun j v hv => by rw [add_off];exact hc j v hv)
 simp [this]
theorem segAt_get:∀ {l:List Seg} {st:Nat} {s:Seg},segAt l st = some s → ∀ (o:Nat) (v:Value),s.get? o = some v → segsGet? l (st + o) = some v
 | [],st,s,h,_,_,_ => by simp [segAt] at h
 | x :: r,st,s,h,o,v,hv => by
  simp only [segAt] at h
  cases e:Nat.beq st 0 <;> rw [e] at h
  ·simp only [cond_false] at h
   cases e2:Nat.blt st x.size <;> rw [e2] at h
   ·simp only [cond_false] at h
    have h2:=blt_ff e2
    have:=segAt_get h o v hv
    simp only [segsGet?]
    have e3:Nat.blt (st + o) x.size = false:=by
     cases e4:Nat.blt (st + o) x.size with
     | false => rfl
     | true => have:=blt_tt e4;omega
    rw [e3]
    simp only [cond_false]
    rw [show st + o - x.size = st - x.size + o by omega]
    exact this
   ·simp at h
  ·simp only [cond_true,Option.some.injEq] at h
   subst h
   have:=beq_tt e
   subst this
   have hlt:=Seg.get_lt hv
   simp only [segsGet?,Nat.zero_add]
   have e3:Nat.blt o x.size = true:=by
    cases e4:Nat.blt o x.size with
    | true => rfl
    | false => have:=blt_ff e4;omega
   rw [e3]
   simpa using hv
theorem segAtG_get {l:List Seg} {st:Nat} {s:Seg} (h:segAtG l st = some s) (hg:∀ q ∈ gapOb l st,q):∀ (o:Nat) (v:Value),s.get? o = some v → segsGet? l (st + o) = some v:=by
 intro o v hv
 unfold segAtG at h
 split at h
 ·rename_i n sg
  obtain rfl:=Option.some.inj h
  have e:st = n:=hg _ (by simp [gapOb])
  subst e
  have e2:Nat.blt (st + o) (Seg.gap st).size = false:=by
   cases e4:Nat.blt (st + o) (Seg.gap st).size with
   | false => rfl
   | true => have:=blt_tt e4;simp only [Seg.size] at this;omega
  have hb:=Seg.get_lt hv
  have e5:segsGet? [.gap st,sg] (st + o) = (bif Nat.blt (st + o) (Seg.gap st).size then (Seg.gap st).get? (st + o) else bif Nat.blt (st + o - st) sg.size then sg.get? (st + o - st) else segsGet? [] (st + o - st - sg.size)):=rfl
  rw [e5,e2]
  simp only [cond_false]
  rw [show st + o - st = o by omega,show Nat.blt o sg.size = true from Nat.ble_eq_true_of_le hb]
  simpa using hv
 ·exact segAt_get h o v hv
theorem xload_ok {P:Program} {H h:HF} {t:TypeId} {p v:Value} {i:Nat} {ob:List Prop} (hx:xload P H t p = some (v,i,ob)) (hob:∀ q ∈ ob,q) (hH:h i = H i)
  {μ:Mu} {w:World} (r:Rep μ h w) {rp:Value} (hp:VRel μ p rp):∃ rv,(Instr.loadAt t rp).run P w = .ok rv w ∧ VRel μ v rv:=by
 unfold xload at hx
 split at hx
 ·rename_i i' off
  cases hB:H i' with
  | none => simp [hB] at hx
  | some B =>
   rw [hB] at hx
   cases ha:isAggB P t with
   | none => simp [ha] at hx
   | some b =>
    rw [ha] at hx
    cases b with
    | true =>
     cases hs:sizeB P t with
     | none => simp [hs] at hx
     | some n =>
      simp only [hs] at hx
      cases hg:gets B off n with
      | none => simp [hg] at hx
      | some l =>
       simp [hg] at hx
       obtain ⟨rfl,rfl,rfl⟩:=hx
       rw [← hH] at hB
       obtain ⟨b,hb,cs,ty,fr,he,_,hcs⟩:=r.blk i' B hB (.inr hp.ptr_ne)
       cases hp with
       | ptr hb' _ =>
        rw [hb] at hb'
        obtain rfl:b = _:=by simpa using hb'
        obtain ⟨rs,h1,h2,h3⟩:=gets_spec hcs n off l hg
        exact ⟨.agg ⟨rs⟩,loadAt_run_agg ha hs (by rw [← h1.length,h2]) (fun j x hx => cell_of he (h3 j x hx)),.agg h1⟩
    | false =>
     cases hg:B.get? off with
     | none => simp [hg] at hx
     | some x =>
      simp [hg] at hx
      obtain ⟨rfl,rfl,rfl⟩:=hx
      rw [← hH] at hB
      obtain ⟨b,hb,cs,ty,fr,he,_,hcs⟩:=r.blk i' B hB (.inr hp.ptr_ne)
      cases hp with
      | ptr hb' _ =>
       rw [hb] at hb'
       obtain rfl:b = _:=by simpa using hb'
       obtain ⟨rv,hr,hv⟩:=hcs off x hg
       exact ⟨rv,loadAt_run_one ha (cell_of he hr),hv⟩
 ·rename_i i' off s
  cases hB:H i' with
  | none => simp [hB] at hx
  | some B =>
   rw [hB] at hx
   cases ha:isAggB P t with
   | none => simp [ha] at hx
   | some b =>
    rw [ha] at hx
    cases b with
    | true => simp at hx
    | false =>
     simp only at hx
     have fin:∀ sg,segAtG B.segs s = some sg → (∀ q ∈ gapOb B.segs s,q) → sg.get? off = some v → i = i' → ∃ rv,(Instr.loadAt t rp).run P w = .ok rv w ∧ VRel μ v rv:=by
      intro sg hsg hgp hgv hi
      subst hi
      rw [← hH] at hB
      obtain ⟨b,hb,cs,ty,fr,he,_,hcs⟩:=r.blk i B hB (.inr hp.ptr_ne)
      cases hp with
      | ptrS hb' _ _ =>
       rw [hb] at hb'
       obtain rfl:b = _:=by simpa using hb'
       obtain ⟨rv,hr,hv⟩:=hcs (s + off) v (segAtG_get hsg hgp off v hgv)
       exact ⟨rv,loadAt_run_one ha (cell_of he hr),hv⟩
     split at hx
     ·rename_i k n a hsg
      simp at hx
      obtain ⟨rfl,rfl,rfl⟩:=hx
      have hlt:off < n:=hob _ (by simp)
      exact fin _ hsg (fun q hq => hob q (List.mem_append_left _ hq)) (by simp only [Seg.get?];rw [show Nat.blt off n = true from Nat.ble_eq_true_of_le hlt];rfl) rfl
     ·rename_i n a hsg
      simp at hx
      obtain ⟨rfl,rfl,rfl⟩:=hx
      have hlt:off < n:=hob _ (by simp)
      exact fin _ hsg (fun q hq => hob q (List.mem_append_left _ hq)) (by simp only [Seg.get?];rw [show Nat.blt off n = true from Nat.ble_eq_true_of_le hlt];rfl) rfl
     ·simp at hx
 ·simp at hx
theorem VRel.cells {μ:Mu} {v r:Value} (h:VRel μ v r) (hs:v.cells.toList.all storable = true):VRels μ v.cells.toList r.cells.toList ∧ r.cells.toList.all storable = true:=by
 have key:∀ {l m:List Value},VRels μ l m → l.all storable = true → m.all storable = true:=by
  intro l m hm
  induction l generalizing m with
  | nil => cases hm;intro _;rfl
  | cons x l ih =>
   cases hm with
   | cons a b =>
    intro hall
    simp only [List.all_cons,Bool.and_eq_true] at hall ⊢
    refine ⟨?_,ih b hall.2⟩
    cases a <;> first | rfl | (simp [storable] at hall;done) | (rename_i hr _;obtain ⟨_,_,_,rfl⟩:=hr;rfl)
 cases h with
 | agg a => exact ⟨a,key a hs⟩
 | junk r => simp [Value.cells,storable] at hs
 | und => simp [Value.cells,storable] at hs
 | tup a => simp [Value.cells,storable] at hs
 | bool b => exact ⟨.cons (.bool b) .nil,rfl⟩
 | int k n => exact ⟨.cons (.int k n) .nil,rfl⟩
 | float k n => exact ⟨.cons (.float k n) .nil,rfl⟩
 | string s => exact ⟨.cons (.string s) .nil,rfl⟩
 | ptrNil => exact ⟨.cons .ptrNil .nil,rfl⟩
 | ptr e off => exact ⟨.cons (.ptr e off) .nil,rfl⟩
 | ptrS e s off => exact ⟨.cons (.ptrS e s off) .nil,rfl⟩
 | sliceNil => exact ⟨.cons .sliceNil .nil,rfl⟩
 | slice e off l c c' hc hz => exact ⟨.cons (.slice e off l c c' hc hz) .nil,rfl⟩
 | sliceS e s off l c c' hc hz => exact ⟨.cons (.sliceS e s off l c c' hc hz) .nil,rfl⟩
 | sliceE i s off c a c' hz => exact ⟨.cons (.sliceE i s off c a c' hz) .nil,rfl⟩
 | mapNil => exact ⟨.cons .mapNil .nil,rfl⟩
 | nilFunc => exact ⟨.cons .nilFunc .nil,rfl⟩
 | nilIface => exact ⟨.cons .nilIface .nil,rfl⟩
 | func fn a b => exact ⟨.cons (.func fn a b) .nil,rfl⟩
 | iface t a => exact ⟨.cons (.iface t a) .nil,rfl⟩
 | lst z l f hs2 hr k => obtain ⟨a,n,c,rfl⟩:=hr;exact ⟨.cons (.lst z l f hs2 ⟨a,n,c,rfl⟩ k) .nil,rfl⟩
 | fptr l hs2 hf k => exact ⟨.cons (.fptr l hs2 hf k) .nil,rfl⟩
 | emp a c => exact ⟨.cons (.emp a c) .nil,rfl⟩
theorem storeCells_run {P:Program}:∀ (us:List Value) (w:World) (b o i n:Nat) (t:TypeId),(∃ cs,w.heap[b]? = some (.cells cs t (0,0)) ∧ cs.size = n) → o + i + us.length ≤ n → us.all storable = true →
  (storeCells ⟨b,o,none⟩ us i).run P w = .ok () (World.putCells w b (o + i) us)
 | [],w,b,o,i,n,t,_,_,_ => rfl
 | u :: us,w,b,o,i,n,t,⟨cs,he,hn⟩,hle,hst => by
  simp only [List.all_cons,Bool.and_eq_true] at hst
  simp only [List.length_cons] at hle
  simp only [storeCells,World.putCells,Sem.run_bind]
  have hc:∃ x,w.cell? ⟨b,o + i,none⟩ = some x:=⟨cs[o + i]'(by omega),cell_of he (by simp [show o + i < cs.size by omega])⟩
  obtain ⟨x,hx⟩:=hc
  have hf:w.frozen? ⟨b,o + i,none⟩ = false:=by
   unfold World.frozen?
   rw [he]
   have:¬ (o + i < 0):=by omega
   simp
  have hone:(store (Addr.add ⟨b,o,none⟩ i) u).run P w = .ok () (w.setCell ⟨b,o + i,none⟩ u):=by
   rw [add_off]
   unfold store
   cases u <;> first | (simp only [Sem.run,hx,hf,Bool.false_eq_true,if_false];done) | (exact absurd hst.1 (by simp [storable]))
  rw [hone]
  simp only [Result.andThen_ok]
  have:=storeCells_run (P:=P) us (w.setCell ⟨b,o + i,none⟩ u) b o (i + 1) n t
   ⟨cs.setIfInBounds (o + i) u,by have:=heap_setCell_same w b (o + i) cs t u he;simpa using this,by simpa using hn⟩ (by omega) hst.2
  rw [this]
  rfl
theorem storeAt_run {P:Program} {t:TypeId} {w:World} {b o n N:Nat} {ty:TypeId} {r:Value} (hn:sizeB P t = some n) (hl:r.cells.toList.length = n)
  (hb:∃ cs,w.heap[b]? = some (.cells cs ty (0,0)) ∧ cs.size = N) (hle:o + n ≤ N) (hst:r.cells.toList.all storable = true) :
  (Instr.storeAt t (.pointer (some ⟨b,o,none⟩)) r).run P w = .ok () (World.putCells w b o r.cells.toList):=by
 unfold Instr.storeAt Instr.sureAddr storeVar
 simp only [Sem.run_bind,Sem.run_pure,Result.andThen_ok,sizeOf_run hn w]
 have h1:r.cells.size = n:=by rw [← hl];simp
 rw [if_neg (by simp [h1])]
 have:=storeCells_run (P:=P) r.cells.toList w b o 0 N ty hb (by rw [hl];omega) hst
 simpa using this
def SameShape (a b:Option Blk):Prop:=∀ B,b = some B → ∃ A,a = some A ∧ A.ro = B.ro ∧ A.size = B.size
theorem segPut_spec:∀ {l l':List Seg} {st o n:Nat} {v:Value},segPut l st o v = some (l',n) → o < n →
  l' = segsSet l (st + o) v ∧ st + o < segsSize l
 | [],l',st,o,n,v,h,_ => by simp [segPut] at h
 | s :: r,l',st,o,n,v,h,ho => by
  simp only [segPut] at h
  cases e:Nat.beq st 0 <;> rw [e] at h
  ·simp only [cond_false] at h
   cases e2:Nat.blt st s.size <;> rw [e2] at h
   ·simp only [cond_false] at h
    have h2:=blt_ff e2
    cases hp:segPut r (st - s.size) o v with
    | none => simp [hp] at h
    | some q =>
     obtain ⟨r',m⟩:=q
     simp [hp] at h
     obtain ⟨rfl,rfl⟩:=h
     obtain ⟨h3,h4⟩:=segPut_spec hp ho
     constructor
     ·simp only [segsSet]
      have e3:Nat.blt (st + o) s.size = false:=by
       cases e4:Nat.blt (st + o) s.size with
       | false => rfl
       | true => have:=blt_tt e4;omega
      rw [e3,cond_false,h3,show st + o - s.size = st - s.size + o by omega]
     ·simp [segsSize];omega
   ·simp at h
  ·simp only [cond_true] at h
   have:=beq_tt e
   subst this
   split at h
   ·rename_i k m a k' x
    cases ek:k == k' <;> rw [ek] at h
    ·simp at h
    ·simp at h
     obtain ⟨rfl,rfl⟩:=h
     constructor
     ·simp only [segsSet,Seg.size,Nat.zero_add]
      rw [show Nat.blt o m = true from Nat.ble_eq_true_of_le ho]
      simp only [cond_true,Seg.set,ek]
     ·simp [segsSize,Seg.size];omega
   ·rename_i m a x
    simp at h
    obtain ⟨rfl,rfl⟩:=h
    constructor
    ·simp only [segsSet,Seg.size,Nat.zero_add]
     rw [show Nat.blt o m = true from Nat.ble_eq_true_of_le ho]
     simp only [cond_true,Seg.set]
    ·simp [segsSize,Seg.size];omega
   ·simp at h
theorem xstore_cells_ok {P:Program} {H h:HF} {t:TypeId} {p v:Value} {i off:Nat} {vs:List Value} (hx:xstore P H t p v = some (.cells i off vs)) (hH:SameShape (h i) (H i))
  {μ:Mu} {w:World} (r:Rep μ h w) {rp rv:Value} (hp:VRel μ p rp) (hv:VRel μ v rv) :
  ∃ w',(Instr.storeAt t rp rv).run P w = .ok () w' ∧ Rep μ (app (cellsEff i off vs) h) w' ∧ Keeps μ h w μ (app (cellsEff i off vs) h) w':=by
 unfold xstore at hx
 split at hx
 ·rename_i i' o
  cases hB:H i' with
  | none => simp [hB] at hx
  | some B =>
   cases hs:sizeB P t with
   | none => simp [hB,hs] at hx
   | some n =>
    simp only [hB,hs] at hx
    cases hc:(!B.ro && Nat.beq v.cells.toList.length n && v.cells.toList.all storable && Nat.ble (o + n) B.size) <;> rw [hc] at hx
    ·simp at hx
    ·simp at hx
     obtain ⟨rfl,rfl,rfl⟩:=hx
     simp only [Bool.and_eq_true,Bool.not_eq_true'] at hc
     obtain ⟨⟨⟨h1,h2⟩,h3⟩,h4⟩:=hc
     obtain ⟨A,hA,hAr,hAs⟩:=hH B hB
     obtain ⟨b,hb,cs,ty,fr,he,hrw,hcs⟩:=r.blk i' A hA (.inr hp.ptr_ne)
     obtain ⟨rfl,rfl,hsz⟩:=hrw (by rw [hAr];exact h1)
     cases hp with
     | ptr hb' _ =>
      rw [hb] at hb'
      obtain rfl:b = _:=by simpa using hb'
      obtain ⟨hcells,hst⟩:=hv.cells h3
      have hlen:rv.cells.toList.length = n:=by rw [← hcells.length];exact beq_tt h2
      have h4':=ble_tt h4
      refine ⟨_,storeAt_run hs hlen ⟨cs,he,rfl⟩ (by rw [hAs] at hsz;exact Nat.le_trans h4' hsz) hst,?_⟩
      have hl:v.cells.toList.length = n:=beq_tt h2
      exact r.cells hA (by rw [hAr];exact h1) hb (by rw [hl,hAs];exact h4') hcells
 ·rename_i i' o s
  cases hB:H i' with
  | none => simp [hB] at hx
  | some B =>
   simp only [hB] at hx
   split at hx
   ·rename_i B'' hs hBB
    cases hc:(!B''.ro && storable v) <;> rw [hc] at hx
    ·simp at hx
    ·simp only [cond_true] at hx
     split at hx <;> simp at hx
   ·simp at hx
 ·simp at hx
theorem xstore_whole_ok {P:Program} {H h:HF} {t:TypeId} {p v:Value} {i:Nat} {B':Blk} {ob:Prop} (hx:xstore P H t p v = some (.whole i B' ob)) (hob:ob) (hH:h i = H i)
  {μ:Mu} {w:World} (r:Rep μ h w) {rp rv:Value} (hp:VRel μ p rp) (hv:VRel μ v rv) :
  ∃ w',(Instr.storeAt t rp rv).run P w = .ok () w' ∧ Rep μ (upd1 h (i,.blk B')) w' ∧ Keeps μ h w μ (upd1 h (i,.blk B')) w':=by
 unfold xstore at hx
 split at hx
 ·rename_i i' off'
  cases hB:H i' with
  | none => simp [hB] at hx
  | some B =>
   cases hs:sizeB P t with
   | none => simp [hB,hs] at hx
   | some n =>
    simp only [hB,hs] at hx
    cases hc:(!B.ro && Nat.beq v.cells.toList.length n && v.cells.toList.all storable && Nat.ble (off' + n) B.size) <;> rw [hc] at hx <;> simp at hx
 ·rename_i i' o s
  cases hB:H i' with
  | none => simp [hB] at hx
  | some B =>
   simp only [hB] at hx
   split at hx
   ·rename_i hs
    rename_i B'' hBB
    obtain rfl:B = B'':=by simpa using hBB
    cases hc:(!B.ro && storable v) <;> rw [hc] at hx
    ·simp at hx
    ·simp only [cond_true] at hx
     split at hx
     ·rename_i l n hp2
      simp only [Option.some.injEq,StoreOut.whole.injEq] at hx
      obtain ⟨rfl,rfl,rfl⟩:=hx
      simp only [Bool.and_eq_true,Bool.not_eq_true'] at hc
      rw [← hH] at hB
      obtain ⟨b,hb,cs,ty,fr,he,hrw,hcs⟩:=r.blk i' B hB (.inr hp.ptr_ne)
      obtain ⟨rfl,rfl,hsz⟩:=hrw hc.1
      cases hp with
      | ptrS hb' _ _ =>
       rw [hb] at hb'
       obtain rfl:b = _:=by simpa using hb'
       obtain ⟨h3,h4⟩:=segPut_spec hp2 hob
       have hvc:v.cells = #[v]:=by cases v <;> first | rfl | (simp [storable] at hc)
       obtain ⟨hcells,hst⟩:=hv.cells (by rw [hvc];simp [hc.2])
       have hrc:rv.cells.toList.length = 1:=by rw [← hcells.length,hvc];rfl
       have hrv:∃ x,rv.cells.toList = [x] ∧ VRel μ v x:=by
        rw [hvc] at hcells
        revert hcells
        generalize rv.cells.toList = L
        intro hL
        cases hL with
        | cons a b => cases b;exact ⟨_,rfl,a⟩
       obtain ⟨x,hxx,hvx⟩:=hrv
       refine ⟨_,storeAt_run hs hrc ⟨cs,he,rfl⟩ (Nat.le_trans h4 hsz) hst,?_⟩
       rw [hxx]
       have:=r.cell (o:=s + o) hB hc.1 hb h4 hvx
       have eB:upd1 h (i',.cell (s + o) v) = upd1 h (i',.blk { B with segs:=l }):=by
        funext j
        by_cases hj:j = i'
        ·subst hj
         rw [upd1_cell,upd1_same,hB]
         simp [Blk.set,h3]
        ·rw [upd1_other hj,upd1_other hj]
       rw [← eB]
       exact this
     ·simp at hx
   ·simp at hx
 ·simp at hx
end Go.Proofs.Ytgnhhnmpeklciaa.VX
namespace Go.Proofs.Ytgnhhnmpeklciaa.VX
open Go
theorem part_run_one {P:Program} {t:TypeId} {cs:List Value} {off:Nat} {v:Value} (w:World) (ha:isAggB P t = some false) (hv:cs[off]? = some v):(part t ⟨cs⟩ off).run P w = .ok v w:=by
 unfold part
 simp only [Sem.run_bind,isAgg_run ha w,Result.andThen_ok,Bool.false_eq_true,if_false]
 simp [hv]
theorem part_run_agg {P:Program} {t:TypeId} {cs:List Value} {off n:Nat} (w:World) (ha:isAggB P t = some true) (hn:sizeB P t = some n):(part t ⟨cs⟩ off).run P w = .ok (.agg ⟨(cs.drop off).take n⟩) w:=by
 unfold part
 simp only [Sem.run_bind,isAgg_run ha w,Result.andThen_ok,if_true,sizeOf_run hn w,Sem.run_pure]
 congr 2
 apply Array.ext'
 simp [Array.toList_extract]
theorem stoodIn_empty {P:Program} {t:TypeId} (h:(P.stoodInAs t).isEmpty = true):P.stoodInHeld t = false:=by
 unfold Program.stoodInHeld
 cases hl:P.stoodInAs t with
 | nil => rfl
 | cons a b => rw [hl] at h;simp at h
theorem fieldsOf_eq {P:Program} {t:TypeId} {fs:Array Field} (h:P.underlying t = some (.struct fs)):P.fieldsOf t = fs:=by unfold Program.fieldsOf;rw [h]
theorem eqv_run {P:Program}:∀ (d:Nat) (t:TypeId) (x y:Value) (b:Bool),eqv P d t x y = some b → ∀ w,(Op.equalIn d t x y).run P w = .ok b w
 | 0,t,x,y,b,h,w => by simp [eqv] at h
 | d + 1,t,x,y,b,h,w => by
  simp only [eqv] at h
  split at h
  ·rename_i hu
   simp at h;subst h
   exact run_equalIn_bool w d t _ _ hu
  ·rename_i k' k a k'' c hu
   cases e:k == k'' <;> rw [e] at h
   ·simp at h
   ·simp at h;subst h
    obtain rfl:k = k'':=by simpa using e
    exact run_equalIn_int w d t k _ _ _ hu
  ·rename_i a c hu
   simp at h;subst h
   rw [run_equalIn_string w d t _ _ hu,beq_toListBytes]
  ·rename_i q c hu
   simp at h;subst h
   simp [Op.equalIn,run_underlying hu]
  ·rename_i q c hu
   simp at h;subst h
   simp [Op.equalIn,run_underlying hu]
  ·rename_i q l c b' l' c' hu
   simp at h;subst h
   simp [Op.equalIn,run_underlying hu]
  ·rename_i q l c b' l' c' hu
   simp at h;subst h
   simp [Op.equalIn,run_underlying hu]
  ·rename_i fs xs ys hu
   cases hst:(P.stoodInAs t).isEmpty <;> rw [hst] at h
   ·simp at h
   ·simp only [cond_true] at h
    rw [run_equalIn_struct w d t ⟨xs⟩ ⟨ys⟩ (by rw [fieldsOf_eq hu];exact hu) (stoodIn_empty hst),fieldsOf_eq hu]
    generalize fs.toList = l at h
    clear hu
    induction l generalizing b with
    | nil => simp at h;subst h;simp [Op.eqFields]
    | cons f l ih =>
     simp only [List.foldr_cons] at h
     split at h
     ·simp at h
     ·rename_i c hc
      have hih:=ih c hc
      cases hn : f.name == "_" <;> rw [hn] at h
      ·simp only [cond_false] at h
       have hne : f.name ≠ "_" := by simpa using hn
       have fin:∀ (x y:Value) (c':Bool),(part f.type ⟨xs⟩ f.offset).run P w = .ok x w → (part f.type ⟨ys⟩ f.offset).run P w = .ok y w → eqv P d f.type x y = some c' → b = (c' && c) →
         (Op.eqFields d ⟨xs⟩ ⟨ys⟩ (f :: l)).run P w = .ok b w:=by
        intro x y c' h1 h2 h3 h4
        simp only [Op.eqFields,if_pos hne,Sem.run_bind,h1,h2,Result.andThen_ok,eqv_run d f.type x y c' h3 w,Sem.run_ite,hih]
        subst h4
        cases c' <;> simp
       split at h
       ·rename_i n ha hs
        split at h
        ·rename_i c' he
         simp at h
         exact fin _ _ c' (part_run_agg w ha hs) (part_run_agg w ha hs) he h.symm
        ·simp at h
       ·rename_i ha
        split at h
        ·rename_i p q hp hq
         split at h
         ·rename_i c' he
          simp at h
          exact fin _ _ c' (part_run_one w ha hp) (part_run_one w ha hq) he h.symm
         ·simp at h
        ·simp at h
       ·simp at h
      ·simp at h
  ·simp at h
theorem equal_run {P:Program} {t:TypeId} {x y:Value} {b:Bool} (h:eqv P 10000 t x y = some b) (w:World):(Op.equal t x y).run P w = .ok b w:=eqv_run 10000 t x y b h w
theorem eqv_ptr {P:Program} {d:Nat} {t:TypeId} {a b a' b':Option Addr} (ha:a.isNone = a'.isNone) (hb:b.isNone = b'.isNone):eqv P (d + 1) t (.pointer a) (.pointer b) = eqv P (d + 1) t (.pointer a') (.pointer b'):=by
 simp only [eqv]
 cases a <;> cases a' <;> cases b <;> cases b' <;> simp at ha hb <;> (cases P.underlying t with | none => rfl | some d => cases d <;> rfl)
theorem eqv_slice {P:Program} {d:Nat} {t:TypeId} {a b a' b':Option Addr} {l c m e l' c' m' e':Nat} (ha:a.isNone = a'.isNone) (hb:b.isNone = b'.isNone) :
  eqv P (d + 1) t (.slice a l c) (.slice b m e) = eqv P (d + 1) t (.slice a' l' c') (.slice b' m' e'):=by
 simp only [eqv]
 cases a <;> cases a' <;> cases b <;> cases b' <;> simp at ha hb <;> (cases P.underlying t with | none => rfl | some d => cases d <;> rfl)
theorem xbin_ok {P : Program} {op : BinOp} {t : TypeId} {x y v : Value} {ob : List Prop} (h : xbin P op t x y = some (v, ob)) (hob : ∀ q ∈ ob, q) {μ : Mu} {rx ry : Value} (hx : VRel μ x rx) (hy : VRel μ y ry)
    (ox oy : Operand) (w : World) : ((do eqGuard op t ox oy rx ry; binOp op t rx ry : Sem Value)).run P w = .ok v w ∧ VRel μ v v := by
  unfold xbin at h
  split at h
  case h_1 k a k' b =>
    simp at h; obtain ⟨rfl, rfl⟩ := h
    have h0 : 0 ≤ b := hob _ (by simp)
    cases hx; cases hy
    refine ⟨?_, .int _ _⟩
    simp [eqGuard, binOp, Op.shift, bShl, bShr, show ¬ b < 0 by omega]
  case h_2 k a k' b =>
    simp at h; obtain ⟨rfl, rfl⟩ := h
    have h0 : 0 ≤ b := hob _ (by simp)
    cases hx; cases hy
    refine ⟨?_, .int _ _⟩
    simp [eqGuard, binOp, Op.shift, bShl, bShr, show ¬ b < 0 by omega]
  all_goals try (rename_i k a k' b
                 cases e : k == k' <;> rw [e] at h
                 · simp at h
                 · simp at h; obtain ⟨rfl, rfl⟩ := h
                   obtain rfl : k = k' := by simpa using e
                   cases hx; cases hy
                   first
                     | (refine ⟨?_, .int _ _⟩; simp [eqGuard, binOp, Op.intArith]; done)
                     | (refine ⟨?_, .int _ _⟩; simp [eqGuard, binOp, Op.intBits, bAnd, bOr, bXor, bAndNot]; done)
                     | (refine ⟨?_, .bool _⟩; simp [eqGuard, binOp, Op.intCmp]; done)
                     | (have hb0 : ¬ b = 0 := hob _ (by simp)
                        refine ⟨?_, .int _ _⟩; simp [eqGuard, binOp, Op.intDiv, hb0]; done))
  case h_18 a b =>
    simp at h; obtain ⟨rfl, rfl⟩ := h
    cases hx; cases hy
    exact ⟨by simp [eqGuard, binOp, Op.stringOp], .bool _⟩
  case h_19 a b =>
    simp at h; obtain ⟨rfl, rfl⟩ := h
    cases hx; cases hy
    exact ⟨by simp [eqGuard, binOp, Op.stringOp], .bool _⟩
  case h_20 a b =>
    simp at h; obtain ⟨rfl, rfl⟩ := h
    have h0 : a.size + b.size ≤ 1073741824 := hob _ (by simp)
    cases hx; cases hy
    refine ⟨?_, .string _⟩
    simp only [eqGuard, binOp, Op.stringOp, Sem.run_bind]
    have hm : ¬ (((a.size + b.size : Nat) : Int) > IntKind.i64.max) := by
      have : IntKind.i64.max = 9223372036854775807 := rfl
      rw [this]; omega
    rw [if_neg hm]
    simp
  case h_21 a b =>
    cases hc : (a.all scalar && b.all scalar && !P.eqGuardType P.depth t) <;> rw [hc] at h
    · simp at h
    · simp only [Bool.and_eq_true, Bool.not_eq_true'] at hc
      cases he : eqv P 10000 t (.agg ⟨a⟩) (.agg ⟨b⟩) with
      | none => simp [he] at h
      | some c =>
        simp [he] at h; obtain ⟨rfl, rfl⟩ := h
        rw [VRel.eq_of_flat (v := .agg ⟨a⟩) (by simpa [flat] using hc.1.1) hx, VRel.eq_of_flat (v := .agg ⟨b⟩) (by simpa [flat] using hc.1.2) hy]
        refine ⟨?_, .bool _⟩
        simp only [Sem.run_bind, run_eqGuard_agg w .eql t ox oy _ _ hc.2, Result.andThen_ok, run_eql_struct, eqv_run _ _ _ _ _ he]
  case h_22 a b =>
    cases hc : (a.all scalar && b.all scalar && !P.eqGuardType P.depth t) <;> rw [hc] at h
    · simp at h
    · simp only [Bool.and_eq_true, Bool.not_eq_true'] at hc
      cases he : eqv P 10000 t (.agg ⟨a⟩) (.agg ⟨b⟩) with
      | none => simp [he] at h
      | some c =>
        simp [he] at h; obtain ⟨rfl, rfl⟩ := h
        rw [VRel.eq_of_flat (v := .agg ⟨a⟩) (by simpa [flat] using hc.1.1) hx, VRel.eq_of_flat (v := .agg ⟨b⟩) (by simpa [flat] using hc.1.2) hy]
        refine ⟨?_, .bool _⟩
        simp only [Sem.run_bind, run_eqGuard_agg w .neq t ox oy _ _ hc.2, Result.andThen_ok, run_neq_struct, eqv_run _ _ _ _ _ he]
  case h_23 a b =>
    cases he : eqv P 10000 t (.bool a) (.bool b) with
    | none => simp [he] at h
    | some c =>
      simp [he] at h; obtain ⟨rfl, rfl⟩ := h
      cases hx; cases hy
      exact ⟨by simp [eqGuard, binOp, equal_run he], .bool _⟩
  case h_24 a b =>
    cases he : eqv P 10000 t (.bool a) (.bool b) with
    | none => simp [he] at h
    | some c =>
      simp [he] at h; obtain ⟨rfl, rfl⟩ := h
      cases hx; cases hy
      exact ⟨by simp [eqGuard, binOp, equal_run he], .bool _⟩
  case h_25 a b =>
    cases he : eqv P 10000 t (.pointer a) (.pointer b) with
    | none => simp [he] at h
    | some c =>
      simp [he] at h; obtain ⟨rfl, rfl⟩ := h
      have he' : ∃ ra rb, rx = .pointer ra ∧ ry = .pointer rb ∧ eqv P 10000 t (.pointer ra) (.pointer rb) = some c := by
        cases hx <;> cases hy <;> first | exact ⟨_, _, rfl, rfl, he⟩ | (refine ⟨_, _, rfl, rfl, ?_⟩; rw [← he]; exact eqv_ptr rfl rfl)
      obtain ⟨ra, rb, rfl, rfl, he'⟩ := he'
      exact ⟨by simp [eqGuard, binOp, equal_run he'], .bool _⟩
  case h_26 a b =>
    cases he : eqv P 10000 t (.pointer a) (.pointer b) with
    | none => simp [he] at h
    | some c =>
      simp [he] at h; obtain ⟨rfl, rfl⟩ := h
      have he' : ∃ ra rb, rx = .pointer ra ∧ ry = .pointer rb ∧ eqv P 10000 t (.pointer ra) (.pointer rb) = some c := by
        cases hx <;> cases hy <;> first | exact ⟨_, _, rfl, rfl, he⟩ | (refine ⟨_, _, rfl, rfl, ?_⟩; rw [← he]; exact eqv_ptr rfl rfl)
      obtain ⟨ra, rb, rfl, rfl, he'⟩ := he'
      exact ⟨by simp [eqGuard, binOp, equal_run he'], .bool _⟩
  case h_27 a l c0 b l' c' =>
    cases hg : (untag a && untag b) <;> rw [hg] at h
    · simp at h
    simp only [cond_true] at h
    cases he : eqv P 10000 t (.slice a l c0) (.slice b l' c') with
    | none => simp [he] at h
    | some c =>
      simp [he] at h; obtain ⟨rfl, rfl⟩ := h
      have he' : ∃ ra l1 c1 rb l2 c2, rx = .slice ra l1 c1 ∧ ry = .slice rb l2 c2 ∧ eqv P 10000 t (.slice ra l1 c1) (.slice rb l2 c2) = some c := by
        cases hx <;> cases hy <;> first | (simp [untag] at hg; done) | exact ⟨_, _, _, _, _, _, rfl, rfl, he⟩ | (refine ⟨_, _, _, _, _, _, rfl, rfl, ?_⟩; rw [← he]; exact eqv_slice rfl rfl)
      obtain ⟨ra, l1, c1, rb, l2, c2, rfl, rfl, he'⟩ := he'
      exact ⟨by simp [eqGuard, binOp, equal_run he'], .bool _⟩
  case h_28 a l c0 b l' c' =>
    cases hg : (untag a && untag b) <;> rw [hg] at h
    · simp at h
    simp only [cond_true] at h
    cases he : eqv P 10000 t (.slice a l c0) (.slice b l' c') with
    | none => simp [he] at h
    | some c =>
      simp [he] at h; obtain ⟨rfl, rfl⟩ := h
      have he' : ∃ ra l1 c1 rb l2 c2, rx = .slice ra l1 c1 ∧ ry = .slice rb l2 c2 ∧ eqv P 10000 t (.slice ra l1 c1) (.slice rb l2 c2) = some c := by
        cases hx <;> cases hy <;> first | (simp [untag] at hg; done) | exact ⟨_, _, _, _, _, _, rfl, rfl, he⟩ | (refine ⟨_, _, _, _, _, _, rfl, rfl, ?_⟩; rw [← he]; exact eqv_slice rfl rfl)
      obtain ⟨ra, l1, c1, rb, l2, c2, rfl, rfl, he'⟩ := he'
      exact ⟨by simp [eqGuard, binOp, equal_run he'], .bool _⟩
  case h_29 => simp at h
theorem xun_ok {P:Program} {op:UnOp} {x v:Value} (h:xun op x = some v) {μ:Mu} {rx:Value} (hx:VRel μ x rx) (w:World):(Op.unary op rx).run P w = .ok v w ∧ VRel μ v v:=by
 unfold xun at h
 split at h
 ·simp at h;subst h;cases hx;exact ⟨by simp [Op.unary],.bool _⟩
 ·simp at h;subst h;cases hx;exact ⟨by simp [Op.unary,Op.intArith],.int _ _⟩
 ·simp at h;subst h;cases hx;exact ⟨by simp [Op.unary,Op.intBits,bXor],.int _ _⟩
 ·simp at h
theorem xconv_ok {P:Program} {src dst:TypeId} {x v:Value} (h:xconv P dst x = some v) (hs:(P.underlying src).isSome = true) {μ:Mu} {rx:Value} (hx:VRel μ x rx) (w:World):(convert src dst rx).run P w = .ok v w ∧ VRel μ v v:=by
 unfold xconv at h
 split at h
 ·rename_i k k' n hu
  simp at h;subst h;cases hx
  obtain ⟨d,hd⟩:=Option.isSome_iff_exists.1 hs
  refine ⟨?_,.int _ _⟩
  unfold convert
  simp only [Sem.run_bind,underlying_run hd,underlying_run hu,Result.andThen_ok]
  cases d <;> simp [Conv.intToInt]
 ·simp at h
theorem lay_length:∀ (vs cells:List Value) (off:Nat),(lay cells off vs).length = cells.length
 | [],cells,off => rfl
 | v :: vs,cells,off => by simp [lay,lay_length vs]
theorem fill_lay:∀ (vs:List Value) (cells:Array Value) (off k:Nat),((vs.zipIdx k).foldl (fun cs (c,j) => cs.setIfInBounds (off + j) c) cells).toList = lay cells.toList (off + k) vs
 | [],cells,off,k => rfl
 | v :: vs,cells,off,k => by
  simp only [List.zipIdx_cons,List.foldl_cons,lay]
  rw [fill_lay vs _ off (k + 1)]
  simp [Array.toList_setIfInBounds,Nat.add_assoc]
theorem VRels.set {μ:Mu}:∀ {a b:List Value} (n:Nat) {x y:Value},VRels μ a b → VRel μ x y → VRels μ (a.set n x) (b.set n y)
 | [],[],n,x,y,h,hv => by simpa using VRels.nil
 | a :: as,b :: bs,0,x,y,h,hv => by cases h with | cons p q => exact .cons hv q
 | a :: as,b :: bs,n + 1,x,y,h,hv => by cases h with | cons p q => exact .cons p (q.set n hv)
 | [],_ :: _,n,x,y,h,hv => nomatch h
 | _ :: _,[],n,x,y,h,hv => nomatch h
theorem VRels.lay {μ:Mu}:∀ {vs us:List Value} {a b:List Value} (off:Nat),VRels μ a b → VRels μ vs us → VRels μ (lay a off vs) (lay b off us)
 | [],[],a,b,off,h,_ => h
 | v :: vs,u :: us,a,b,off,h,hv => by cases hv with | cons p q => exact VRels.lay (off + 1) (h.set off p) q
 | [],_ :: _,a,b,off,h,hv => nomatch hv
 | _ :: _,[],a,b,off,h,hv => nomatch hv
def PartsRel (μ:Mu):List (Nat × Value) → List (Nat × Value) → Prop
 | [],[] => True
 | (i,v) :: r,(j,u) :: s => i = j ∧ VRel μ v u ∧ PartsRel μ r s
 | _,_ => False
theorem layAll_fill {μ:Mu} {place:Nat → Option (Nat × Nat)}:∀ {parts rparts:List (Nat × Value)} {cells l:List Value} {rcells:Array Value},PartsRel μ parts rparts → VRels μ cells rcells.toList →
  layAll place parts cells = some l → ∃ rl:Array Value,Instr.fill place rcells rparts = some rl ∧ VRels μ l rl.toList
 | [],[],cells,l,rcells,_,hc,h => by
  simp [layAll] at h;subst h
  exact ⟨rcells,rfl,hc⟩
 | (i,v) :: r,(j,u) :: s,cells,l,rcells,⟨hij,hvu,hrs⟩,hc,h => by
  subst hij
  simp only [layAll] at h
  cases hp:place i with
  | none => simp [hp] at h
  | some q =>
   obtain ⟨off,size⟩:=q
   simp only [hp] at h
   cases hcnd:(Nat.beq v.cells.toList.length size && Nat.ble (off + size) cells.length && v.cells.toList.all storable) <;> rw [hcnd] at h
   ·simp at h
   ·simp only [cond_true] at h
    simp only [Bool.and_eq_true] at hcnd
    obtain ⟨⟨h1,h2⟩,h3⟩:=hcnd
    obtain ⟨hcells,_⟩:=hvu.cells h3
    have hlen:u.cells.size = size:=by
     have:=hcells.length
     have h1':=beq_tt h1
     simp at this h1'
     omega
    have hle:=ble_tt h2
    have hcl:=hc.length
    simp at hcl
    simp only [Instr.fill,hp]
    rw [if_neg (by simp [hlen];omega)]
    have e:(u.cells.zipIdx.foldl (fun cs (c,j) => cs.setIfInBounds (off + j) c) rcells).toList = lay rcells.toList off u.cells.toList:=by
     rw [← Array.foldl_toList,Array.toList_zipIdx]
     simpa using fill_lay u.cells.toList rcells off 0
    exact layAll_fill hrs (by rw [e];exact hc.lay off hcells) h
 | [],_ :: _,_,_,_,hp,_,_ => hp.elim
 | _ :: _,[],_,_,_,hp,_,_ => hp.elim
theorem VRels.of_flat_cells {μ:Mu} {z:Value} (h:flat z = true):VRels μ z.cells.toList z.cells.toList:=by
 cases z with
 | agg cs => obtain ⟨l⟩:=cs;show VRels μ l l;exact .of_scalars (by simpa [flat] using h)
 | _ => exact .cons (.of_scalar (by simpa [flat] using h)) .nil
theorem placesOf_mapM {P:Program}:∀ (fs:List Field) (l:List (Nat × Nat)),placesOf P fs = some l → fs.mapM (fun f => (P.info? f.type).map fun i => (f.offset,i.size)) = some l
 | [],l,h => by simp [placesOf] at h;subst h;rfl
 | f :: fs,l,h => by
  simp only [placesOf,sizeB] at h
  cases hi:P.info? f.type with
  | none => simp [hi] at h
  | some i =>
   cases hp:placesOf P fs with
   | none => simp [hi,hp] at h
   | some r =>
    simp [hi,hp] at h;subst h
    simp [List.mapM_cons,hi,placesOf_mapM fs r hp]
theorem build_struct_ok {P:Program} {t:TypeId} {inf:TypeInfo} {fields:Array Field} {z:Value} {pl:List (Nat × Nat)} {parts rparts:List (Nat × Value)} {l:List Value} (h1:P.info? t = some inf) (h2:P.underlying t = some (.struct fields))
  (hz:inf.zero = some z) (hpl:placesOf P fields.toList = some pl) (hf:flat z = true) (hl:layAll (fun i => pl[i]?) parts z.cells.toList = some l) {μ:Mu} (hp:PartsRel μ parts rparts) (w:World) :
  ∃ rl,(Instr.build t ⟨rparts⟩).run P w = .ok (.agg ⟨rl⟩) w ∧ VRels μ l rl:=by
 obtain ⟨rl,hr,hv⟩:=layAll_fill (rcells:=z.cells) hp (VRels.of_flat_cells hf) hl
 refine ⟨rl.toList,?_,hv⟩
 apply run_build
 unfold Program.built
 simp only [h1,h2,hz,placesOf_mapM _ _ hpl]
 simpa using hr
theorem build_array_ok {P:Program} {t e:TypeId} {m:Nat} {inf:TypeInfo} {z:Value} {sz:Nat} {parts rparts:List (Nat × Value)} {l:List Value} (h1:P.info? t = some inf) (h2:P.underlying t = some (.array m e))
  (hz:inf.zero = some z) (hsz:sizeB P e = some sz) (hf:flat z = true) (hl:layAll (fun i => some (i * sz,sz)) parts z.cells.toList = some l) {μ:Mu} (hp:PartsRel μ parts rparts) (w:World) :
  ∃ rl,(Instr.build t ⟨rparts⟩).run P w = .ok (.agg ⟨rl⟩) w ∧ VRels μ l rl:=by
 obtain ⟨rl,hr,hv⟩:=layAll_fill (rcells:=z.cells) hp (VRels.of_flat_cells hf) hl
 refine ⟨rl.toList,?_,hv⟩
 apply run_build
 unfold sizeB at hsz
 unfold Program.built
 cases hi:P.info? e with
 | none => simp [hi] at hsz
 | some ie =>
  simp [hi] at hsz
  simp only [h1,h2,hz,hi,hsz]
  simpa using hr
theorem repeat_spec (z:Array Value) (hz:0 < z.size):∀ n,((List.range (n * z.size)).map fun i => z[i % z.size]!) = repeatCells z.toList n
 | 0 => by simp [repeatCells]
 | n + 1 => by
  rw [show (n + 1) * z.size = z.size + n * z.size by rw [Nat.add_mul];omega,List.range_add,List.map_append,repeatCells]
  congr 1
  ·apply List.ext_getElem
   ·simp
   ·intro i h1 h2
    simp at h1 h2 ⊢
    rw [Nat.mod_eq_of_lt h1]
    simp [h1]
  ·rw [← repeat_spec z hz n,List.map_map]
   apply List.map_congr_left
   intro i _
   simp
theorem buildSlice_ok {P:Program} {t e:TypeId} {len:Nat} {inf:TypeInfo} {z:Value} {parts rparts:List (Nat × Value)} {l:List Value} (h1:P.underlying t = some (.slice e)) (h2:P.info? e = some inf)
  (hz:inf.zero = some z) (hf:flat z = true) (hs:z.cells.toList.length = inf.size) (h0:1 ≤ inf.size) (hm:len * inf.size ≤ 16777216)
  (hl:layAll (fun i => some (i * inf.size,inf.size)) parts (repeatCells z.cells.toList len) = some l) {μ:Mu} (hp:PartsRel μ parts rparts) (hlen:0 < len) (w:World) :
  ∃ rl,(Instr.buildSlice t len ⟨rparts⟩).run P w = .ok (.slice (some ⟨w.heap.size,0,none⟩) len len) (w.alloc (.cells ⟨rl⟩ e)) ∧ VRels μ l rl:=by
 have hss:z.cells.size = inf.size:=by simpa using hs
 have hrep:VRels μ (repeatCells z.cells.toList len) (repeatCells z.cells.toList len):=by
  have h0:=VRels.of_flat_cells (μ:=μ) hf
  clear hl hlen hm
  induction len with
  | zero => exact .nil
  | succ n ih => exact h0.append ih
 obtain ⟨rl,hr,hv⟩:=layAll_fill (rcells:=⟨repeatCells z.cells.toList len⟩) hp hrep hl
 refine ⟨rl.toList,?_,hv⟩
 unfold Instr.buildSlice
 simp only [Sem.run_bind,underlying_run h1,Result.andThen_ok,sizeOf_run (show sizeB P e = some inf.size by simp [sizeB,h2])]
 have hpos:0 < len * inf.size:=Nat.mul_pos hlen h0
 rw [if_neg (by omega),if_neg (by omega)]
 simp only [Sem.run_bind,zeroValue_run h2 hz,Result.andThen_ok,Sem.run_pure]
 have e1:(Array.range (len * inf.size)).map (fun x => z.cells[x % z.cells.size]!) = ⟨repeatCells z.cells.toList len⟩:=by
  apply Array.ext'
  rw [← repeat_spec z.cells (by omega) len]
  simp [hss]
 rw [e1]
 rw [hr]
 rfl
end Go.Proofs.Ytgnhhnmpeklciaa.VX
namespace Go.Proofs.Ytgnhhnmpeklciaa.VX
open Go
def OpSpec (P:Program) (o:Oper) (ρ:Operand → Value) (h:HF) (out:Out):Prop:=
 ∀ (μ:Mu) (a:Act) (w:World),Gl P μ → (∀ x ∈ o.op.operands,VRel μ (ρ x) (a.eval x)) → Rep μ h w → (∀ i ∈ out.new,μ i = none) →
  ∀ (K:Act → World → Prop) (Q:Exit → Act → World → Prop),
   (∀ μ' w' rv,μ.le μ' → (∀ i,i ∉ out.new → μ' i = μ i) → Rep μ' (app out.eff h) w' → VRel μ' out.v rv → Keeps μ h w μ' (app out.eff h) w' → K (a.put o.dst rv) w') → o.wp P a w K Q
theorem OpSpec.silent {P:Program} {o:Oper} {ρ:Operand → Value} {h:HF} {v:Value} {n:Nat} {hs:List Hint} {ob:List Prop}
  (hv:∀ (μ:Mu) (a:Act) (w:World),Gl P μ → (∀ x ∈ o.op.operands,VRel μ (ρ x) (a.eval x)) → ∃ rv,(execOp a.eval o).run P w = .ok (.value rv) w ∧ VRel μ v rv) :
  OpSpec P o ρ h (VX.silent v n hs ob):=by
 intro μ a w hg hx hr hn K Q hk
 obtain ⟨rv,he,hvr⟩:=hv μ a w hg hx
 exact wp_of_value he (hk μ w rv (Mu.le_refl μ) (fun _ _ => rfl) hr hvr (Keeps.refl _ _ _))
theorem cellsBlk_size (cs:List Value) (t:TypeId):(cellsBlk cs t).size = cs.length:=by
 unfold cellsBlk Blk.size
 simp only
 induction cs with
 | nil => rfl
 | cons c cs ih => simp only [List.map_cons,segsSize,Seg.size,List.length_cons,ih];omega
theorem cellsBlk_get (cs:List Value) (t:TypeId):∀ o,(cellsBlk cs t).get? o = cs[o]?:=by
 unfold cellsBlk Blk.get?
 simp only
 induction cs with
 | nil => intro o;rfl
 | cons c cs ih =>
  intro o
  simp only [List.map_cons,segsGet?,Seg.size]
  cases o with
  | zero => rfl
  | succ o =>
   have e:Nat.blt (o + 1) 1 = false:=by
    cases h:Nat.blt (o + 1) 1 with
    | false => rfl
    | true => have:=blt_tt h;omega
   rw [e]
   simp only [cond_false,Nat.add_sub_cancel,List.getElem?_cons_succ]
   exact ih o
theorem cellsBlk_rel {μ:Mu} {cs rs:List Value} {t:TypeId} (h:VRels μ cs rs):BlkRel μ (cellsBlk cs t) (some (.cells ⟨rs⟩ t (0,0))):=by
 refine ⟨⟨rs⟩,t,(0,0),rfl,fun _ => ⟨rfl,rfl,?_⟩,?_⟩
 ·rw [cellsBlk_size,h.length];exact Nat.le_refl _
 ·intro off v hv
  rw [cellsBlk_get] at hv
  obtain ⟨y,hy,hvy⟩:=h.get off v hv
  exact ⟨y,by simpa using hy,hvy⟩
theorem OpSpec.newBlk' {P:Program} {o:Oper} {ρ:Operand → Value} {h:HF} {n:Nat} {B:Blk} {t:TypeId} {hs:List Hint} {ob:List Prop} {v:Value}
  (hrun:∀ (μ:Mu) (a:Act) (w:World),Gl P μ → (∀ x ∈ o.op.operands,VRel μ (ρ x) (a.eval x)) → ∃ rs rv,(∀ μ':Mu,BlkRel μ' B (some (.cells ⟨rs⟩ t (0,0)))) ∧ (execOp a.eval o).run P w = .ok (.value rv) (w.alloc (.cells ⟨rs⟩ t)) ∧
   ∀ μ':Mu,μ' n = some w.heap.size → μ'.sz w.heap.size = rs.length → VRel μ' v rv) :
  OpSpec P o ρ h (VX.newBlk n B v hs ob):=by
 intro μ a w hg hx hr hn K Q hk
 obtain ⟨rs,rv,hcs,he,hv⟩:=hrun μ a w hg hx
 have hnn:μ n = none:=hn n (by simp [VX.newBlk])
 obtain ⟨hle,hrep,hkeep⟩:=hr.new (cs:=⟨rs⟩) (t:=t) (B:=B) hnn (fun μ' hl => hcs μ')
 refine wp_of_value he (hk _ _ rv hle ?_ hrep (hv _ (by simp) (by simp)) hkeep)
 intro i hi
 simp only [VX.newBlk,List.mem_singleton] at hi
 simp [hi]
theorem bytes_empty {a:ByteArray} (h:a.size = 0):a = ByteArray.empty:=by
 obtain ⟨⟨l⟩⟩:=a
 cases l with
 | nil => rfl
 | cons x r => simp [ByteArray.size] at h
theorem sameScalar_spec {a b:Value} (h:sameScalar a b = true):a = b ∧ scalar a = true:=by
 unfold sameScalar at h
 split at h
 ·simp at h;subst h;exact ⟨rfl,rfl⟩
 ·simp only [Bool.and_eq_true,beq_iff_eq] at h
  obtain ⟨rfl,rfl⟩:=h
  exact ⟨rfl,rfl⟩
 ·exact ⟨rfl,rfl⟩
 ·simp only [Bool.and_eq_true] at h
  obtain ⟨⟨h1,h2⟩,h3,h4⟩:=h
  rw [beq_tt h1,beq_tt h2,beq_tt h3,beq_tt h4]
  exact ⟨rfl,rfl⟩
 ·exact ⟨rfl,rfl⟩
 ·exact ⟨rfl,rfl⟩
 ·exact ⟨rfl,rfl⟩
 ·simp only [Bool.and_eq_true] at h
  rw [bytes_empty (beq_tt h.1),bytes_empty (beq_tt h.2)]
  exact ⟨rfl,rfl⟩
 ·cases h
theorem matchInts_spec {k:IntKind} {a:Nat → Int}:∀ {n j:Nat} {l l':List Value},matchInts k a n j l = some l' → (∀ i,i < n → l[i]? = some (.int k (a (j + i)))) ∧ l' = l.drop n ∧ n ≤ l.length
 | 0,j,l,l',h => by
  simp only [matchInts,Option.some.injEq] at h
  exact ⟨fun i hi => by omega,by simp [h],by omega⟩
 | n + 1,j,l,l',h => by
  cases l with
  | nil => simp [matchInts] at h
  | cons c l =>
   cases c with
   | int k' x =>
    simp only [matchInts] at h
    cases e:(k == k' && x == a j) <;> rw [e] at h
    ·simp at h
    ·simp only [Bool.and_eq_true] at e
     obtain rfl:k = k':=by simpa using e.1
     obtain rfl:x = a j:=by simpa using e.2
     obtain ⟨h1,h2,h3⟩:=matchInts_spec (by simpa using h)
     refine ⟨fun i hi => ?_,by simpa using h2,by simp;omega⟩
     cases i with
     | zero => rfl
     | succ i => rw [show j + (i + 1) = j + 1 + i by omega];simpa using h1 i (by omega)
   | _ => simp [matchInts] at h
theorem matchBools_spec {a:Nat → Bool}:∀ {n j:Nat} {l l':List Value},matchBools a n j l = some l' → (∀ i,i < n → l[i]? = some (.bool (a (j + i)))) ∧ l' = l.drop n ∧ n ≤ l.length
 | 0,j,l,l',h => by
  simp only [matchBools,Option.some.injEq] at h
  exact ⟨fun i hi => by omega,by simp [h],by omega⟩
 | n + 1,j,l,l',h => by
  cases l with
  | nil => simp [matchBools] at h
  | cons c l =>
   cases c with
   | bool x =>
    simp only [matchBools] at h
    cases e:(x == a j) <;> rw [e] at h
    ·simp at h
    ·obtain rfl:x = a j:=by simpa using e
     obtain ⟨h1,h2,h3⟩:=matchBools_spec (by simpa using h)
     refine ⟨fun i hi => ?_,by simpa using h2,by simp;omega⟩
     cases i with
     | zero => rfl
     | succ i => rw [show j + (i + 1) = j + 1 + i by omega];simpa using h1 i (by omega)
   | _ => simp [matchBools] at h
theorem matchSegs_spec:∀ {l:List Seg} {cells:List Value},matchSegs l cells = true → segsSize l = cells.length ∧ ∀ o v,segsGet? l o = some v → cells[o]? = some v ∧ scalar v = true
 | [],cells,h => by
  cases cells with
  | nil => exact ⟨rfl,by simp [segsGet?]⟩
  | cons c r => simp [matchSegs] at h
 | .one x :: r,cells,h => by
  cases cells with
  | nil => simp [matchSegs] at h
  | cons c l =>
   simp only [matchSegs,Bool.and_eq_true] at h
   obtain ⟨e,hs⟩:=sameScalar_spec h.1
   obtain ⟨h1,h2⟩:=matchSegs_spec h.2
   refine ⟨by simp [segsSize,Seg.size,h1];omega,fun o v hv => ?_⟩
   simp only [segsGet?,Seg.size] at hv
   cases o with
   | zero =>
    have:Nat.blt 0 1 = true:=rfl
    rw [this] at hv
    simp only [cond_true,Seg.get?,Nat.beq_refl,Option.some.injEq] at hv
    have hv:x = v:=by simpa using hv
    rw [← hv]
    exact ⟨by simp [e],hs⟩
   | succ o =>
    have e2:Nat.blt (o + 1) 1 = false:=by
     cases h:Nat.blt (o + 1) 1 with
     | false => rfl
     | true => have:=blt_tt h;omega
    rw [e2] at hv
    simpa using h2 o v (by simpa using hv)
 | .ints k n a :: r,cells,h => by
  simp only [matchSegs] at h
  cases hm:matchInts k a n 0 cells with
  | none => simp [hm] at h
  | some l' =>
   simp only [hm] at h
   obtain ⟨h1,h2,h3⟩:=matchInts_spec hm
   obtain ⟨g1,g2⟩:=matchSegs_spec h
   subst h2
   refine ⟨by simp [segsSize,Seg.size,g1];omega,fun o v hv => ?_⟩
   simp only [segsGet?,Seg.size] at hv
   cases e:Nat.blt o n <;> rw [e] at hv
   ·have:=blt_ff e
    obtain ⟨p,q⟩:=g2 (o - n) v (by simpa using hv)
    refine ⟨?_,q⟩
    rw [List.getElem?_drop] at p
    rw [← p];congr 1;omega
   ·simp only [cond_true,Seg.get?,e,Option.some.injEq] at hv
    subst hv
    exact ⟨by have:=h1 o (blt_tt e);simpa using this,rfl⟩
 | .bools n a :: r,cells,h => by
  simp only [matchSegs] at h
  cases hm:matchBools a n 0 cells with
  | none => simp [hm] at h
  | some l' =>
   simp only [hm] at h
   obtain ⟨h1,h2,h3⟩:=matchBools_spec hm
   obtain ⟨g1,g2⟩:=matchSegs_spec h
   subst h2
   refine ⟨by simp [segsSize,Seg.size,g1];omega,fun o v hv => ?_⟩
   simp only [segsGet?,Seg.size] at hv
   cases e:Nat.blt o n <;> rw [e] at hv
   ·have:=blt_ff e
    obtain ⟨p,q⟩:=g2 (o - n) v (by simpa using hv)
    refine ⟨?_,q⟩
    rw [List.getElem?_drop] at p
    rw [← p];congr 1;omega
   ·simp only [cond_true,Seg.get?,e,Option.some.injEq] at hv
    subst hv
    exact ⟨by have:=h1 o (blt_tt e);simpa using this,rfl⟩
 | .rows n sz g :: r,cells,h => by simp [matchSegs] at h
 | .gap n :: r,cells,h => by simp [matchSegs] at h
theorem matchSegs_rel {l:List Seg} {cells:List Value} {t:TypeId} (h:matchSegs l cells = true) (μ:Mu):BlkRel μ { segs:=l,ty:=t,ro:=false } (some (.cells ⟨cells⟩ t (0,0))):=by
 obtain ⟨h1,h2⟩:=matchSegs_spec h
 refine ⟨⟨cells⟩,t,(0,0),rfl,fun _ => ⟨rfl,rfl,?_⟩,fun off v hv => ?_⟩
 ·simp only [Blk.size,h1];exact Nat.le_refl _
 ·obtain ⟨a,b⟩:=h2 off v hv
  exact ⟨v,by simpa using a,.of_scalar b⟩
theorem OpSpec.newBlk {P:Program} {o:Oper} {ρ:Operand → Value} {h:HF} {n:Nat} {cs:List Value} {t:TypeId} {hs:List Hint} {ob:List Prop} {v:Value}
  (hrun:∀ (μ:Mu) (a:Act) (w:World),Gl P μ → (∀ x ∈ o.op.operands,VRel μ (ρ x) (a.eval x)) → ∃ rs rv,VRels μ cs rs ∧ (execOp a.eval o).run P w = .ok (.value rv) (w.alloc (.cells ⟨rs⟩ t)) ∧
   ∀ μ':Mu,μ' n = some w.heap.size → μ'.sz w.heap.size = rs.length → VRel μ' v rv) :
  OpSpec P o ρ h (VX.newBlk n (cellsBlk cs t) v hs ob):=by
 intro μ a w hg hx hr hn K Q hk
 obtain ⟨rs,rv,hcs,he,hv⟩:=hrun μ a w hg hx
 have hnn:μ n = none:=hn n (by simp [VX.newBlk])
 obtain ⟨hle,hrep,hkeep⟩:=hr.new (cs:=⟨rs⟩) (t:=t) (B:=cellsBlk cs t) hnn (fun μ' hl => cellsBlk_rel (hcs.mono hl))
 refine wp_of_value he (hk _ _ rv hle ?_ hrep (hv _ (by simp) (by simp)) hkeep)
 intro i hi
 simp only [VX.newBlk,List.mem_singleton] at hi
 simp [hi]
theorem layAll_length {place:Nat → Option (Nat × Nat)}:∀ {parts:List (Nat × Value)} {cells l:List Value},layAll place parts cells = some l → l.length = cells.length
 | [],cells,l,h => by simp [layAll] at h;rw [h]
 | (i,v) :: r,cells,l,h => by
  simp only [layAll] at h
  split at h
  ·simp at h
  ·rename_i off size hp
   cases hc:(Nat.beq v.cells.toList.length size && Nat.ble (off + size) cells.length && v.cells.toList.all storable) <;> rw [hc] at h
   ·simp at h
   ·rw [layAll_length (by simpa using h),lay_length]
theorem repeatCells_length {l:List Value} {k:Nat} (h:l.length = k):∀ n,(repeatCells l n).length = n * k
 | 0 => by simp [repeatCells]
 | n + 1 => by simp only [repeatCells,List.length_append,repeatCells_length h n,h,Nat.add_mul];omega
theorem parts_rel {μ:Mu} {ρ ρ':Operand → Value}:∀ (parts:List (Nat × Operand)),(∀ p ∈ parts,VRel μ (ρ p.2) (ρ' p.2)) → PartsRel μ (parts.map fun p => (p.1,ρ p.2)) (parts.map fun p => (p.1,ρ' p.2))
 | [],_ => trivial
 | p :: r,h => ⟨rfl,h p (by simp),parts_rel r fun q hq => h q (by simp [hq])⟩
theorem args_rel {μ:Mu} {ρ ρ':Operand → Value}:∀ (l:List Operand),(∀ x ∈ l,VRel μ (ρ x) (ρ' x)) → VRels μ (l.map ρ) (l.map ρ')
 | [],_ => .nil
 | x :: r,h => .cons (h x (by simp)) (args_rel r fun q hq => h q (by simp [hq]))
theorem boolsOf_get:∀ {cs:List Value} {l:List Bool},boolsOf cs = some l → cs = l.map Value.bool
 | [],l,h => by simp [boolsOf] at h;subst h;rfl
 | c :: cs,l,h => by
  cases c with
  | bool b =>
   simp only [boolsOf] at h
   cases hi:boolsOf cs with
   | none => simp [hi] at h
   | some r => simp [hi] at h;subst h;simp [boolsOf_get hi]
  | _ => simp [boolsOf] at h
theorem strsOf_get:∀ {cs:List Value} {l:List ByteArray},strsOf cs = some l → cs = l.map Value.string
 | [],l,h => by simp [strsOf] at h;subst h;rfl
 | c :: cs,l,h => by
  cases c with
  | string n =>
   simp only [strsOf] at h
   cases hi:strsOf cs with
   | none => simp [hi] at h
   | some r => simp [hi] at h;subst h;simp [strsOf_get hi]
  | _ => simp [strsOf] at h
theorem intsOf_get {k:IntKind}:∀ {cs:List Value} {l:List Int},intsOf k cs = some l → cs = l.map (Value.int k)
 | [],l,h => by simp [intsOf] at h;subst h;rfl
 | c :: cs,l,h => by
  cases c with
  | int k' n =>
   simp only [intsOf] at h
   cases e:k == k' <;> rw [e] at h
   ·simp at h
   ·obtain rfl:k = k':=by simpa using e
    cases hi:intsOf k cs with
    | none => simp [hi] at h
    | some r => simp [hi] at h;subst h;simp [intsOf_get hi]
  | _ => simp [intsOf] at h
theorem fieldPlace_run {P:Program} {fd:Field} {m:Nat} (hs:sizeB P fd.type = some (m + 1)) (b o:Nat) (w:World):(fieldPlace ⟨b,o,none⟩ fd).run P w = .ok ⟨b,o + fd.offset,none⟩ w:=by
 unfold fieldPlace
 simp only [Sem.run_bind,sizeOf_run hs w,Result.andThen_ok]
 rw [if_neg (by omega)]
 simp [add_off]
theorem takeB_spec {b d:Bool} {hs hs':List Hint} {ob:List Prop} (h:takeB b hs = some (d,hs',ob)) (hob:∀ q ∈ ob,q):b = d:=by
 unfold takeB at h
 split at h
 ·simp only [Option.some.injEq,Prod.mk.injEq] at h;obtain ⟨rfl,_,rfl⟩:=h;exact hob _ (by simp)
 ·simp only [Option.some.injEq,Prod.mk.injEq] at h;obtain ⟨rfl,_,rfl⟩:=h;exact hob _ (by simp)
 ·simp at h
theorem mulSz_eq (i s:Nat):mulSz i s = i * s:=by
 unfold mulSz
 cases e:Nat.beq s 1
 ·rfl
 ·rw [beq_tt e];simp
def baseOff (s:Option Nat) (off:Nat):Nat:=match s with | none => off | some st => st + off
theorem xat_ok {P:Program} {i off:Nat} {s:Option Nat} {len size:Nat} {ix:Int} {hs hs':List Hint} {v:Value} {ob:List Prop} (h:xat i off s len size ix hs = some (v,hs',ob)) (hob:∀ q ∈ ob,q)
  {μ:Mu} {b o:Nat} (hb:μ i = some b) (ho:o = baseOff s off) :
  (0 ≤ ix ∧ ix < (len:Int)) ∧ VRel μ v (.pointer (some ⟨b,o + ix.toNat * size,none⟩)):=by
 unfold xat at h
 split at h
 ·rename_i k hs
  simp only [Option.some.injEq,Prod.mk.injEq] at h
  obtain ⟨rfl,_,rfl⟩:=h
  have h1:ix = (k:Int):=hob _ (by simp)
  have h2:k < len:=hob _ (by simp)
  subst h1
  refine ⟨by omega,?_⟩
  simp only [Int.toNat_natCast]
  cases s with
  | none => subst ho;exact .ptr hb _
  | some st => subst ho;simp only [baseOff];rw [Nat.add_assoc];exact .ptrS hb _ _
 ·cases s with
  | none =>
   simp only [Option.some.injEq,Prod.mk.injEq] at h
   obtain ⟨rfl,_,rfl⟩:=h
   have h1:0 ≤ ix ∧ ix < (len:Int):=hob _ (by simp)
   refine ⟨h1,?_⟩
   subst ho
   rw [mulSz_eq]
   exact .ptrS hb _ _
  | some st =>
   simp only [Option.some.injEq,Prod.mk.injEq] at h
   obtain ⟨rfl,_,rfl⟩:=h
   have h1:0 ≤ ix ∧ ix < (len:Int):=hob _ (by simp)
   refine ⟨h1,?_⟩
   subst ho
   simp only [baseOff]
   rw [mulSz_eq,Nat.add_assoc]
   cases hz:Nat.beq off 0 with
   | false => exact .ptrS hb _ _
   | true =>
    obtain rfl:=beq_tt hz
    rw [Nat.zero_add]
    exact .ptrS hb _ _
 ·simp at h
theorem xat_len {i off:Nat} {s:Option Nat} {len size:Nat} {ix:Int} {hs hs':List Hint} {v:Value} {ob:List Prop} (h:xat i off s len size ix hs = some (v,hs',ob)) (hob:∀ q ∈ ob,q):0 ≤ ix ∧ ix < (len:Int):=by
 unfold xat at h
 split at h
 ·rename_i k hs
  simp only [Option.some.injEq,Prod.mk.injEq] at h
  obtain ⟨rfl,_,rfl⟩:=h
  have h1:ix = (k:Int):=hob _ (by simp)
  have h2:k < len:=hob _ (by simp)
  omega
 ·cases s with
  | none =>
   simp only [Option.some.injEq,Prod.mk.injEq] at h
   obtain ⟨rfl,_,rfl⟩:=h
   exact hob _ (by simp)
  | some st =>
   simp only [Option.some.injEq,Prod.mk.injEq] at h
   obtain ⟨rfl,_,rfl⟩:=h
   exact hob _ (by simp)
 ·simp at h
theorem indexAt_array_run {P:Program} {t e:TypeId} {len size b o:Nat} {k:IntKind} {ix:Int} (h1:P.underlying t = some (.array len e)) (hs:sizeB P e = some size) (hi:0 ≤ ix ∧ ix < (len:Int)) (w:World) :
  (Instr.indexAt t (.pointer (some ⟨b,o,none⟩)) (.int k ix)).run P w = .ok (.pointer (some ⟨b,o + ix.toNat * size,none⟩)) w:=by
 unfold Instr.indexAt
 simp only [Sem.run_bind,asIntOf,Sem.run_pure,Result.andThen_ok,underlying_run h1,Instr.sureAddr]
 simp only [hi,and_self,if_true,Sem.run_bind,sizeOf_run hs,Result.andThen_ok,Sem.run_pure,add_off]
theorem indexAt_slice_run {P:Program} {t e:TypeId} {len cap size b o:Nat} {k:IntKind} {ix:Int} (h1:P.underlying t = some (.slice e)) (hs:sizeB P e = some size) (hi:0 ≤ ix ∧ ix < (len:Int)) (w:World) :
  (Instr.indexAt t (.slice (some ⟨b,o,none⟩) len cap) (.int k ix)).run P w = .ok (.pointer (some ⟨b,o + ix.toNat * size,none⟩)) w:=by
 unfold Instr.indexAt
 simp only [Sem.run_bind,asIntOf,Sem.run_pure,Result.andThen_ok,underlying_run h1]
 simp only [hi,and_self,if_true,Sem.run_bind,sizeOf_run hs,Result.andThen_ok,Sem.run_pure,add_off]
theorem index_array_run {P:Program} {t e:TypeId} {len:Nat} {k:IntKind} {ix:Int} {cs:List Value} {v:Value} (h1:P.underlying t = some (.array len e)) (ha:isAggB P e = some false) (hs:sizeB P e = some 1) (hi:0 ≤ ix ∧ ix < (len:Int))
  (hv:cs[ix.toNat]? = some v) (w:World):(Instr.index t (.agg ⟨cs⟩) (.int k ix)).run P w = .ok v w:=by
 unfold Instr.index
 simp only [Sem.run_bind,asIntOf,Sem.run_pure,Result.andThen_ok,underlying_run h1]
 simp only [hi,and_self,if_true,Sem.run_bind,sizeOf_run hs,Result.andThen_ok,Nat.mul_one]
 exact part_run_one w ha hv
theorem index_string_run {P:Program} {t:TypeId} {k:IntKind} {ix:Int} {s:ByteArray} (h1:P.underlying t = some .string) (hi:0 ≤ ix ∧ ix < (s.size:Int)) (w:World) :
  (Instr.index t (.string s) (.int k ix)).run P w = .ok (.int .u8 (strAt s ix.toNat)) w:=by
 unfold Instr.index
 simp only [Sem.run_bind,asIntOf,Sem.run_pure,Result.andThen_ok,underlying_run h1]
 have hlt:ix.toNat < s.size:=by omega
 have e:(if 0 ≤ ix then s[ix.toNat]? else none) = some s[ix.toNat]:=by rw [if_pos hi.1];exact getElem?_pos s ix.toNat hlt
 rw [e]
 simp only [Sem.run_pure]
 unfold strAt
 have:s.data.getD ix.toNat 0 = s[ix.toNat]:=by
  have h2:ix.toNat < s.data.size:=hlt
  simp only [Array.getD,h2,dif_pos]
  rfl
 rw [this]
theorem groupSegs_spec:∀ {g:List Nat} {cs:List Value} {l:List Seg},groupSegs g cs = some l → segsSize l = cs.length ∧ ∀ o v,segsGet? l o = some v → cs[o]? = some v
 | [],[],l,h => by simp [groupSegs] at h;subst h;exact ⟨rfl,fun o v h => by simp [segsGet?] at h⟩
 | [],_ :: _,l,h => by simp [groupSegs] at h
 | _ :: _,[],l,h => by simp [groupSegs] at h
 | n :: r,c :: cs,l,h => by
  simp only [groupSegs] at h
  cases e:Nat.beq n 1 <;> rw [e] at h
  ·simp only [cond_false] at h
   split at h
   ·rename_i k a
    split at h
    ·rename_i ns hns
     cases e2:Nat.beq ns.length n <;> rw [e2] at h
     ·simp at h
     ·simp only [cond_true] at h
      cases hr:groupSegs r ((Value.int k a :: cs).drop n) with
      | none => simp [hr] at h
      | some l' =>
       simp only [hr,Option.map_some,Option.some.injEq] at h;subst h
       obtain ⟨h1,h2⟩:=groupSegs_spec hr
       have hlen:=beq_tt e2
       have hcs:=intsOf_get hns
       have hle:n ≤ (Value.int k a :: cs).length:=by
        have:((Value.int k a :: cs).take n).length = n:=by rw [hcs];simpa using hlen
        rw [List.length_take] at this
        omega
       refine ⟨?_,fun o v hv => ?_⟩
       ·simp only [segsSize,Seg.size,h1,List.length_drop];omega
       ·simp only [segsGet?,Seg.size] at hv
        cases e3:Nat.blt o n <;> rw [e3] at hv
        ·have h3:=blt_ff e3
         have:=h2 _ _ (by simpa using hv)
         rw [List.getElem?_drop] at this
         rw [show n + (o - n) = o by omega] at this
         exact this
        ·have h3:=blt_tt e3
         simp only [cond_true,Seg.get?,e3,Option.some.injEq] at hv
         subst hv
         have:((Value.int k a :: cs).take n)[o]? = some (.int k (ns.getD o 0)):=by
          rw [hcs]
          have:o < ns.length:=by omega
          simp [this]
         rw [List.getElem?_take,if_pos h3] at this
         exact this
    ·simp at h
   ·simp at h
  ·simp only [cond_true] at h
   cases hr:groupSegs r cs with
   | none => simp [hr] at h
   | some l' =>
    simp only [hr,Option.map_some,Option.some.injEq] at h;subst h
    obtain ⟨h1,h2⟩:=groupSegs_spec hr
    refine ⟨by simp [segsSize,Seg.size,h1];omega,fun o v hv => ?_⟩
    simp only [segsGet?,Seg.size] at hv
    cases e3:Nat.blt o 1 <;> rw [e3] at hv
    ·have h3:=blt_ff e3
     have:=h2 _ _ (by simpa using hv)
     rw [show o = (o - 1) + 1 by omega]
     simpa using this
    ·have h3:=blt_tt e3
     have h0:o = 0:=by omega
     subst h0
     simpa [Seg.get?,beq_self] using hv
termination_by g cs _ _ => g.length
theorem OpSpec.newBlkS {P:Program} {o:Oper} {ρ:Operand → Value} {h:HF} {n:Nat} {S:List Seg} {t:TypeId} {hs:List Hint} {ob:List Prop} {v:Value}
  (hrun:∀ (μ:Mu) (a:Act) (w:World),Gl P μ → (∀ x ∈ o.op.operands,VRel μ (ρ x) (a.eval x)) → ∃ rs rv cs,segsSize S = cs.length ∧ (∀ o v,segsGet? S o = some v → cs[o]? = some v) ∧ VRels μ cs rs ∧ (execOp a.eval o).run P w = .ok (.value rv) (w.alloc (.cells ⟨rs⟩ t)) ∧
   ∀ μ':Mu,μ' n = some w.heap.size → μ'.sz w.heap.size = rs.length → VRel μ' v rv) :
  OpSpec P o ρ h (VX.newBlk n { segs:=S,ty:=t,ro:=false } v hs ob):=by
 intro μ a w hg hx hr hn K Q hk
 obtain ⟨rs,rv,cs,h1,h2,hcs,he,hv⟩:=hrun μ a w hg hx
 have hnn:μ n = none:=hn n (by simp [VX.newBlk])
 obtain ⟨hle,hrep,hkeep⟩:=hr.new (cs:=⟨rs⟩) (t:=t) (B:={ segs:=S,ty:=t,ro:=false }) hnn (fun μ' hl => by
  refine ⟨⟨rs⟩,t,(0,0),rfl,fun _ => ⟨rfl,rfl,?_⟩,fun off v hv => ?_⟩
  ·simp only [Blk.size,h1,hcs.length];exact Nat.le_refl _
  ·obtain ⟨y,hy,hvy⟩:=(hcs.mono hl).get off v (h2 off v hv)
   exact ⟨y,by simpa using hy,hvy⟩)
 refine wp_of_value he (hk _ _ rv hle ?_ hrep (hv _ (by simp) (by simp)) hkeep)
 intro i hi
 simp only [VX.newBlk,List.mem_singleton] at hi
 simp [hi]
theorem xop0_quiet {P:Program} {ρ:Operand → Value} {H:HF} {n:Nat} {hs:List Hint} {o:Oper} {out:Out} (hx:xop0 P ρ H n hs o = some out) (hob:∀ q ∈ out.ob,q) (h:HF)
  (hrd:∀ i ∈ out.rd,h i = H i) (hsh:∀ i ∈ out.sh,SameShape (h i) (H i)) (hcall:∀ c,o.op ≠ .call c):OpSpec P o ρ h out:=by
 unfold xop0 at hx
 split at hx
 case h_1 x ho =>
  simp only [Option.some.injEq] at hx;subst hx
  exact .silent fun μ a w hg hxs => ⟨_,by unfold execOp;simp only [ho];rfl,hxs x (by rw [ho];simp [Op.operands])⟩
 case h_2 x ho =>
  simp only [Option.some.injEq] at hx;subst hx
  exact .silent fun μ a w hg hxs => ⟨_,by unfold execOp;simp only [ho];rfl,hxs x (by rw [ho];simp [Op.operands])⟩
 case h_3 c a b ho =>
  split at hx
  ·rename_i t ht
   split at hx
   ·rename_i d hs' ob htk
    simp only [Option.some.injEq] at hx;subst hx
    have hd:=takeB_spec htk hob
    refine .silent fun μ ac w hg hxs => ?_
    have hc:=hxs c (by rw [ho];simp [Op.operands])
    have ha:=hxs a (by rw [ho];simp [Op.operands])
    have hb:=hxs b (by rw [ho];simp [Op.operands])
    rw [ht] at hc
    have hc':ac.eval c = .bool t:=by
     revert hc
     generalize ac.eval c = X
     intro hc
     cases hc;rfl
    refine ⟨if t then ac.eval a else ac.eval b,?_,?_⟩
    ·unfold execOp;simp only [ho,hc',asBool];rfl
    ·subst hd;cases t <;> simpa
   ·simp at hx
  ·simp at hx
 case h_4 e ho =>
  split at hx
  ·rename_i i hi
   split at hx
   ·rename_i z hz
    cases hf:flat z <;> rw [hf] at hx
    ·simp at hx
    ·have hex:∀ (a:Act) (w:World),(execOp a.eval o).run P w = .ok (.value (.pointer (some ⟨w.heap.size,0,none⟩))) (w.alloc (.cells ⟨z.cells.toList⟩ e)):=by
      intro a w
      unfold execOp
      simp only [ho,Instr.alloc,Sem.run_bind,zeroValue_run hi hz,Result.andThen_ok,newVar,newRow,newObj,Sem.run,Sem.run_pure]
      rfl
     simp only [cond_true] at hx
     split at hx
     ·rename_i l hs'
      cases hm:matchSegs l z.cells.toList <;> rw [hm] at hx
      ·simp at hx
      ·simp only [cond_true,Option.some.injEq] at hx;subst hx
       exact .newBlk' fun μ a w hg hxs => ⟨z.cells.toList,.pointer (some ⟨w.heap.size,0,none⟩),matchSegs_rel hm,hex a w,fun μ' hm _ => .ptr hm 0⟩
     ·simp only [Option.some.injEq] at hx;subst hx
      exact .newBlk fun μ a w hg hxs => ⟨z.cells.toList,.pointer (some ⟨w.heap.size,0,none⟩),VRels.of_flat_cells hf,hex a w,fun μ' hm _ => .ptr hm 0⟩
   ·simp at hx
  ·simp at hx
 case h_5 e x ho =>
  cases hst:(ρ x).cells.toList.all storable <;> rw [hst] at hx
  ·simp at hx
  ·simp only [cond_true] at hx
   have hex:∀ (a:Act) (w:World),(execOp a.eval o).run P w = .ok (.value (.pointer (some ⟨w.heap.size,0,none⟩))) (w.alloc (.cells ⟨(a.eval x).cells.toList⟩ e)):=by
    intro a w
    unfold execOp
    simp only [ho,Instr.box,Sem.run_bind,Result.andThen_ok,newVar,newRow,newObj,Sem.run,Sem.run_pure]
    rfl
   split at hx
   ·rename_i g hs'
    cases hgr:groupSegs g (ρ x).cells.toList with
    | none => simp [hgr] at hx
    | some l =>
     simp only [hgr,Option.map_some,Option.some.injEq] at hx;subst hx
     obtain ⟨g1,g2⟩:=groupSegs_spec hgr
     refine .newBlkS fun μ a w hg hxs => ?_
     have hv:=hxs x (by rw [ho];simp [Op.operands])
     obtain ⟨hc,_⟩:=hv.cells hst
     exact ⟨(a.eval x).cells.toList,.pointer (some ⟨w.heap.size,0,none⟩),(ρ x).cells.toList,g1,g2,hc,hex a w,fun μ' hm _ => .ptr hm 0⟩
   ·rename_i l hs'
    cases hm:matchSegs l (ρ x).cells.toList <;> rw [hm] at hx
    ·simp at hx
    ·simp only [cond_true,Option.some.injEq] at hx;subst hx
     obtain ⟨g1,g2⟩:=matchSegs_spec hm
     refine .newBlkS fun μ a w hg hxs => ?_
     have hv:=hxs x (by rw [ho];simp [Op.operands])
     obtain ⟨hc,_⟩:=hv.cells hst
     exact ⟨(a.eval x).cells.toList,.pointer (some ⟨w.heap.size,0,none⟩),(ρ x).cells.toList,g1,fun o v h => (g2 o v h).1,hc,hex a w,fun μ' hm _ => .ptr hm 0⟩
   ·simp only [Option.some.injEq] at hx;subst hx
    refine .newBlk fun μ a w hg hxs => ?_
    have hv:=hxs x (by rw [ho];simp [Op.operands])
    obtain ⟨hc,_⟩:=hv.cells hst
    exact ⟨(a.eval x).cells.toList,.pointer (some ⟨w.heap.size,0,none⟩),hc,hex a w,fun μ' hm _ => .ptr hm 0⟩
 case h_6 t p ho =>
  split at hx
  ·rename_i v i ob hl
   simp only [Option.some.injEq] at hx;subst hx
   intro μ a w hg hxs hr hn K Q hk
   have hp:=hxs p (by rw [ho];simp [Op.operands])
   obtain ⟨rv,hrun,hv⟩:=xload_ok hl hob (hrd i (by simp)) hr hp
   refine wp_of_value (v:=rv) (w':=w) ?_ (hk μ w rv (Mu.le_refl μ) (fun _ _ => rfl) hr hv (Keeps.refl _ _ _))
   unfold execOp
   simp only [ho,Sem.run_bind,hrun,Result.andThen_ok,Sem.run_pure]
  ·simp at hx
 case h_7 t p x ho =>
  split at hx
  ·rename_i i off vs hst
   simp only [Option.some.injEq] at hx;subst hx
   intro μ a w hg hxs hr hn K Q hk
   have hp:=hxs p (by rw [ho];simp [Op.operands])
   have hv:=hxs x (by rw [ho];simp [Op.operands])
   obtain ⟨w',hrun,hrep,hkeep⟩:=xstore_cells_ok hst (hsh i (by simp)) hr hp hv
   refine wp_of_skip (w':=w') ?_ (hk μ w' undef (Mu.le_refl μ) (fun _ _ => rfl) hrep (.junk _) hkeep)
   unfold execOp
   simp only [ho,Sem.run_bind,hrun,Result.andThen_ok,Sem.run_pure]
  ·rename_i i B ob hst
   simp only [Option.some.injEq] at hx;subst hx
   intro μ a w hg hxs hr hn K Q hk
   have hp:=hxs p (by rw [ho];simp [Op.operands])
   have hv:=hxs x (by rw [ho];simp [Op.operands])
   obtain ⟨w',hrun,hrep,hkeep⟩:=xstore_whole_ok hst (hob _ (by simp)) (hrd i (by simp)) hr hp hv
   refine wp_of_skip (w':=w') ?_ (hk μ w' undef (Mu.le_refl μ) (fun _ _ => rfl) hrep (.junk _) hkeep)
   unfold execOp
   simp only [ho,Sem.run_bind,hrun,Result.andThen_ok,Sem.run_pure]
  ·simp at hx
 case h_8 x ho =>
  split at hx
  ·rename_i ad hρ
   simp only [Option.some.injEq] at hx;subst hx
   refine .silent fun μ a w hg hxs => ?_
   have hv:=hxs x (by rw [ho];simp [Op.operands])
   rw [hρ] at hv
   refine ⟨a.eval x,?_,hv⟩
   unfold execOp
   simp only [ho]
   revert hv
   generalize a.eval x = X
   intro hv
   cases hv <;> rfl
  ·rename_i f fs cs hρ
   simp only [Option.some.injEq] at hx;subst hx
   refine .silent fun μ a w hg hxs => ?_
   have hv:=hxs x (by rw [ho];simp [Op.operands])
   rw [hρ] at hv
   refine ⟨a.eval x,?_,hv⟩
   unfold execOp
   simp only [ho]
   revert hv
   generalize a.eval x = X
   intro hv
   cases hv;rfl
  ·simp at hx
 case h_9 op t x y yt ho =>
  split at hx
  ·rename_i v ob hb
   simp only [Option.some.injEq] at hx;subst hx
   refine .silent fun μ a w hg hxs => ?_
   have h1:=hxs x (by rw [ho];simp [Op.operands])
   have h2:=hxs y (by rw [ho];simp [Op.operands])
   obtain ⟨hrun,hv⟩:=xbin_ok hb hob h1 h2 x y w
   refine ⟨v,?_,hv⟩
   unfold execOp
   simp only [ho,Sem.run_bind] at hrun ⊢
   rw [hrun]
   rfl
  ·simp at hx
 case h_10 op t x ho =>
  cases hu:xun op (ρ x) with
  | none => simp [hu] at hx
  | some v =>
   simp only [hu,Option.map_some,Option.some.injEq] at hx;subst hx
   refine .silent fun μ a w hg hxs => ?_
   obtain ⟨hrun,hv⟩:=xun_ok (P:=P) hu (hxs x (by rw [ho];simp [Op.operands])) w
   refine ⟨v,?_,hv⟩
   unfold execOp
   simp only [ho,Sem.run_bind,hrun,Result.andThen_ok,Sem.run_pure]
 case h_11 src dst x ho =>
  split at hx
  ·rename_i hsome
   cases hu:xconv P dst (ρ x) with
   | none => simp [hu] at hx
   | some v =>
    simp only [hu,Option.map_some,Option.some.injEq] at hx;subst hx
    refine .silent fun μ a w hg hxs => ?_
    obtain ⟨hrun,hv⟩:=xconv_ok (src:=src) hu hsome (hxs x (by rw [ho];simp [Op.operands])) w
    refine ⟨v,?_,hv⟩
    unfold execOp
    simp only [ho,Sem.run_bind,hrun,Result.andThen_ok,Sem.run_pure]
  ·simp at hx
 case h_12 s p f ho =>
  split at hx
  ·rename_i i off sp fields hρ hu
   split at hx
   ·rename_i fd hfd
    split at hx
    ·rename_i m hsz
     simp only [Option.some.injEq] at hx;subst hx
     refine .silent fun μ a w hg hxs => ?_
     have hv:=hxs p (by rw [ho];simp [Op.operands])
     rw [hρ] at hv
     have fin:∀ b o',a.eval p = .pointer (some ⟨b,o',none⟩) → (execOp a.eval o).run P w = .ok (.value (.pointer (some ⟨b,o' + fd.offset,none⟩))) w:=by
      intro b o' he
      unfold execOp
      simp only [ho,he,Instr.fieldAt,Sem.run_bind,underlying_run hu,Result.andThen_ok,hfd,Instr.sureAddr,Sem.run_pure,fieldPlace_run hsz]
     revert fin hv
     generalize a.eval p = X
     intro hv fin
     cases hv with
     | ptr hb _ => exact ⟨_,fin _ _ rfl,.ptr hb _⟩
     | ptrS hb st _ => exact ⟨_,fin _ _ rfl,by rw [Nat.add_assoc];exact .ptrS hb _ _⟩
    ·simp at hx
   ·simp at hx
  ·simp at hx
 case h_13 t x f ho =>
  split at hx
  ·rename_i cs fields hρ hu
   split at hx
   ·rename_i fd hfd
    split at hx
    ·rename_i m ha hsz
     simp only [Option.some.injEq] at hx;subst hx
     refine .silent fun μ a w hg hxs => ?_
     have hv:=hxs x (by rw [ho];simp [Op.operands])
     rw [hρ] at hv
     unfold execOp
     simp only [ho]
     revert hv
     generalize a.eval x = X
     intro hv
     cases hv with
     | agg hcs =>
      refine ⟨_,?_,.agg ((hcs.drop fd.offset).take m)⟩
      simp only [Instr.field,Sem.run_bind,underlying_run hu,Result.andThen_ok,hfd,asAgg,Sem.run_pure,part_run_agg w ha hsz]
    ·rename_i ha
     cases hc:cs[fd.offset]? with
     | none => simp [hc] at hx
     | some v =>
      simp only [hc,Option.map_some,Option.some.injEq] at hx;subst hx
      refine .silent fun μ a w hg hxs => ?_
      have hv:=hxs x (by rw [ho];simp [Op.operands])
      rw [hρ] at hv
      unfold execOp
      simp only [ho]
      revert hv
      generalize a.eval x = X
      intro hv
      cases hv with
      | agg hcs =>
       obtain ⟨y,hy,hvy⟩:=hcs.get _ _ hc
       refine ⟨y,?_,hvy⟩
       simp only [Instr.field,Sem.run_bind,underlying_run hu,Result.andThen_ok,hfd,asAgg,Sem.run_pure,part_run_one w ha hy]
    ·simp at hx
   ·simp at hx
  ·simp at hx
 case h_14 t x ix ho =>
  split at hx
  ·rename_i k i len e b off sp hix hu hρ
   split at hx
   ·rename_i size hsz
    split at hx
    ·rename_i v hs' ob hat
     simp only [Option.some.injEq] at hx;subst hx
     refine .silent fun μ a w hg hxs => ?_
     have h1:=hxs x (by rw [ho];simp [Op.operands])
     have h2:=hxs ix (by rw [ho];simp [Op.operands])
     rw [hρ] at h1
     rw [hix] at h2
     have hi2:a.eval ix = .int k i:=by
      revert h2
      generalize a.eval ix = X
      intro h2;cases h2;rfl
     have fin:∀ c o',μ b = some c → o' = baseOff sp off → a.eval x = .pointer (some ⟨c,o',none⟩) → ∃ rv,(execOp a.eval o).run P w = .ok (.value rv) w ∧ VRel μ v rv:=by
      intro c o' hc ho' he
      obtain ⟨hi,hv⟩:=xat_ok (P:=P) hat hob hc ho'
      refine ⟨_,?_,hv⟩
      unfold execOp
      simp only [ho,he,hi2,Sem.run_bind,indexAt_array_run hu hsz hi,Result.andThen_ok,Sem.run_pure]
     revert fin h1
     generalize a.eval x = X
     intro h1 fin
     cases h1 with
     | ptr hb _ => exact fin _ _ hb rfl rfl
     | ptrS hb st _ => exact fin _ _ hb rfl rfl
    ·simp at hx
   ·simp at hx
  ·rename_i k i e b off sp len cap hix hu hρ
   split at hx
   ·rename_i size hsz
    split at hx
    ·rename_i v hs' ob hat
     simp only [Option.some.injEq] at hx;subst hx
     refine .silent fun μ a w hg hxs => ?_
     have h1:=hxs x (by rw [ho];simp [Op.operands])
     have h2:=hxs ix (by rw [ho];simp [Op.operands])
     rw [hρ] at h1
     rw [hix] at h2
     have hi2:a.eval ix = .int k i:=by
      revert h2
      generalize a.eval ix = X
      intro h2;cases h2;rfl
     have fin:∀ c o' cap',μ b = some c → o' = baseOff sp off → a.eval x = .slice (some ⟨c,o',none⟩) len cap' → ∃ rv,(execOp a.eval o).run P w = .ok (.value rv) w ∧ VRel μ v rv:=by
      intro c o' cap' hc ho' he
      obtain ⟨hi,hv⟩:=xat_ok (P:=P) hat hob hc ho'
      refine ⟨_,?_,hv⟩
      unfold execOp
      simp only [ho,he,hi2,Sem.run_bind,indexAt_slice_run hu hsz hi,Result.andThen_ok,Sem.run_pure]
     revert fin h1
     generalize a.eval x = X
     intro h1 fin
     cases h1 with
     | slice hb _ _ _ _ _ _ => exact fin _ _ _ hb rfl rfl
     | sliceS hb st _ _ _ _ _ _ => exact fin _ _ _ hb rfl rfl
     | sliceE _ _ _ _ _ _ _ => exact absurd (xat_len hat hob) (by omega)
    ·simp at hx
   ·simp at hx
  ·simp at hx
 case h_15 t x ix ho =>
  split at hx
  ·rename_i k i len e cs hix hu hρ
   have hi2:∀ (μ:Mu) (a:Act),(∀ y ∈ o.op.operands,VRel μ (ρ y) (a.eval y)) → a.eval ix = .int k i:=by
    intro μ a hxs
    have h2:=hxs ix (by rw [ho];simp [Op.operands])
    rw [hix] at h2
    revert h2
    generalize a.eval ix = X
    intro h2;cases h2;rfl
   split at hx
   ·rename_i j hs' ha hsz
    cases hc:cs[j]? with
    | none => simp [hc] at hx
    | some v =>
     simp only [hc,Option.map_some,Option.some.injEq] at hx;subst hx
     have h1:i = (j:Int):=hob _ (by simp [VX.silent])
     have h2:j < len:=hob _ (by simp [VX.silent])
     refine .silent fun μ a w hg hxs => ?_
     have hv:=hxs x (by rw [ho];simp [Op.operands])
     have hii:=hi2 μ a hxs
     rw [hρ] at hv
     unfold execOp
     simp only [ho,hii]
     revert hv
     generalize a.eval x = X
     intro hv
     cases hv with
     | agg hcs =>
      obtain ⟨y,hy,hvy⟩:=hcs.get _ _ hc
      refine ⟨y,?_,hvy⟩
      subst h1
      simp only [Sem.run_bind,index_array_run (P:=P) (k:=k) hu ha hsz (ix:=(j:Int)) ⟨by omega,by omega⟩ (v:=y) (by simpa using hy),Result.andThen_ok,Sem.run_pure]
   ·rename_i hs' ha hsz
    split at hx
    ·rename_i k' z r
     cases hl:intsOf k' (.int k' z :: r) with
     | none => simp [hl] at hx
     | some l =>
      simp only [hl,Option.map_some,Option.some.injEq] at hx;subst hx
      have h1:0 ≤ i ∧ i < (len:Int):=hob _ (by simp [VX.silent])
      have h2:l.length = len:=hob _ (by simp [VX.silent])
      have hcs:=intsOf_get hl
      refine .silent fun μ a w hg hxs => ?_
      have hv:=hxs x (by rw [ho];simp [Op.operands])
      have hii:=hi2 μ a hxs
      rw [hρ,hcs] at hv
      unfold execOp
      simp only [ho,hii]
      revert hv
      generalize a.eval x = X
      intro hv
      cases hv with
      | agg hrel =>
       have hget:(l.map (Value.int k'))[i.toNat]? = some (.int k' (l.getD i.toNat 0)):=by
        have:i.toNat < l.length:=by omega
        simp [this]
       obtain ⟨y,hy,hvy⟩:=hrel.get _ _ hget
       refine ⟨y,?_,hvy⟩
       simp only [Sem.run_bind,index_array_run (P:=P) (k:=k) hu ha hsz h1 hy,Result.andThen_ok,Sem.run_pure]
    ·simp at hx
   ·simp at hx
  ·rename_i k i s hix hu hρ
   simp only [Option.some.injEq] at hx;subst hx
   have h1:0 ≤ i ∧ i < (s.size:Int):=hob _ (by simp [VX.silent])
   refine .silent fun μ a w hg hxs => ?_
   have hv:=hxs x (by rw [ho];simp [Op.operands])
   have h2:=hxs ix (by rw [ho];simp [Op.operands])
   rw [hρ] at hv
   rw [hix] at h2
   refine ⟨.int .u8 (strAt s i.toNat),?_,.int _ _⟩
   unfold execOp
   simp only [ho]
   revert hv h2
   generalize a.eval x = X
   generalize a.eval ix = Y
   intro hv h2
   cases hv;cases h2
   simp only [Sem.run_bind,index_string_run (P:=P) hu h1,Result.andThen_ok,Sem.run_pure]
  ·simp at hx
 case h_16 x i ho =>
  split at hx
  ·rename_i vs hρ
   cases hc:vs[i]? with
   | none => simp [hc] at hx
   | some v =>
    simp only [hc,Option.map_some,Option.some.injEq] at hx;subst hx
    refine .silent fun μ a w hg hxs => ?_
    have hv:=hxs x (by rw [ho];simp [Op.operands])
    rw [hρ] at hv
    unfold execOp
    simp only [ho]
    revert hv
    generalize a.eval x = X
    intro hv
    cases hv with
    | junk r => simp at hc
    | tup hvs =>
     obtain ⟨y,hy,hvy⟩:=hvs.get _ _ hc
     refine ⟨y,?_,hvy⟩
     simp [Instr.extract,hy]
  ·simp at hx
 case h_17 t parts ho =>
  have hpr:∀ (μ:Mu) (a:Act),(∀ y ∈ o.op.operands,VRel μ (ρ y) (a.eval y)) → PartsRel μ (parts.toList.map fun p => (p.1,ρ p.2)) (parts.toList.map fun p => (p.1,a.eval p.2)):=by
   intro μ a hxs
   refine parts_rel _ fun p hp => hxs p.2 ?_
   rw [ho]
   simp only [Op.operands,List.mem_toArray,List.mem_map]
   exact ⟨p,hp,rfl⟩
  have hex:∀ (a:Act) (w:World) (rl:List Value),(Instr.build t ⟨parts.toList.map fun p => (p.1,a.eval p.2)⟩).run P w = .ok (.agg ⟨rl⟩) w → (execOp a.eval o).run P w = .ok (.value (.agg ⟨rl⟩)) w:=by
   intro a w rl hrun
   unfold execOp
   have e:(parts.map fun (i,x) => (i,a.eval x)) = ⟨parts.toList.map fun p => (p.1,a.eval p.2)⟩:=by apply Array.ext';simp
   simp only [ho,Sem.run_bind]
   rw [e,hrun]
   rfl
  split at hx
  ·rename_i inf fields hi hu
   split at hx
   ·rename_i z pl hz hpl
    cases hf:flat z <;> rw [hf] at hx
    ·simp at hx
    ·simp only [cond_true] at hx
     cases hl:layAll (fun i => pl[i]?) (parts.toList.map fun p => (p.1,ρ p.2)) z.cells.toList with
     | none => simp [hl] at hx
     | some l =>
      simp only [hl,Option.map_some,Option.some.injEq] at hx;subst hx
      refine .silent fun μ a w hg hxs => ?_
      obtain ⟨rl,hrun,hv⟩:=build_struct_ok hi hu hz hpl hf hl (hpr μ a hxs) w
      exact ⟨_,hex a w rl hrun,.agg hv⟩
   ·simp at hx
  ·rename_i inf m e hi hu
   split at hx
   ·rename_i z sz hz hsz
    cases hf:flat z <;> rw [hf] at hx
    ·simp at hx
    ·simp only [cond_true] at hx
     cases hl:layAll (fun i => some (i * sz,sz)) (parts.toList.map fun p => (p.1,ρ p.2)) z.cells.toList with
     | none => simp [hl] at hx
     | some l =>
      simp only [hl,Option.map_some,Option.some.injEq] at hx;subst hx
      refine .silent fun μ a w hg hxs => ?_
      obtain ⟨rl,hrun,hv⟩:=build_array_ok hi hu hz hsz hf hl (hpr μ a hxs) w
      exact ⟨_,hex a w rl hrun,.agg hv⟩
   ·simp at hx
  ·simp at hx
 case h_18 t len parts ho =>
  split at hx
  ·rename_i e hu
   split at hx
   ·rename_i inf hi
    split at hx
    ·rename_i z hz
     cases hc:(flat z && Nat.beq z.cells.toList.length inf.size && Nat.ble 1 inf.size && Nat.ble ((len + 1) * inf.size) 16777216) <;> rw [hc] at hx
     ·simp at hx
     ·simp only [cond_true] at hx
      simp only [Bool.and_eq_true] at hc
      obtain ⟨⟨⟨hf,hs1⟩,h0⟩,hm⟩:=hc
      cases hl:layAll (fun i => some (i * inf.size,inf.size)) (parts.toList.map fun p => (p.1,ρ p.2)) (repeatCells z.cells.toList (len + 1)) with
      | none => simp [hl] at hx
      | some l =>
       have key:∀ (μ:Mu) (a:Act) (w:World),Gl P μ → (∀ x ∈ o.op.operands,VRel μ (ρ x) (a.eval x)) → ∃ rl,VRels μ l rl ∧ rl.length = (len + 1) * inf.size ∧ (execOp a.eval o).run P w = .ok (.value (.slice (some ⟨w.heap.size,0,none⟩) (len + 1) (len + 1))) (w.alloc (.cells ⟨rl⟩ e)):=by
        intro μ a w hg hxs
        have hpr:PartsRel μ (parts.toList.map fun p => (p.1,ρ p.2)) (parts.toList.map fun p => (p.1,a.eval p.2)):=by
         refine parts_rel _ fun p hp => hxs p.2 ?_
         rw [ho]
         simp only [Op.operands,List.mem_toArray,List.mem_map]
         exact ⟨p,hp,rfl⟩
        obtain ⟨rl,hrun,hv⟩:=buildSlice_ok hu hi hz hf (beq_tt hs1) (ble_tt h0) (ble_tt hm) hl hpr (by omega) w
        refine ⟨rl,hv,by rw [← hv.length,layAll_length hl];exact repeatCells_length (beq_tt hs1) (len + 1),?_⟩
        unfold execOp
        have e:(parts.map fun (i,x) => (i,a.eval x)) = ⟨parts.toList.map fun p => (p.1,a.eval p.2)⟩:=by apply Array.ext';simp
        simp only [ho,Sem.run_bind]
        rw [e,hrun]
        rfl
       simp only [hl,Option.map_some,Option.some.injEq] at hx
       split at hx
       ·rename_i S hs'
        subst hx
        obtain ⟨hS1,hS2⟩:SegsOk S l:=hob _ (by simp [VX.newBlk])
        refine .newBlkS fun μ a w hg hxs => ?_
        obtain ⟨rl,hv,hlen,hrun⟩:=key μ a w hg hxs
        refine ⟨rl,_,l,hS1,hS2,hv,hrun,fun μ' hm hsz => ?_⟩
        exact VRel.sliceS hm 0 0 _ _ _ (Nat.le_refl _) (.inr (by rw [hsz,hlen];omega))
       ·subst hx
        refine .newBlk fun μ a w hg hxs => ?_
        obtain ⟨rl,hv,hlen,hrun⟩:=key μ a w hg hxs
        exact ⟨rl,_,hv,hrun,fun μ' hm hsz => .slice hm 0 _ _ _ (Nat.le_refl _) (.inr (by rw [hsz,hlen];omega))⟩
    ·simp at hx
   ·simp at hx
  ·simp at hx
 case h_19 f first captured ho =>
  simp only [Option.some.injEq] at hx;subst hx
  refine .silent fun μ a w hg hxs => ?_
  refine ⟨.func (.func f) ⟨first.toList.map a.eval⟩ ⟨captured.toList.map a.eval⟩,?_,.func _ (args_rel _ fun x hx => hxs x ?_) (args_rel _ fun x hx => hxs x ?_)⟩
  ·unfold execOp
   have e1:first.map a.eval = ⟨first.toList.map a.eval⟩:=by apply Array.ext';simp
   have e2:captured.map a.eval = ⟨captured.toList.map a.eval⟩:=by apply Array.ext';simp
   simp only [ho,Instr.makeFunc,e1,e2]
   rfl
  ·rw [ho];simp [Op.operands];exact .inl (by simpa using hx)
  ·rw [ho];simp [Op.operands];exact .inr (by simpa using hx)
 case h_20 c ho => exact absurd ho (hcall c)
 case h_21 => simp at hx
theorem Rep.born {μ:Mu} {h:HF} {w:World} (r:Rep μ h w) {cs:Array Value} {t:TypeId} :
  let μ':Mu:=⟨μ.nm,μ.sz,fun b => if b = w.heap.size then some cs else μ.fz b⟩
  μ.le μ' ∧ Rep μ' h (w.alloc (.cells cs t)) ∧ Keeps μ h w μ' h (w.alloc (.cells cs t)):=by
 intro μ'
 have hle:μ.le μ':=by
  refine ⟨fun _ _ h => h,fun _ _ _ => rfl,fun b cs' hf => ?_⟩
  obtain ⟨t',fr',e'⟩:=r.frz _ _ hf
  have:=(Array.getElem?_eq_some_iff.1 e').1
  simp only [μ',if_neg (show ¬ b = w.heap.size by omega)]
  exact hf
 refine ⟨hle,⟨?_,?_,?_,?_,?_,?_⟩,⟨rfl,rfl,rfl,by simp,?_,?_,fun _ _ => rfl,hle.fzs,?_⟩⟩
 ·intro j C hj hne
  obtain ⟨c,hc,hb⟩:=r.blk j C hj hne
  exact ⟨c,hc,by rw [hAllocOld _ _ _ (r.bound j c hc)];exact hb.mono hle⟩
 ·exact r.apart
 ·intro j c hj
  have:=r.bound j c hj
  simp;omega
 ·intro j C c hj hCro hjc
  have hlt:=r.bound j c hjc
  obtain ⟨cs',t',fr',e',hs'⟩:=r.size j C c hj hCro hjc
  exact ⟨cs',t',fr',by rw [hAllocOld _ _ _ hlt];exact e',hs'⟩
 ·intro c cs' hf
  by_cases hcs:c = w.heap.size
  ·subst hcs
   simp only [μ',if_true,Option.some.injEq] at hf
   subst hf
   exact ⟨t,(0,0),heap_alloc_new _ _⟩
  ·simp only [μ',if_neg hcs] at hf
   obtain ⟨t',fr',e'⟩:=r.frz c cs' hf
   exact ⟨t',fr',by rw [hAllocOld _ _ _ (Array.getElem?_eq_some_iff.1 e').1];exact e'⟩
 ·intro j C c hj hCro hjc
  have hlt:=r.bound j c hjc
  simp only [μ',if_neg (show ¬ c = w.heap.size by omega)]
  exact r.nofz j C c hj hCro hjc
 ·intro b hb _
  exact hAllocOld _ _ _ hb
 ·intro i B b e m _
  exact ⟨i,B,e,m,fun x => x⟩
 ·intro b cs' hf
  by_cases hcs:b = w.heap.size
  ·exact .inr (.inr (by omega))
  ·simp only [μ',if_neg hcs] at hf
   exact .inl hf
theorem xborn_ok {P:Program} {ρ:Operand → Value} {n:Nat} {hs:List Hint} {o:Oper} {out:Out} (hx:xborn P ρ n hs o = some out) (h:HF):OpSpec P o ρ h out:=by
 unfold xborn at hx
 split at hx
 ·rename_i t len parts ho
  split at hx
  ·rename_i e hu
   split at hx
   ·rename_i inf hi
    split at hx
    ·rename_i z hz
     cases hc:(flat z && Nat.beq z.cells.toList.length inf.size && Nat.ble 1 inf.size && Nat.ble ((len + 1) * inf.size) 16777216) <;> rw [hc] at hx
     ·simp at hx
     ·simp only [cond_true] at hx
      simp only [Bool.and_eq_true] at hc
      obtain ⟨⟨⟨hf,hs1⟩,h0⟩,hm⟩:=hc
      split at hx
      ·rename_i l hl
       cases hsol:l.all solid <;> rw [hsol] at hx
       ·simp at hx
       ·simp only [cond_true,Option.some.injEq] at hx;subst hx
        intro μ a w hg hxs hr hn K Q hk
        have hpr:PartsRel μ (parts.toList.map fun p => (p.1,ρ p.2)) (parts.toList.map fun p => (p.1,a.eval p.2)):=by
         refine parts_rel _ fun p hp => hxs p.2 ?_
         rw [ho]
         simp only [Op.operands,List.mem_toArray,List.mem_map]
         exact ⟨p,hp,rfl⟩
        obtain ⟨rl,hrun,hv⟩:=buildSlice_ok hu hi hz hf (beq_tt hs1) (ble_tt h0) (ble_tt hm) hl hpr (by omega) w
        obtain rfl:=VRels.eq_of_solids hsol hv
        obtain ⟨hle,hrep,hkeep⟩:=hr.born (cs:=⟨rl⟩) (t:=e)
        have he:(execOp a.eval o).run P w = .ok (.value (.slice (some ⟨w.heap.size,0,none⟩) (len + 1) (len + 1))) (w.alloc (.cells ⟨rl⟩ e)):=by
         unfold execOp
         have e:(parts.map fun (i,x) => (i,a.eval x)) = ⟨parts.toList.map fun p => (p.1,a.eval p.2)⟩:=by apply Array.ext';simp
         simp only [ho,Sem.run_bind]
         rw [e,hrun]
         rfl
        refine wp_of_value he (hk _ _ _ hle (fun _ _ => rfl) hrep ?_ hkeep)
        have h0':=ble_tt h0
        have hlen:(len + 1) * inf.size = rl.length:=by
         rw [layAll_length hl];exact (repeatCells_length (beq_tt hs1) (len + 1)).symm
        refine .lst _ _ _ hsol ⟨_,_,_,rfl⟩ fun _ => .inr (.inr ⟨by omega,_,_,_,_,⟨rl⟩,rfl,Nat.le_refl _,hlen,by simp,fun j v hj => by simpa using hj⟩)
      ·simp at hx
    ·simp at hx
   ·simp at hx
  ·simp at hx
 ·simp at hx
end Go.Proofs.Ytgnhhnmpeklciaa.VX
namespace Go.Proofs.Ytgnhhnmpeklciaa.VX
open Go
structure Renames (σ:List (Nat × Nat)) (μ μ':Mu):Prop where
 nms:∀ i j b,look σ i = some j → μ i = some b → μ' j = some b
 szs:∀ i b,μ i = some b → μ'.sz b = μ.sz b
 fzs:∀ b cs,μ.fz b = some cs → μ'.fz b = some cs
instance {σ:List (Nat × Nat)} {μ μ':Mu}:CoeFun (Renames σ μ μ') (fun _ => ∀ i j b,look σ i = some j → μ i = some b → μ' j = some b):=⟨Renames.nms⟩
theorem VRels.map {μ μ':Mu} {f:Value → Value} (hf:∀ x y,VRel μ x y → VRel μ' (f x) y):∀ {l m:List Value},VRels μ l m → VRels μ' (l.map f) m
 | [],[],_ => .nil
 | x :: l,y :: m,h => by cases h with | cons a b => exact .cons (hf x y a) (VRels.map hf b)
 | [],_ :: _,h => nomatch h
 | _ :: _,[],h => nomatch h
theorem rn_rel {σ:List (Nat × Nat)} {μ μ':Mu} (hσ:Renames σ μ μ'):∀ (d:Nat) (v r:Value),VRel μ v r → VRel μ' (rn σ d v) r:=by
 intro d
 induction d with
 | zero =>
  intro v r h
  cases h with
  | ptr e off => simp only [rn];split <;> first | exact .junk _ | (rename_i j hj;exact .ptr (hσ _ _ _ hj e) _)
  | ptrS e s off => simp only [rn];split <;> first | exact .junk _ | (rename_i j hj;exact .ptrS (hσ _ _ _ hj e) _ _)
  | slice e off l c c' hc hz => simp only [rn];split <;> first | exact .junk _ | (rename_i j hj;exact .slice (hσ _ _ _ hj e) _ _ _ _ hc (hz.imp id fun k => by rw [hσ.szs _ _ e];exact k))
  | sliceS e s off l c c' hc hz => simp only [rn];split <;> first | exact .junk _ | (rename_i j hj;exact .sliceS (hσ _ _ _ hj e) _ _ _ _ _ hc (hz.imp id fun k => by rw [hσ.szs _ _ e];exact k))
  | sliceE i s off c a c' hz => simp only [rn];split <;> first | exact .junk _ | exact .sliceE _ _ _ _ _ _ hz
  | junk r => exact .junk _
  | und => exact .und
  | bool b => exact .bool b
  | int k n => exact .int k n
  | float k n => exact .float k n
  | string s => exact .string s
  | ptrNil => exact .ptrNil
  | sliceNil => exact .sliceNil
  | mapNil => exact .mapNil
  | nilFunc => exact .nilFunc
  | nilIface => exact .nilIface
  | func fn a b => exact .junk _
  | lst z l f hs hr k => exact .lst z l f hs hr fun e => (k e).fmono hσ.fzs
  | fptr l hs hf k => exact .fptr l hs (hσ.fzs _ _ hf) k
  | emp a c => exact .emp a c
  | iface t a => exact .junk _
  | agg a => exact .junk _
  | tup a => exact .junk _
 | succ d ih =>
  intro v r h
  cases h with
  | ptr e off => simp only [rn];split <;> first | exact .junk _ | (rename_i j hj;exact .ptr (hσ _ _ _ hj e) _)
  | ptrS e s off => simp only [rn];split <;> first | exact .junk _ | (rename_i j hj;exact .ptrS (hσ _ _ _ hj e) _ _)
  | slice e off l c c' hc hz => simp only [rn];split <;> first | exact .junk _ | (rename_i j hj;exact .slice (hσ _ _ _ hj e) _ _ _ _ hc (hz.imp id fun k => by rw [hσ.szs _ _ e];exact k))
  | sliceS e s off l c c' hc hz => simp only [rn];split <;> first | exact .junk _ | (rename_i j hj;exact .sliceS (hσ _ _ _ hj e) _ _ _ _ _ hc (hz.imp id fun k => by rw [hσ.szs _ _ e];exact k))
  | sliceE i s off c a c' hz => simp only [rn];split <;> first | exact .junk _ | exact .sliceE _ _ _ _ _ _ hz
  | junk r => exact .junk _
  | und => exact .und
  | bool b => exact .bool b
  | int k n => exact .int k n
  | float k n => exact .float k n
  | string s => exact .string s
  | ptrNil => exact .ptrNil
  | sliceNil => exact .sliceNil
  | mapNil => exact .mapNil
  | nilFunc => exact .nilFunc
  | nilIface => exact .nilIface
  | func fn a b => exact .func fn (VRels.map ih a) (VRels.map ih b)
  | lst z l f hs hr k => exact .lst z l f hs hr fun e => (k e).fmono hσ.fzs
  | fptr l hs hf k => exact .fptr l hs (hσ.fzs _ _ hf) k
  | emp a c => exact .emp a c
  | iface t a => exact .iface t (ih _ _ a)
  | agg a => exact .agg (VRels.map ih a)
  | tup a => exact .tup (VRels.map ih a)
theorem rnS_size (σ:List (Nat × Nat)) (s:Seg):(rnS σ s).size = s.size:=by cases s <;> rfl
theorem rnB_size (σ:List (Nat × Nat)) (B:Blk):(rnB σ B).size = B.size:=by
 unfold rnB Blk.size
 simp only
 generalize B.segs = l
 induction l with
 | nil => rfl
 | cons s l ih => simp only [List.map_cons,segsSize,rnS_size,ih]
theorem rnS_get {σ:List (Nat × Nat)} {s:Seg} {o:Nat} {v:Value} (h:(rnS σ s).get? o = some v):∃ u,s.get? o = some u ∧ (v = rn σ 6 u ∨ (v = u ∧ scalar u = true)):=by
 cases s with
 | one x =>
  simp only [rnS,Seg.get?] at h ⊢
  cases e:Nat.beq o 0 <;> rw [e] at h <;> simp at h
  exact ⟨x,by simp,.inl h.symm⟩
 | ints k n a =>
  simp only [rnS,Seg.get?] at h ⊢
  cases e:Nat.blt o n <;> rw [e] at h <;> simp at h
  exact ⟨_,rfl,.inr ⟨h.symm,rfl⟩⟩
 | bools n a =>
  simp only [rnS,Seg.get?] at h ⊢
  cases e:Nat.blt o n <;> rw [e] at h <;> simp at h
  exact ⟨_,rfl,.inr ⟨h.symm,rfl⟩⟩
 | rows n sz g =>
  simp only [rnS,Seg.get?] at h ⊢
  cases e:Nat.blt o (n * sz) <;> rw [e] at h <;> simp at h
  obtain ⟨u,hu,hv⟩:=h
  exact ⟨u,by simpa using hu,.inl hv.symm⟩
 | gap n => simp [rnS,Seg.get?] at h
theorem rnB_get {σ:List (Nat × Nat)} {B:Blk} {o:Nat} {v:Value} (h:(rnB σ B).get? o = some v):∃ u,B.get? o = some u ∧ (v = rn σ 6 u ∨ (v = u ∧ scalar u = true)):=by
 unfold rnB Blk.get? at *
 simp only at h ⊢
 generalize B.segs = l at *
 induction l generalizing o with
 | nil => simp [segsGet?] at h
 | cons s l ih =>
  simp only [List.map_cons,segsGet?,rnS_size] at h ⊢
  cases e:Nat.blt o s.size <;> rw [e] at h
  ·simpa using ih (by simpa using h)
  ·simpa using rnS_get (by simpa using h)
theorem rnB_rel {σ:List (Nat × Nat)} {μ μ':Mu} (hσ:Renames σ μ μ') {B:Blk} {o:Option Obj} (h:BlkRel μ B o):BlkRel μ' (rnB σ B) o:=by
 obtain ⟨cs,t,fr,e,h1,h2⟩:=h
 refine ⟨cs,t,fr,e,fun hro => ?_,fun off v hv => ?_⟩
 ·obtain ⟨a,b,c⟩:=h1 hro
  exact ⟨a,b,by rw [rnB_size];exact c⟩
 ·obtain ⟨u,hu,hv'⟩:=rnB_get hv
  obtain ⟨r,hr,hrel⟩:=h2 off u hu
  refine ⟨r,hr,?_⟩
  rcases hv' with rfl | ⟨rfl,hs⟩
  ·exact rn_rel hσ 6 u r hrel
  ·rw [VRel.eq_of_scalar hs hrel];exact .of_scalar hs
theorem look_mem {σ:List (Nat × Nat)} {i j:Nat} (h:look σ i = some j):(i,j) ∈ σ:=by
 induction σ with
 | nil => simp [look] at h
 | cons x r ih =>
  obtain ⟨a,b⟩:=x
  simp only [look] at h
  cases e:Nat.beq i a <;> rw [e] at h
  ·simp at h;simp [ih h]
  ·simp at h;subst h;rw [beq_tt e];simp
theorem look_append (a b:List (Nat × Nat)) (i:Nat):look (a ++ b) i = match look a i with | some j => some j | none => look b i:=by
 induction a with
 | nil => rfl
 | cons x r ih =>
  obtain ⟨p,q⟩:=x
  simp only [List.cons_append,look]
  cases Nat.beq i p
  ·simpa using ih
  ·simp
theorem look_swap_mem {σ:List (Nat × Nat)} {i j:Nat} (h:look (swap σ) j = some i):(i,j) ∈ σ:=by
 have:=look_mem h
 unfold swap at this
 simp at this
 obtain ⟨a,b,hm,rfl,rfl⟩:=this
 exact hm
structure SwapOk (σ:List (Nat × Nat)) (n0:Nat):Prop where
 back:∀ i j,(i,j) ∈ σ → look (swap σ) j = some i
 forth:∀ i j,(i,j) ∈ σ → look σ i = some j
 lt:∀ i j,(i,j) ∈ σ → j < n0
 glob:∀ i j,(i,j) ∈ σ → 1000 ≤ j ∨ i = j
theorem swapOk_spec {σ:List (Nat × Nat)} {n0:Nat} (h:swapOk σ n0 = true):SwapOk σ n0:=by
 unfold swapOk at h
 have key:∀ i j,(i,j) ∈ σ → look (swap σ) j = some i ∧ look σ i = some j ∧ j < n0 ∧ (1000 ≤ j ∨ i = j):=by
  intro i j hm
  have:=List.all_eq_true.1 h (i,j) hm
  simp only [Bool.and_eq_true,Bool.or_eq_true] at this
  obtain ⟨⟨⟨a,b⟩,c⟩,d⟩:=this
  refine ⟨?_,?_,blt_tt c,d.imp ble_tt beq_tt⟩
  ·cases e:look (swap σ) j with
   | none => simp [e] at a
   | some x => simp [e] at a;rw [a]
  ·cases e:look σ i with
   | none => simp [e] at b
   | some x => simp [e] at b;rw [b]
 exact ⟨fun i j m => (key i j m).1,fun i j m => (key i j m).2.1,fun i j m => (key i j m).2.2.1,fun i j m => (key i j m).2.2.2⟩
theorem postHas_spec {post:Heap} {τ0:List (Nat × Nat)}:∀ {τ:List (Nat × Nat)},postHas post τ0 τ = true → ∀ j i,(j,i) ∈ τ → (∃ B,lk post j = some B) ∧ look τ0 j = some i
 | [],_,j,i,h => by simp at h
 | (a,b) :: r,hp,j,i,h => by
  simp only [postHas,Bool.and_eq_true] at hp
  simp only [List.mem_cons,Prod.mk.injEq] at h
  rcases h with ⟨rfl,rfl⟩ | h
  ·refine ⟨Option.isSome_iff_exists.1 hp.1.1,?_⟩
   have h2:=hp.1.2
   revert h2
   cases look τ0 j with
   | none => simp
   | some k => intro h2;exact congrArg some (Nat.eq_of_beq_eq_true h2)
  ·exact postHas_spec hp.2 j i h
structure NewOk (τ σ:List (Nat × Nat)) (n0 n:Nat):Prop where
 lo:∀ j i,(j,i) ∈ τ → n0 ≤ j
 fresh:∀ j i,(j,i) ∈ τ → look σ i = none
 mem:∀ j i,(j,i) ∈ τ → i ∈ τ.map (·.2)
 uniq:∀ j j' i,(j,i) ∈ τ → (j',i) ∈ τ → j = j'
 ge:∀ j i,(j,i) ∈ τ → n ≤ i
theorem newOk_spec:∀ {τ σ:List (Nat × Nat)} {n0 n:Nat},newOk τ σ n0 n = true → NewOk τ σ n0 n
 | [],σ,n0,n,_ => ⟨by simp,by simp,by simp,by simp,by simp⟩
 | (j,i) :: r,σ,n0,n,h => by
  simp only [newOk,Bool.and_eq_true] at h
  obtain ⟨⟨⟨a,b⟩,c⟩,d⟩:=h
  have hr:=newOk_spec d
  have hi:i = n:=beq_tt a
  refine ⟨?_,?_,?_,?_,?_⟩
  ·intro j' i' hm
   simp only [List.mem_cons,Prod.mk.injEq] at hm
   rcases hm with ⟨rfl,rfl⟩ | hm
   ·exact ble_tt b
   ·exact hr.lo _ _ hm
  ·intro j' i' hm
   simp only [List.mem_cons,Prod.mk.injEq] at hm
   rcases hm with ⟨rfl,rfl⟩ | hm
   ·simpa using c
   ·exact hr.fresh _ _ hm
  ·intro j' i' hm
   simp only [List.map_cons,List.mem_cons]
   simp only [List.mem_cons,Prod.mk.injEq] at hm
   rcases hm with ⟨rfl,rfl⟩ | hm
   ·exact .inl rfl
   ·exact .inr (hr.mem _ _ hm)
  ·intro j1 j2 i' h1 h2
   simp only [List.mem_cons,Prod.mk.injEq] at h1 h2
   rcases h1 with ⟨rfl,rfl⟩ | h1 <;> rcases h2 with ⟨rfl,e⟩ | h2
   ·rfl
   ·have:=hr.ge _ _ h2;omega
   ·have:=hr.ge _ _ h1;omega
   ·exact hr.uniq _ _ _ h1 h2
  ·intro j' i' hm
   simp only [List.mem_cons,Prod.mk.injEq] at hm
   rcases hm with ⟨rfl,rfl⟩ | hm
   ·omega
   ·have:=hr.ge _ _ hm;omega
theorem subHeap_lk {H:HF} {σ0:List (Nat × Nat)}:∀ {σ:List (Nat × Nat)} {h0:Heap},subHeap H σ0 σ = some h0 → ∀ j B,lk h0 j = some B → ∃ i A,(i,j) ∈ σ ∧ H i = some A ∧ B = rnB σ0 A
 | [],h0,h,j,B,hl => by simp [subHeap] at h;subst h;simp [lk] at hl
 | (i,k) :: r,h0,h,j,B,hl => by
  simp only [subHeap] at h
  cases hA:H i with
  | none => simp [hA] at h
  | some A =>
   cases hr:subHeap H σ0 r with
   | none => simp [hA,hr] at h
   | some h1 =>
    simp [hA,hr] at h;subst h
    simp only [lk] at hl
    cases e:Nat.beq j k <;> rw [e] at hl
    ·obtain ⟨i',A',hm,hA',hB⟩:=subHeap_lk hr j B (by simpa using hl)
     exact ⟨i',A',by simp [hm],hA',hB⟩
    ·simp at hl
     exact ⟨i,A,by rw [beq_tt e];simp,hA,hl.symm⟩
theorem gone_spec {H:HF} {post:Heap}:∀ {σ:List (Nat × Nat)} {h:HF} {i:Nat} {B:Blk},app (goneEff H post σ) h i = some B → h i = some B ∧ ∀ j,(i,j) ∈ σ → lk post j = none → ∀ A,H i = some A → A.ro = true
 | [],h,i,B,he => ⟨he,fun j hm => by simp at hm⟩
 | (k,l) :: r,h,i,B,he => by
  simp only [goneEff] at he
  cases hc:(roB (H k) || (lk post l).isSome) <;> rw [hc] at he
  ·simp only [cond_false,app] at he
   obtain ⟨h1,h2⟩:=gone_spec he
   have hik:i ≠ k:=by rintro rfl;rw [upd1_del] at h1;cases h1
   rw [upd1_other hik] at h1
   refine ⟨h1,fun j hm hp A hA => ?_⟩
   simp only [List.mem_cons,Prod.mk.injEq] at hm
   rcases hm with ⟨e,_⟩ | hm
   ·exact absurd e hik
   ·exact h2 j hm hp A hA
  ·simp only [cond_true] at he
   obtain ⟨h1,h2⟩:=gone_spec he
   refine ⟨h1,fun j hm hp A hA => ?_⟩
   simp only [List.mem_cons,Prod.mk.injEq] at hm
   rcases hm with ⟨rfl,rfl⟩ | hm
   ·simp only [Bool.or_eq_true] at hc
    rcases hc with hc | hc
    ·simpa [hA,roB] using hc
    ·rw [hp] at hc;simp at hc
   ·exact h2 j hm hp A hA
theorem postEff_app {ρ:List (Nat × Nat)} (hinj:∀ a b i,look ρ a = some i → look ρ b = some i → a = b):∀ {post:Heap} {e:List (Nat × Upd)} (_:postEff ρ post = some e) (_:nodupIds post = true) (h:HF) (i:Nat),
  (∀ j B,look ρ j = some i → lk post j = some B → app e h i = some (rnB ρ B)) ∧ ((∀ j,look ρ j = some i → lk post j = none) → app e h i = h i)
 | [],e,he,_,h,i => by
  simp [postEff] at he;subst he
  exact ⟨fun j B _ hl => by simp [lk] at hl,fun _ => rfl⟩
 | (k,C) :: r,e,he,hn,h,i => by
  simp only [postEff] at he
  cases hk:look ρ k with
  | none => simp [hk] at he
  | some k' =>
   cases hr:postEff ρ r with
   | none => simp [hk,hr] at he
   | some e' =>
    simp [hk,hr] at he;subst he
    simp only [nodupIds,Bool.and_eq_true] at hn
    have ih:=postEff_app hinj hr hn.2 (upd1 h (k',.blk (rnB ρ C))) i
    have hkn:lk r k = none:=by simpa using hn.1
    simp only [app]
    constructor
    ·intro j B hj hl
     simp only [lk] at hl
     cases e:Nat.beq j k <;> rw [e] at hl
     ·exact ih.1 j B hj (by simpa using hl)
     ·simp at hl;subst hl
      have hjk:=beq_tt e
      subst hjk
      rw [hk] at hj
      obtain rfl:k' = i:=by simpa using hj
      rw [ih.2 (fun j' hj' => by rw [hinj j' j k' hj' hk];exact hkn)]
      exact upd1_same _ _ _
    ·intro hno
     have hki:k' ≠ i:=by
      rintro rfl
      have:=hno k hk
      simp [lk,beq_self] at this
     rw [ih.2 (fun j' hj' => by
      have:=hno j' hj'
      simp only [lk] at this
      cases e:Nat.beq j' k <;> rw [e] at this
      ·simpa using this
      ·simp at this)]
     exact upd1_other (fun h => hki h.symm)
theorem postEff_mem {ρ:List (Nat × Nat)}:∀ {post:Heap} {e:List (Nat × Upd)},postEff ρ post = some e → ∀ j B i,lk post j = some B → look ρ j = some i → ∃ x ∈ e,x.1 = i
 | [],e,_,j,B,i,h,_ => by simp [lk] at h
 | (k,C) :: r,e,hp,j,B,i,h,hl => by
  simp only [postEff] at hp
  cases h1:look ρ k with
  | none => simp [h1] at hp
  | some i0 =>
   cases h2:postEff ρ r with
   | none => simp [h1,h2] at hp
   | some e' =>
    simp only [h1,h2,Option.some.injEq] at hp
    subst hp
    simp only [lk] at h
    cases hb:Nat.beq j k <;> rw [hb] at h
    ·obtain ⟨x,hx,hxi⟩:=postEff_mem h2 j B i (by simpa using h) hl
     exact ⟨x,List.mem_cons_of_mem _ hx,hxi⟩
    ·rw [← beq_tt hb,hl] at h1
     obtain rfl:i = i0:=by simpa using h1
     exact ⟨_,List.mem_cons_self,rfl⟩
theorem renBack_new {σ τ:List (Nat × Nat)} {n0 n:Nat} {post:Heap} (hσ:SwapOk σ n0) (hτ:NewOk τ σ n0 n) (c4:postHas post τ τ = true) {j i:Nat} (hm:(j,i) ∈ τ):look (renBack σ τ) j = some i:=by
 obtain ⟨_,hlj⟩:=postHas_spec c4 j i hm
 unfold renBack
 rw [look_append]
 cases e3:look (swap σ) j with
 | some i' =>
  have h1:=hσ.lt i' j (look_swap_mem e3)
  have h2:=hτ.lo j i hm
  omega
 | none => exact hlj
theorem xcall_neweff {P:Program} {H:HF} {n:Nat} {g:FuncId} {args:List Value} {hs:List Hint} {out:Out} (hx:xcall P H n g args hs = some out) (i:Nat) (hi:i ∈ out.new):∃ x ∈ out.eff,x.1 = i:=by
 unfold xcall at hx
 split at hx
 case h_2 => simp at hx
 case h_1 σ τ n0 v post hs' =>
 cases hsub:subHeap H σ σ with
 | none => simp [hsub] at hx
 | some h0 =>
 simp only [hsub] at hx
 cases hpe:postEff (renBack σ τ) post with
 | none => simp [hpe] at hx
 | some e =>
 simp only [hpe] at hx
 cases hc:(swapOk σ n0 && newOk τ σ n0 n && (nodupIds post && postHas post τ τ) && Nat.ble 1000 n0) <;> rw [hc] at hx
 ·simp at hx
 simp only [cond_true,Option.some.injEq] at hx
 subst hx
 simp only [Bool.and_eq_true] at hc
 obtain ⟨⟨⟨c1,c2⟩,c3,c4⟩,c5⟩:=hc
 simp only [List.mem_map] at hi
 obtain ⟨⟨j,i'⟩,hm,rfl⟩:=hi
 obtain ⟨⟨C,hC⟩,_⟩:=postHas_spec c4 j i' hm
 obtain ⟨x,hx,hxi⟩:=postEff_mem hpe j C i' hC (renBack_new (swapOk_spec c1) (newOk_spec c2) c4 hm)
 exact ⟨x,List.mem_append_right _ hx,hxi⟩
theorem xcall_ok {P:Program} {o:Oper} {ρ:Operand → Value} {H h:HF} {n:Nat} {g:FuncId} {args:List Value} {hs:List Hint} {out:Out} (hG:P.globals.size ≤ 1000) (hx:xcall P H n g args hs = some out) (hob:∀ q ∈ out.ob,q)
  (hrd:∀ i ∈ out.rd,h i = H i)
  (hrun:∀ (μ:Mu) (a:Act) (w:World),(∀ x ∈ o.op.operands,VRel μ (ρ x) (a.eval x)) → ∃ rargs,VRels μ args rargs ∧ (execOp a.eval o).run P w = (callFunc g ⟨rargs⟩).run P w):OpSpec P o ρ h out:=by
 unfold xcall at hx
 split at hx
 case h_2 => simp at hx
 case h_1 σ τ n0 v post hs' =>
 cases hsub:subHeap H σ σ with
 | none => simp [hsub] at hx
 | some h0 =>
 simp only [hsub] at hx
 cases hpe:postEff (renBack σ τ) post with
 | none => simp [hpe] at hx
 | some e =>
 simp only [hpe] at hx
 cases hc:(swapOk σ n0 && newOk τ σ n0 n && (nodupIds post && postHas post τ τ) && Nat.ble 1000 n0) <;> rw [hc] at hx
 ·simp at hx
 simp only [cond_true,Option.some.injEq] at hx
 subst hx
 simp only [Bool.and_eq_true] at hc
 obtain ⟨⟨⟨c1,c2⟩,c3,c4⟩,c5⟩:=hc
 have hσ:=swapOk_spec c1
 have hτ:=newOk_spec c2
 have hspec:FnSpec P g n0 (args.map (rn σ 6)) h0 v post:=hob _ (by simp)
 intro μ a w hg hxs hr hn K Q hk
 simp only at hk hn
 obtain ⟨rargs,hargs,hex⟩:=hrun μ a w hxs
 let μ0:Mu:=⟨fun j => match look (swap σ) j with
  | some i => μ i
  | none => if j < P.globals.size then some j else none,μ.sz,μ.fz⟩
 have hn0:1000 ≤ n0:=ble_tt c5
 have μ0_of:∀ i j,(i,j) ∈ σ → μ0 j = μ i:=fun i j hm => by simp only [μ0,hσ.back i j hm]
 have hren:Renames σ μ μ0:=⟨fun i j b hl hb => by rw [μ0_of i j (look_mem hl)];exact hb,fun _ _ _ => rfl,fun _ _ h => h⟩
 have hgl:Gl P μ0:=by
  intro k hk'
  simp only [μ0]
  split
  ·rename_i i hi
   have hm:=look_swap_mem hi
   rcases hσ.glob i k hm with hle | rfl
   ·omega
   ·exact hg i hk'
  ·simp [hk']
 have hfresh:∀ j,n0 ≤ j → μ0 j = none:=by
  intro j hj
  simp only [μ0]
  split
  ·rename_i i hi
   have:=hσ.lt i j (look_swap_mem hi)
   omega
  ·rw [if_neg (by omega)]
 have hHh:∀ i j,(i,j) ∈ σ → h i = H i:=fun i j hm => hrd i (by simp;exact ⟨j,hm⟩)
 have hrep0:Rep μ0 (lk h0) w:=by
  refine ⟨?_,?_,?_,?_,hr.frz,?_⟩
  ·intro j B hB hne
   obtain ⟨i,A,hm,hA,rfl⟩:=subHeap_lk hsub j B hB
   rw [← hHh i j hm] at hA
   obtain ⟨b,hb,hrel⟩:=hr.blk i A hA (by rw [rnB_size,μ0_of i j hm] at hne;exact hne)
   exact ⟨b,by rw [μ0_of i j hm];exact hb,rnB_rel hren hrel⟩
  ·intro j k A B b hA hB hj hk' hne
   obtain ⟨i,A',hm,hA',rfl⟩:=subHeap_lk hsub j A hA
   obtain ⟨i',B',hm',hB',rfl⟩:=subHeap_lk hsub k B hB
   rw [← hHh i j hm] at hA'
   rw [← hHh i' k hm'] at hB'
   rw [μ0_of i j hm] at hj
   rw [μ0_of i' k hm'] at hk'
   have hii:i ≠ i':=by
    rintro rfl
    have h1:=hσ.forth i j hm
    have h2:=hσ.forth i k hm'
    rw [h1] at h2
    exact hne (by simpa using h2)
   exact hr.apart i i' A' B' b hA' hB' hj hk' hii
  ·intro j b hj
   simp only [μ0] at hj
   split at hj
   ·exact hr.bound _ _ hj
   ·split at hj
    ·rename_i hlt
     obtain rfl:j = b:=by simpa using hj
     exact hr.bound _ _ (hg j hlt)
    ·cases hj
  ·intro j B b hB hro hj
   obtain ⟨i,A,hm,hA,rfl⟩:=subHeap_lk hsub j B hB
   rw [← hHh i j hm] at hA
   rw [μ0_of i j hm] at hj
   exact hr.size i A b hA hro hj
  ·intro j B b hB hro hj
   obtain ⟨i,A,hm,hA,rfl⟩:=subHeap_lk hsub j B hB
   rw [← hHh i j hm] at hA
   rw [μ0_of i j hm] at hj
   exact hr.nofz i A b hA hro hj
 have hargs0:VRels μ0 (args.map (rn σ 6)) rargs:=VRels.map (fun x y hxy => rn_rel hren 6 x y hxy) hargs
 have hcalls:=hspec.runs μ0 w rargs hgl hfresh hargs0 hrep0
 refine wp_of_enter (w':=w) (by rw [hex];exact hspec.enters _ w) (hcalls.mono ?_)
 rintro en w' ⟨μ1,rv,⟨hle,hsame1⟩,hrep1,hv,rfl,hkeep⟩
 refine ⟨rv,rfl,?_⟩
 let τ':=swap τ
 let μ':Mu:=⟨fun i => match look τ' i with
  | some j => μ1 j
  | none => μ i,μ1.sz,μ1.fz⟩
 have hτ':∀ i j,look τ' i = some j → (j,i) ∈ τ:=fun i j hl => look_swap_mem hl
 have hμle:μ.le μ':=by
  refine ⟨?_,fun i b hb => hkeep.ksz b (hr.bound i b hb),hkeep.kfz⟩
  intro i b hb
  simp only [μ']
  split
  ·rename_i j hj
   have:=hn i (hτ.mem _ _ (hτ' i j hj))
   rw [this] at hb;cases hb
  ·exact hb
 have hμother:∀ i,i ∉ τ.map (·.2) → μ' i = μ i:=by
  intro i hi
  simp only [μ']
  split
  ·rename_i j hj
   exact absurd (hτ.mem _ _ (hτ' i j hj)) hi
  ·rfl
 have hρ_cases:∀ j i,look (renBack σ τ) j = some i → ((i,j) ∈ σ ∧ look τ' i = none) ∨ ((j,i) ∈ τ ∧ look τ' i = some j ∧ look (swap σ) j = none):=by
  intro j i hl
  unfold renBack at hl
  rw [look_append] at hl
  cases e:look (swap σ) j with
  | some i' =>
   simp only [e,Option.some.injEq] at hl
   subst hl
   have hm:=look_swap_mem e
   refine .inl ⟨hm,?_⟩
   cases e2:look τ' i' with
   | none => rfl
   | some j' =>
    have:=hτ.fresh _ _ (hτ' i' j' e2)
    rw [hσ.forth i' j hm] at this
    cases this
  | none =>
   simp only [e] at hl
   have hm:=look_mem hl
   refine .inr ⟨hm,?_,rfl⟩
   have hex2:∃ j',look τ' i = some j':=by
    have hmem:(i,j) ∈ τ':=by
     show (i,j) ∈ swap τ
     unfold swap;simp;exact ⟨_,_,hm,rfl,rfl⟩
    clear_value τ'
    clear hτ' hμle hμother hl e
    induction τ' with
    | nil => simp at hmem
    | cons x r ih =>
     obtain ⟨p,q⟩:=x
     simp only [look]
     cases e:Nat.beq i p
     ·simp only [List.mem_cons,Prod.mk.injEq] at hmem
      rcases hmem with ⟨rfl,_⟩ | hmem
      ·exact absurd rfl (beq_ff e)
      ·simpa using ih hmem
     ·simp
   obtain ⟨j',hj'⟩:=hex2
   rw [hj',hτ.uniq _ _ _ (hτ' i j' hj') hm]
 have hρeq:∀ j i,look (renBack σ τ) j = some i → μ' i = μ1 j:=by
  intro j i hl
  rcases hρ_cases j i hl with ⟨hm,hnone⟩ | ⟨hm,hsome,_⟩
  ·simp only [μ',hnone]
   rw [hsame1 j (hσ.lt i j hm),μ0_of i j hm]
  ·simp only [μ',hsome]
 have hρμ:Renames (renBack σ τ) μ1 μ':=⟨fun j i b hl hb => by rw [hρeq j i hl];exact hb,fun _ _ _ => rfl,fun _ _ h => h⟩
 have hinj:∀ x y i,look (renBack σ τ) x = some i → look (renBack σ τ) y = some i → x = y:=by
  intro x y i hx hy
  rcases hρ_cases x i hx with ⟨hm,hnone⟩ | ⟨hm,hsome,_⟩ <;> rcases hρ_cases y i hy with ⟨hm',hnone'⟩ | ⟨hm',hsome',_⟩
  ·have h1:=hσ.forth i x hm
   have h2:=hσ.forth i y hm'
   rw [h1] at h2;simpa using h2
  ·rw [hnone] at hsome';cases hsome'
  ·rw [hsome] at hnone';cases hnone'
  ·rw [hsome] at hsome';simpa using hsome'
 simp only [app_append] at hk
 let hg':=app (goneEff H post σ) h
 have hgone:∀ i B,hg' i = some B → h i = some B ∧ ∀ j,(i,j) ∈ σ → lk post j = none → ∀ A,H i = some A → A.ro = true:=fun i B hB => gone_spec hB
 have happ:=fun i => postEff_app hinj hpe c3 hg' i
 have entry:∀ i B,app e hg' i = some B → (∃ j C,look (renBack σ τ) j = some i ∧ lk post j = some C ∧ B = rnB (renBack σ τ) C) ∨
   (hg' i = some B ∧ ∀ j,look (renBack σ τ) j = some i → lk post j = none):=by
  intro i B hB
  by_cases hex3:∃ j C,look (renBack σ τ) j = some i ∧ lk post j = some C
  ·obtain ⟨j,C,hj,hC⟩:=hex3
   have:=(happ i).1 j C hj hC
   rw [this] at hB
   exact .inl ⟨j,C,hj,hC,by simpa using hB.symm⟩
  ·have hno:∀ j,look (renBack σ τ) j = some i → lk post j = none:=by
    intro j hj
    cases hl:lk post j with
    | none => rfl
    | some C => exact absurd ⟨j,C,hj,hl⟩ hex3
   rw [(happ i).2 hno] at hB
   exact .inr ⟨hB,hno⟩
 have untouched:∀ i B b,hg' i = some B → μ i = some b → (∀ j,look (renBack σ τ) j = some i → lk post j = none) → ¬ Own μ0 (lk h0) b:=by
  rintro i B b hB0 hb hno ⟨j,A,hA,hAro,hj⟩
  obtain ⟨hB,hgo⟩:=hgone i B hB0
  obtain ⟨i',A',hm,hA',rfl⟩:=subHeap_lk hsub j A hA
  rw [← hHh i' j hm] at hA'
  rw [μ0_of i' j hm] at hj
  by_cases hii:i = i'
  ·subst hii
   have hback:look (renBack σ τ) j = some i:=by
    unfold renBack;rw [look_append,hσ.back i j hm]
   have hnp:=hno j hback
   have hro:A'.ro = true:=hgo j hm hnp A' (by rw [← hHh i j hm];exact hA')
   have hro':(rnB σ A').ro = A'.ro:=rfl
   rw [hro',hro] at hAro;cases hAro
  ·have:=(hr.apart i i' B A' b hB hA' hb hj hii).2
   have hro':(rnB σ A').ro = A'.ro:=rfl
   rw [hro',this] at hAro
   cases hAro
 have τnone:∀ i,(∀ j,look (renBack σ τ) j = some i → lk post j = none) → look τ' i = none:=by
  intro i hno
  cases e2:look τ' i with
  | none => rfl
  | some j =>
   have hm:=hτ' i j e2
   obtain ⟨⟨C,hC⟩,_⟩:=postHas_spec c4 j i hm
   rw [hno j (renBack_new hσ hτ c4 hm)] at hC;cases hC
 have oldback:∀ i B b,app e hg' i = some B → μ' i = some b → b < w.heap.size → ∃ i0 B0,h i0 = some B0 ∧ μ i0 = some b ∧ (B.ro = false → B0.ro = false):=by
  intro i B b hB hb hlt
  rcases entry i B hB with ⟨j,C,hj,hC,rfl⟩ | ⟨hB',hno⟩
  ·have hjb:μ1 j = some b:=by rw [← hρeq j i hj];exact hb
   obtain ⟨j0,A0,hA0,hm0,hr0⟩:=hkeep.old j C b hC hjb hlt
   obtain ⟨i',A',hm,hA',rfl⟩:=subHeap_lk hsub j0 A0 hA0
   rw [← hHh i' j0 hm] at hA'
   rw [μ0_of i' j0 hm] at hm0
   exact ⟨i',A',hA',hm0,hr0⟩
  ·have:μ' i = μ i:=by simp only [μ',τnone i hno]
   rw [this] at hb
   exact ⟨i,B,(hgone i B hB').1,hb,id⟩
 have mixed:∀ k B b j C,hg' k = some B → μ k = some b → (∀ j,look (renBack σ τ) j = some k → lk post j = none) → lk post j = some C → μ1 j = some b → C.ro = true ∧ B.ro = true:=by
  intro k B b j C hB0 hb hno hC hjb
  obtain ⟨hB,hgo⟩:=hgone k B hB0
  have hlt:=hr.bound k b hb
  obtain ⟨j0,A0,hA0,hm0,hr0⟩:=hkeep.old j C b hC hjb hlt
  obtain ⟨i',A',hm,hA',rfl⟩:=subHeap_lk hsub j0 A0 hA0
  rw [← hHh i' j0 hm] at hA'
  rw [μ0_of i' j0 hm] at hm0
  have hroA:(rnB σ A').ro = A'.ro:=rfl
  rw [hroA] at hr0
  have hA'ro:A'.ro = true → C.ro = true:=by
   intro ha
   cases hc:C.ro with
   | true => rfl
   | false => rw [hr0 hc] at ha;cases ha
  by_cases hki:k = i'
  ·subst hki
   rw [hB] at hA'
   obtain rfl:B = A':=by simpa using hA'
   have hback:look (renBack σ τ) j0 = some k:=by
    unfold renBack;rw [look_append,hσ.back k j0 hm]
   have hnp:=hno j0 hback
   have hro:B.ro = true:=hgo j0 hm hnp B (by rw [← hHh k j0 hm];exact hB)
   exact ⟨hA'ro hro,hro⟩
  ·have:=hr.apart k i' B A' b hB hA' hb hm0 hki
   exact ⟨hA'ro this.2,this.1⟩
 have hrepF:Rep μ' (app e hg') w':=by
  refine ⟨?_,?_,?_,?_,hrep1.frz,?_⟩
  ·intro i B hB hne
   rcases entry i B hB with ⟨j,C,hj,hC,rfl⟩ | ⟨hB',hno⟩
   ·obtain ⟨b,hb,hrel⟩:=hrep1.blk j C hC (by rw [rnB_size,hρeq j i hj] at hne;exact hne)
    exact ⟨b,hρμ j i b hj hb,rnB_rel hρμ hrel⟩
   ·have e1:μ' i = μ i:=by simp only [μ',τnone i hno]
    obtain ⟨b,hb,hrel⟩:=hr.blk i B (hgone i B hB').1 (by rw [e1] at hne;exact hne)
    refine ⟨b,by rw [e1];exact hb,?_⟩
    rw [hkeep.same b (hr.bound i b hb) (untouched i B b hB' hb hno)]
    exact hrel.mono hμle
  ·intro i k A B b hA hB hi hk' hne
   rcases entry i A hA with ⟨j,C,hj,hC,rfl⟩ | ⟨hA',hno⟩ <;> rcases entry k B hB with ⟨j',C',hj',hC',rfl⟩ | ⟨hB',hno'⟩
   ·rw [hρeq j i hj] at hi;rw [hρeq j' k hj'] at hk'
    have hjj:j ≠ j':=by
     rintro rfl
     rw [hj] at hj'
     exact hne (by simpa using hj')
    exact hrep1.apart j j' C C' b hC hC' hi hk' hjj
   ·rw [hρeq j i hj] at hi
    have e2:μ' k = μ k:=by simp only [μ',τnone k hno']
    rw [e2] at hk'
    exact mixed k B b j C hB' hk' hno' hC hi
   ·rw [hρeq j' k hj'] at hk'
    have e2:μ' i = μ i:=by simp only [μ',τnone i hno]
    rw [e2] at hi
    exact (mixed i A b j' C' hA' hi hno hC' hk').symm
   ·have e1:μ' i = μ i:=by simp only [μ',τnone i hno]
    have e2:μ' k = μ k:=by simp only [μ',τnone k hno']
    rw [e1] at hi;rw [e2] at hk'
    exact hr.apart i k A B b (hgone i A hA').1 (hgone k B hB').1 hi hk' hne
  ·intro i b hi
   simp only [μ'] at hi
   split at hi
   ·exact hrep1.bound _ _ hi
   ·exact Nat.lt_of_lt_of_le (hr.bound _ _ hi) hkeep.size
  ·intro i B b hB hro hi
   rcases entry i B hB with ⟨j,C,hj,hC,rfl⟩ | ⟨hB',hno⟩
   ·rw [hρeq j i hj] at hi
    exact hrep1.size j C b hC hro hi
   ·have e1:μ' i = μ i:=by simp only [μ',τnone i hno]
    rw [e1] at hi
    have hlt:=hr.bound i b hi
    obtain ⟨cs,t,fr,he,hs⟩:=hr.size i B b (hgone i B hB').1 hro hi
    exact ⟨cs,t,fr,by rw [hkeep.same b hlt (untouched i B b hB' hi hno)];exact he,hs.trans (hkeep.ksz b hlt).symm⟩
  ·intro i B b hB hro hi
   rcases entry i B hB with ⟨j,C,hj,hC,rfl⟩ | ⟨hB',hno⟩
   ·rw [hρeq j i hj] at hi
    exact hrep1.nofz j C b hC hro hi
   ·have e1:μ' i = μ i:=by simp only [μ',τnone i hno]
    rw [e1] at hi
    have hlt:=hr.bound i b hi
    cases hf:μ1.fz b with
    | none => rfl
    | some cs =>
     rcases hkeep.nfz b cs hf with h1 | h1 | h1
     ·have h2:=hr.nofz i B b (hgone i B hB').1 hro hi
      have h1':μ.fz b = some cs:=h1
      rw [h2] at h1';cases h1'
     ·exact (untouched i B b hB' hi hno h1).elim
     ·omega
 refine hk μ' w' rv hμle hμother hrepF (rn_rel hρμ 6 v rv hv) ⟨hkeep.os,hkeep.tape,hkeep.output,hkeep.size,?_,?_,hkeep.ksz,hkeep.kfz,?_⟩
 ·intro b hb hno
  refine hkeep.same b hb ?_
  rintro ⟨j,A,hA,hAro,hj⟩
  obtain ⟨i,A',hm,hA',rfl⟩:=subHeap_lk hsub j A hA
  rw [← hHh i j hm] at hA'
  rw [μ0_of i j hm] at hj
  exact hno ⟨i,A',hA',hAro,hj⟩
 ·intro i B b hB hi hb
  exact oldback i B b hB hi hb
 ·intro b cs hf
  rcases hkeep.nfz b cs hf with h1 | ⟨j,A,hA,hAro,hj⟩ | h1
  ·exact .inl h1
  ·obtain ⟨i,A',hm,hA',rfl⟩:=subHeap_lk hsub j A hA
   rw [← hHh i j hm] at hA'
   rw [μ0_of i j hm] at hj
   exact .inr (.inl ⟨i,A',hA',hAro,hj⟩)
  ·exact .inr (.inr h1)
theorem roH_some {l:List Nat} {h:HF} {i:Nat} {B:Blk} (e:roH l h i = some B):∃ B0,h i = some B0 ∧ ((memN i l = false ∧ B = B0) ∨ (memN i l = true ∧ B = B0.lend)):=by
 unfold roH at e
 cases hm:memN i l <;> rw [hm] at e
 ·exact ⟨B,e,.inl ⟨rfl,rfl⟩⟩
 ·cases hh:h i with
  | none => simp [hh] at e
  | some B0 => simp [hh] at e;exact ⟨B0,rfl,.inr ⟨rfl,e.symm⟩⟩
theorem app_lend {l : List Nat} : ∀ {eff : List (Nat × Upd)}, lendOk l eff = true → ∀ {h h' : HF}, (∀ i, memN i l = false → h i = h' i) →
    (∀ i, memN i l = false → app eff h i = app eff h' i) ∧ (∀ i, memN i l = true → app eff h i = h i) ∧ (∀ i B, app eff h i = some B → h i = some B ∨ B.ro = false)
  | [], _, h, h', he => ⟨he, fun _ _ => rfl, fun _ _ e => .inl e⟩
  | (k, u) :: r, hl, h, h', he => by
    simp only [lendOk, Bool.and_eq_true, Bool.not_eq_true'] at hl
    obtain ⟨⟨hk, hu⟩, hr⟩ := hl
    have hstep : ∀ i, memN i l = false → upd1 h (k, u) i = upd1 h' (k, u) i := by
      intro i hi
      by_cases hik : i = k
      · subst hik
        cases u with
        | blk B => rw [upd1_same, upd1_same]
        | del => rw [upd1_del, upd1_del]
        | cell o v => simp at hu
      · rw [upd1_other hik, upd1_other hik]; exact he i hi
    obtain ⟨a, b, c⟩ := app_lend hr hstep
    refine ⟨a, fun i hi => ?_, fun i B hB => ?_⟩
    · have hik : i ≠ k := by rintro rfl; rw [hk] at hi; cases hi
      simp only [app]
      rw [b i hi, upd1_other hik]
    · simp only [app] at hB
      rcases c i B hB with h1 | h1
      · by_cases hik : i = k
        · subst hik
          cases u with
          | blk B' => rw [upd1_same] at h1; obtain rfl : B' = B := by simpa using h1
                      exact .inr (by simpa using hu)
          | del => rw [upd1_del] at h1; cases h1
          | cell o v => simp at hu
        · rw [upd1_other hik] at h1; exact .inl h1
      · exact .inr h1
theorem app_lend_own {l : List Nat} : ∀ {eff : List (Nat × Upd)}, lendOk l eff = true → ∀ {h : HF} {i : Nat}, (∀ C, h i = some C → C.ro = false) → ∀ B, app eff h i = some B → B.ro = false
  | [], _, h, i, hp, B, e => hp B e
  | (k, u) :: r, hl, h, i, hp, B, e => by
    simp only [lendOk, Bool.and_eq_true, Bool.not_eq_true'] at hl
    obtain ⟨⟨hk, hu⟩, hr⟩ := hl
    refine app_lend_own hr (h := upd1 h (k, u)) (fun C hC => ?_) B e
    by_cases hik : i = k
    · subst hik
      cases u with
      | blk B' => rw [upd1_same] at hC; obtain rfl : B' = C := by simpa using hC
                  simpa using hu
      | del => rw [upd1_del] at hC; cases hC
      | cell o v => simp at hu
    · rw [upd1_other hik] at hC; exact hp C hC
theorem app_lend_new {l : List Nat} : ∀ {eff : List (Nat × Upd)}, lendOk l eff = true → ∀ {h : HF} {i : Nat}, (∃ x ∈ eff, x.1 = i) → ∀ B, app eff h i = some B → B.ro = false
  | [], _, h, i, ⟨x, hx, _⟩, B, e => by simp at hx
  | (k, u) :: r, hl, h, i, ⟨x, hx, hxi⟩, B, e => by
    have hl0 := hl
    simp only [lendOk, Bool.and_eq_true, Bool.not_eq_true'] at hl
    obtain ⟨⟨hk, hu⟩, hr⟩ := hl
    simp only [List.mem_cons] at hx
    rcases hx with rfl | hx
    · simp only at hxi
      subst hxi
      refine app_lend_own hr (h := upd1 h (k, u)) (fun C hC => ?_) B e
      cases u with
      | blk B' => rw [upd1_same] at hC; obtain rfl : B' = C := by simpa using hC
                  simpa using hu
      | del => rw [upd1_del] at hC; cases hC
      | cell o v => simp at hu
    · exact app_lend_new hr (h := upd1 h (k, u)) ⟨x, hx, hxi⟩ B e
theorem Rep.lend {μ:Mu} {h:HF} {w:World} (r:Rep μ h w) (l:List Nat):Rep μ (roH l h) w:=by
 refine ⟨?_,?_,r.bound,?_,r.frz,?_⟩
 ·intro i B e hne
  obtain ⟨B0,h0,hc⟩:=roH_some e
  obtain ⟨b,hb,cs,t,fr,ho,h1,h2⟩:=r.blk i B0 h0 (by
   rcases hc with ⟨_,rfl⟩ | ⟨_,rfl⟩
   ·exact hne
   ·exact hne)
  rcases hc with ⟨_,rfl⟩ | ⟨_,rfl⟩
  ·exact ⟨b,hb,cs,t,fr,ho,h1,h2⟩
  ·exact ⟨b,hb,cs,t,fr,ho,(by intro hro;cases hro),h2⟩
 ·intro i j A B b eA eB hi hj hij
  obtain ⟨A0,hA,cA⟩:=roH_some eA
  obtain ⟨B0,hB,cB⟩:=roH_some eB
  have:=r.apart i j A0 B0 b hA hB hi hj hij
  constructor
  ·rcases cA with ⟨_,rfl⟩ | ⟨_,rfl⟩
   ·exact this.1
   ·rfl
  ·rcases cB with ⟨_,rfl⟩ | ⟨_,rfl⟩
   ·exact this.2
   ·rfl
 ·intro i B b e hro hb
  obtain ⟨B0,h0,hc⟩:=roH_some e
  rcases hc with ⟨_,rfl⟩ | ⟨_,rfl⟩
  ·exact r.size i _ b h0 hro hb
  ·cases hro
 ·intro i B b e hro hb
  obtain ⟨B0,h0,hc⟩:=roH_some e
  rcases hc with ⟨_,rfl⟩ | ⟨_,rfl⟩
  ·exact r.nofz i _ b h0 hro hb
  ·cases hro
theorem Own.lend {μ:Mu} {h:HF} {l:List Nat} {b:Nat} (o:Own μ (roH l h) b):Own μ h b:=by
 obtain ⟨i,B,e,hro,hb⟩:=o
 obtain ⟨B0,h0,hc⟩:=roH_some e
 rcases hc with ⟨_,rfl⟩ | ⟨_,rfl⟩
 ·exact ⟨i,_,h0,hro,hb⟩
 ·cases hro
theorem xcallA_ok {P:Program} {o:Oper} {ρ:Operand → Value} {H h:HF} {n:Nat} {g:FuncId} {args:List Value} {hs:List Hint} {out:Out} (hG:P.globals.size ≤ 1000) (hx:xcallA P H n g args hs = some out) (hob:∀ q ∈ out.ob,q)
  (hrd:∀ i ∈ out.rd,h i = H i)
  (hrun:∀ (μ:Mu) (a:Act) (w:World),(∀ x ∈ o.op.operands,VRel μ (ρ x) (a.eval x)) → ∃ rargs,VRels μ args rargs ∧ (execOp a.eval o).run P w = (callFunc g ⟨rargs⟩).run P w):OpSpec P o ρ h out:=by
 unfold xcallA at hx
 split at hx
 case h_3 => exact xcall_ok hG hx hob hrd hrun
 case h_2 v hs' =>
  simp only [Option.some.injEq] at hx;subst hx
  have he:ExtSpec P g args v:=hob _ (by simp)
  refine OpSpec.silent (ob:=[ExtSpec P g args v]) fun μ a w hg hxs => ?_
  obtain ⟨rargs,hr,hr2⟩:=hrun μ a w hxs
  have e:=VRels.eq_of_solids he.1 hr
  subst e
  exact ⟨v,by rw [hr2,he.2.2 w],.of_solid he.2.1⟩
 case h_1 σ l τ n0 v post hs' =>
 split at hx
 case h_2 => simp at hx
 case h_1 out' hx' =>
 cases hc:lendOk l out'.eff <;> rw [hc] at hx
 ·simp at hx
 simp only [cond_true,Option.some.injEq] at hx
 subst hx
 have base:=xcall_ok (h:=roH l h) hG hx' hob (fun i hi => by unfold roH;rw [hrd i hi]) hrun
 intro μ a w hg hxs hr hn K Q hk
 refine base μ a w hg hxs (hr.lend l) hn K Q ?_
 intro μ' w' rv hle hot hrep hv hkeep
 have hagree:∀ i,memN i l = false → roH l h i = h i:=fun i hi => by unfold roH;rw [hi];rfl
 obtain ⟨e1,e2,e3⟩:=app_lend hc hagree
 have e2h:=(app_lend hc (h:=h) (h':=h) fun _ _ => rfl).2.1
 have e3h:=(app_lend hc (h:=h) (h':=h) fun _ _ => rfl).2.2
 have lnew:∀ i,memN i l = true → μ' i = μ i:=by
  intro i hi
  refine hot i fun hmem => ?_
  have key:∀ {eff:List (Nat × Upd)},lendOk l eff = true → ∀ x ∈ eff,memN x.1 l = false:=by
   intro eff
   induction eff with
   | nil => intro _ x hx;simp at hx
   | cons y r ih =>
    obtain ⟨k,u⟩:=y
    intro hl x hx
    simp only [lendOk,Bool.and_eq_true,Bool.not_eq_true'] at hl
    simp only [List.mem_cons] at hx
    rcases hx with rfl | hx
    ·exact hl.1.1
    ·exact ih hl.2 x hx
  obtain ⟨x,hx,hxi⟩:=xcall_neweff hx' i hmem
  have:=key hc x hx
  rw [hxi,hi] at this;cases this
 have up:∀ i B,memN i l = false → app out'.eff h i = some B → app out'.eff (roH l h) i = some B:=fun i B hi e => by rw [e1 i hi];exact e
 have lone:∀ i B b,memN i l = true → h i = some B → B.ro = false → μ i = some b → ¬ Own μ (roH l h) b:=by
  rintro i B b hi hB hro hb ⟨j,C,hC,hCro,hj⟩
  obtain ⟨C0,hC0,hcc⟩:=roH_some hC
  rcases hcc with ⟨hjl,rfl⟩ | ⟨_,rfl⟩
  ·by_cases hij:i = j
   ·subst hij;rw [hi] at hjl;cases hjl
   ·have:=(hr.apart i j B _ b hB hC0 hb hj hij).1
    rw [hro] at this;cases this
  ·cases hCro
 have same:∀ i B b,memN i l = true → h i = some B → B.ro = false → μ i = some b → w'.heap[b]? = w.heap[b]?:=fun i B b hi hB hro hb => hkeep.same b (hr.bound i b hb) (lone i B b hi hB hro hb)
 have oldH:∀ i B b,app out'.eff h i = some B → μ' i = some b → b < w.heap.size → ∃ i0 B0,h i0 = some B0 ∧ μ i0 = some b ∧ (B.ro = false → B0.ro = false):=by
  intro i B b hB hb hlt
  cases hi:memN i l with
  | true =>
   rw [e2h i hi] at hB
   exact ⟨i,B,hB,by rw [← lnew i hi];exact hb,id⟩
  | false =>
   obtain ⟨i0,B0,h0,m0,r0⟩:=hkeep.old i B b (up i B hi hB) hb hlt
   obtain ⟨C0,hC0,hcc⟩:=roH_some h0
   refine ⟨i0,C0,hC0,m0,fun hro => ?_⟩
   rcases hcc with ⟨_,rfl⟩ | ⟨_,rfl⟩
   ·exact r0 hro
   ·have:=r0 hro;cases this
 have mix:∀ i k A B b,memN i l = true → memN k l = false → h i = some A → A.ro = false → app out'.eff h k = some B → μ i = some b → μ' k = some b → False:=by
  intro i k A B b hi hk' hA hro hB hb hkb
  have hik:i ≠ k:=by rintro rfl;rw [hi] at hk';cases hk'
  have hcase:(h k = some B ∧ μ' k = μ k) ∨ B.ro = false:=by
   by_cases hkn:k ∈ out'.new
   ·exact .inr (app_lend_new hc (xcall_neweff hx' k hkn) B hB)
   ·rcases e3h k B hB with h1 | h1
    ·exact .inl ⟨h1,hot k hkn⟩
    ·exact .inr h1
  rcases hcase with ⟨h1,hk2⟩ | h1
  ·rw [hkb] at hk2
   have:=(hr.apart i k A B b hA h1 hb hk2.symm hik).1
   rw [hro] at this;cases this
  ·obtain ⟨i0,B0,h0,m0,r0⟩:=hkeep.old k B b (up k B hk' hB) hkb (hr.bound i b hb)
   exact lone i A b hi hA hro hb ⟨i0,B0,h0,r0 h1,m0⟩
 have lentName:∀ i B b,memN i l = true → h i = some B → μ' i = some b → μ i = some b:=by
  intro i B b hi hB hb
  rw [← lnew i hi];exact hb
 have lrd:∀ i B,memN i l = true → h i = some B → roH l h i = some B.lend:=fun i B hi hB => by unfold roH;rw [hi,hB];rfl
 refine hk μ' w' rv hle hot ?_ hv ?_
 ·refine ⟨?_,?_,hrep.bound,?_,hrep.frz,?_⟩
  ·intro i B hB hne
   cases hi:memN i l with
   | false => exact hrep.blk i B (up i B hi hB) hne
   | true =>
    rw [e2h i hi] at hB
    obtain ⟨b,hb,hrel⟩:=hr.blk i B hB (by rw [lnew i hi] at hne;exact hne)
    refine ⟨b,hle i b hb,?_⟩
    cases hro:B.ro with
    | false => rw [same i B b hi hB hro hb];exact hrel.mono hle
    | true =>
     obtain ⟨b',hb',cs,t,fr,ho,_,h2⟩:=hrep.blk i B.lend (by rw [e2 i hi];exact lrd i B hi hB) (.inr (by rw [hle i b hb];exact fun h => nomatch h))
     rw [hle i b hb] at hb'
     obtain rfl:b = b':=by simpa using hb'
     exact ⟨cs,t,fr,ho,(by intro h;rw [hro] at h;cases h),h2⟩
  ·intro i k A B b hA hB hib hkb hne
   cases hi:memN i l with
   | false =>
    cases hk':memN k l with
    | false => exact hrep.apart i k A B b (up i A hi hA) (up k B hk' hB) hib hkb hne
    | true =>
     have hB':=hB
     rw [e2h k hk'] at hB'
     have hb:=lentName k B b hk' hB' hkb
     cases hro:B.ro with
     | false => exact (mix k i B A b hk' hi hB' hro hA hb hib).elim
     | true =>
      have:=hrep.apart i k A B.lend b (up i A hi hA) (by rw [e2 k hk'];exact lrd k B hk' hB') hib hkb hne
      exact ⟨this.1,rfl⟩
   | true =>
    have hA':=hA
    rw [e2h i hi] at hA'
    have hb:=lentName i A b hi hA' hib
    cases hk':memN k l with
    | false =>
     cases hro:A.ro with
     | false => exact (mix i k A B b hi hk' hA' hro hB hb hkb).elim
     | true =>
      have:=hrep.apart i k A.lend B b (by rw [e2 i hi];exact lrd i A hi hA') (up k B hk' hB) hib hkb hne
      exact ⟨rfl,this.2⟩
    | true =>
     have hB':=hB
     rw [e2h k hk'] at hB'
     exact hr.apart i k A B b hA' hB' hb (lentName k B b hk' hB' hkb) hne
  ·intro i B b hB hro hib
   cases hi:memN i l with
   | false => exact hrep.size i B b (up i B hi hB) hro hib
   | true =>
    rw [e2h i hi] at hB
    have hb:=lentName i B b hi hB hib
    obtain ⟨cs,t,fr,ho,hs⟩:=hr.size i B b hB hro hb
    exact ⟨cs,t,fr,by rw [same i B b hi hB hro hb];exact ho,by rw [hs,hle.szs i b hb]⟩
  ·intro i B b hB hro hib
   cases hi:memN i l with
   | false => exact hrep.nofz i B b (up i B hi hB) hro hib
   | true =>
    rw [e2h i hi] at hB
    have hb:=lentName i B b hi hB hib
    cases hf:μ'.fz b with
    | none => rfl
    | some cs =>
     rcases hkeep.nfz b cs hf with h1 | h1 | h1
     ·rw [hr.nofz i B b hB hro hb] at h1;cases h1
     ·exact absurd h1 (lone i B b hi hB hro hb)
     ·exact absurd (hr.bound i b hb) (by omega)
 ·exact ⟨hkeep.os,hkeep.tape,hkeep.output,hkeep.size,fun b hb ho => hkeep.same b hb fun o => ho o.lend,oldH,hkeep.ksz,hkeep.kfz,
   fun b cs h => (hkeep.nfz b cs h).imp id (Or.imp Own.lend id)⟩
end Go.Proofs.Ytgnhhnmpeklciaa.VX
