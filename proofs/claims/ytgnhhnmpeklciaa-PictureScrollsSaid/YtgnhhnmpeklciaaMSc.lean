/-
  Texts laid together: VN, VO, VT, VR, VY, PA, PB, PX, PC, PD, PE, PF, PG, PH, PI. No condition.
-/
import Derived.Handed
import Derived.IntWalk
import Derived.LaidLaws
import Derived.LaidMore
import Derived.LaidSub
import Derived.Lay
import Derived.OpenShut
import Derived.Stop.Joined
import Derived.Test.YtgnhhnmpeklciaaRows
import Derived.Test.YtgnhhnmpeklciaaMSb
set_option linter.unusedVariables false
set_option linter.unusedSimpArgs false
set_option linter.unusedSectionVars false
set_option maxRecDepth 100000
set_option maxHeartbeats 4000000
namespace Go.Proofs.Ytgnhhnmpeklciaa.VX
open Go
noncomputable def allN (f:Nat → Bool) (k:Nat):Nat → Bool:=
 Nat.rec (motive:=fun _ => Nat → Bool) f (fun _ ih b => Bool.rec false (ih (2 * b + 1)) (ih (2 * b))) k
theorem allN_spec {f:Nat → Bool}:∀ {k b:Nat},allN f k b = true → ∀ i,b * 2 ^ k ≤ i → i < (b + 1) * 2 ^ k → f i = true
 | 0,b,h,i,h1,h2 => by
  have:i = b:=by simp at h1 h2;omega
  subst this;exact h
 | k + 1,b,h,i,h1,h2 => by
  have e:allN f (k + 1) b = Bool.rec false (allN f k (2 * b + 1)) (allN f k (2 * b)):=rfl
  rw [e] at h
  cases ha:allN f k (2 * b) with
  | false => rw [ha] at h;cases h
  | true =>
   rw [ha] at h
   have h:allN f k (2 * b + 1) = true:=h
   rw [Nat.pow_succ] at h1 h2
   rcases Nat.lt_or_ge i ((2 * b + 1) * 2 ^ k) with h3 | h3
   ·refine allN_spec ha i ?_ h3
    have:2 * b * 2 ^ k = b * (2 ^ k * 2):=by rw [Nat.mul_comm 2 b,Nat.mul_assoc,Nat.mul_comm 2]
    omega
   ·refine allN_spec h i h3 ?_
    have:(2 * b + 1 + 1) * 2 ^ k = (b + 1) * (2 ^ k * 2):=by
     rw [show 2 * b + 1 + 1 = (b + 1) * 2 by omega,Nat.mul_assoc,Nat.mul_comm 2]
    omega
theorem allN_nat {f:Nat → Bool} {k:Nat} (h:allN f k 0 = true) (i:Nat) (hi:i < 2 ^ k):f i = true:=allN_spec h i (by simp) (by simpa using hi)
theorem allN_int {f:Nat → Bool} {k:Nat} (h:allN f k 0 = true) (x:Int) (h0:0 ≤ x) (hx:x < 2 ^ k):f x.toNat = true:=by
 refine allN_nat h _ ?_
 have:(x.toNat:Int) < ((2 ^ k:Nat):Int):=by rw [Int.toNat_of_nonneg h0];simpa using hx
 exact_mod_cast this
theorem wf_u8 {n:Int} (h:(Lit.int .u8 n).wf = true):0 ≤ n ∧ n < 256:=by
 simp only [Lit.wf,Bool.and_eq_true,decide_eq_true_eq] at h;exact ⟨h.1,Int.lt_of_le_of_lt h.2 (by decide)⟩
end Go.Proofs.Ytgnhhnmpeklciaa.VX
namespace Go.Proofs.Ytgnhhnmpeklciaa.VX
open Go
def small:IntKind → Bool
 | .u8 | .u16 => true
 | _ => false
theorem ofInt_nat {w a:Nat} (h:a < 2 ^ w):(BitVec.ofInt w (a:Int)).toNat = a:=by
 rw [BitVec.toNat_ofInt]
 have:((a:Int) % ((2 ^ w:Nat):Int)) = ((a % 2 ^ w:Nat):Int):=by norm_cast
 rw [this,Int.toNat_natCast,Nat.mod_eq_of_lt h]
theorem wrap_nat {k:IntKind} (hk:small k = true) {a:Nat} (h:a < 2 ^ k.bits):k.wrap (a:Int) = a:=by
 cases k <;> simp [small] at hk
 ·exact IntWalk.u8_in _ (by simp [IntKind.bits] at h;omega)
 ·exact IntWalk.u16_in _ (by simp [IntKind.bits] at h;omega)
theorem and_nat {k:IntKind} (hk:small k = true) {a b:Nat} (ha:a < 2 ^ k.bits) (hb:b < 2 ^ k.bits):bAnd k a b = ((a &&& b:Nat):Int):=by
 unfold bAnd
 rw [BitVec.toNat_and,ofInt_nat ha,ofInt_nat hb]
 exact wrap_nat hk (Nat.lt_of_le_of_lt Nat.and_le_left ha)
theorem or_nat {k:IntKind} (hk:small k = true) {a b:Nat} (ha:a < 2 ^ k.bits) (hb:b < 2 ^ k.bits):bOr k a b = ((a ||| b:Nat):Int):=by
 unfold bOr
 rw [BitVec.toNat_or,ofInt_nat ha,ofInt_nat hb]
 exact wrap_nat hk (Nat.or_lt_two_pow ha hb)
theorem xor_nat {k:IntKind} (hk:small k = true) {a b:Nat} (ha:a < 2 ^ k.bits) (hb:b < 2 ^ k.bits):bXor k a b = ((a ^^^ b:Nat):Int):=by
 unfold bXor
 rw [BitVec.toNat_xor,ofInt_nat ha,ofInt_nat hb]
 exact wrap_nat hk (Nat.xor_lt_two_pow ha hb)
theorem or_add {x y:Nat} (h:x &&& y = 0):x ||| y = x + y:=by
 have hx:x < 2 ^ (x + y + 1):=Nat.lt_of_lt_of_le Nat.lt_two_pow_self (Nat.pow_le_pow_right (by omega) (by omega))
 have hy:y < 2 ^ (x + y + 1):=Nat.lt_of_lt_of_le Nat.lt_two_pow_self (Nat.pow_le_pow_right (by omega) (by omega))
 have hz:x + y < 2 ^ (x + y + 1):=Nat.lt_of_lt_of_le Nat.lt_two_pow_self (Nat.pow_le_pow_right (by omega) (by omega))
 have e:=BitVec.add_eq_or_of_and_eq_zero (BitVec.ofNat (x + y + 1) x) (BitVec.ofNat (x + y + 1) y) (by
  apply BitVec.eq_of_toNat_eq
  rw [BitVec.toNat_and,BitVec.toNat_ofNat,BitVec.toNat_ofNat,Nat.mod_eq_of_lt hx,Nat.mod_eq_of_lt hy,h];rfl)
 have e2:=congrArg BitVec.toNat e
 rw [BitVec.toNat_or,BitVec.toNat_add,BitVec.toNat_ofNat,BitVec.toNat_ofNat,Nat.mod_eq_of_lt hx,Nat.mod_eq_of_lt hy,Nat.mod_eq_of_lt hz] at e2
 exact e2.symm
theorem and_field (a p n:Nat):a &&& (2 ^ p * (2 ^ n - 1)) = a / 2 ^ p % 2 ^ n * 2 ^ p:=by
 apply Nat.eq_of_testBit_eq
 intro i
 rw [Nat.testBit_and,Nat.testBit_two_pow_mul,Nat.testBit_two_pow_sub_one,Nat.testBit_mul_two_pow,Nat.testBit_mod_two_pow,Nat.testBit_div_two_pow]
 by_cases h:p ≤ i
 ·simp [h,show i - p + p = i by omega,Bool.and_comm]
 ·simp [h]
theorem andnot_nat {k:IntKind} (hk:small k = true) {a b:Nat} (ha:a < 2 ^ k.bits) (hb:b < 2 ^ k.bits):bAndNot k a b = ((a - (a &&& b):Nat):Int):=by
 unfold bAndNot
 have e:(BitVec.ofInt k.bits (a:Int) &&& ~~~BitVec.ofInt k.bits (b:Int)).toNat = a - (a &&& b):=by
  have h1:((BitVec.ofInt k.bits (a:Int) &&& ~~~BitVec.ofInt k.bits (b:Int)) ||| (BitVec.ofInt k.bits (a:Int) &&& BitVec.ofInt k.bits (b:Int))).toNat = a:=by
   rw [← BitVec.and_or_distrib_left,BitVec.or_comm,BitVec.or_not_self,BitVec.and_allOnes,ofInt_nat ha]
  have h2:(BitVec.ofInt k.bits (a:Int) &&& ~~~BitVec.ofInt k.bits (b:Int)).toNat &&& (BitVec.ofInt k.bits (a:Int) &&& BitVec.ofInt k.bits (b:Int)).toNat = 0:=by
   rw [← BitVec.toNat_and]
   have:(BitVec.ofInt k.bits (a:Int) &&& ~~~BitVec.ofInt k.bits (b:Int)) &&& (BitVec.ofInt k.bits (a:Int) &&& BitVec.ofInt k.bits (b:Int)) = 0#k.bits:=by
    apply BitVec.eq_of_getLsbD_eq
    intro i hi
    simp only [BitVec.getLsbD_and,BitVec.getLsbD_not,BitVec.getLsbD_zero]
    cases (BitVec.ofInt k.bits (a:Int)).getLsbD i <;> cases (BitVec.ofInt k.bits (b:Int)).getLsbD i <;> simp
   rw [this];rfl
  rw [BitVec.toNat_or,or_add h2,BitVec.toNat_and (BitVec.ofInt k.bits (a:Int)) (BitVec.ofInt k.bits (b:Int)),ofInt_nat ha,ofInt_nat hb] at h1
  omega
 rw [e]
 exact wrap_nat hk (by omega)
theorem and_split (a m:Nat):(a - (a &&& m)) &&& m = 0:=by
 have:a - (a &&& m) = a &&& (a ^^^ (a &&& m)):=by
  have h1:(a &&& (a ^^^ (a &&& m))) ||| (a &&& m) = a:=by
   apply Nat.eq_of_testBit_eq
   intro i
   simp only [Nat.testBit_or,Nat.testBit_and,Nat.testBit_xor]
   cases a.testBit i <;> cases m.testBit i <;> rfl
  have h2:(a &&& (a ^^^ (a &&& m))) &&& (a &&& m) = 0:=by
   apply Nat.eq_of_testBit_eq
   intro i
   simp only [Nat.testBit_and,Nat.testBit_xor,Nat.zero_testBit]
   cases a.testBit i <;> cases m.testBit i <;> rfl
  have:=or_add h2
  omega
 rw [this]
 apply Nat.eq_of_testBit_eq
 intro i
 simp only [Nat.testBit_and,Nat.testBit_xor,Nat.zero_testBit]
 cases a.testBit i <;> cases m.testBit i <;> rfl
theorem and_put (a b m:Nat):(a - (a &&& m)) &&& (b &&& m) = 0:=by
 have h:(a - (a &&& m)) &&& (b &&& m) = ((a - (a &&& m)) &&& m) &&& b:=by
  rw [Nat.and_comm b m,Nat.and_assoc]
 rw [h,and_split,Nat.zero_and]
theorem xor_bit (a p:Nat):a ^^^ 2 ^ p = a + 2 ^ p - 2 * (a / 2 ^ p % 2 * 2 ^ p):=by
 have hf:=and_field a p 1
 simp only [show 2 ^ 1 - 1 = 1 from rfl,Nat.mul_one,show 2 ^ 1 = 2 from rfl] at hf
 have h1:(a ^^^ 2 ^ p) = (a - (a &&& 2 ^ p)) ||| (2 ^ p - (2 ^ p &&& (a &&& 2 ^ p))):=by
  have e:∀ x y:Nat,x - (x &&& y) = x &&& (x ^^^ y):=by
   intro x y
   have h1:(x &&& (x ^^^ y)) ||| (x &&& y) = x:=by
    apply Nat.eq_of_testBit_eq
    intro i
    simp only [Nat.testBit_or,Nat.testBit_and,Nat.testBit_xor]
    cases x.testBit i <;> cases y.testBit i <;> rfl
   have h2:(x &&& (x ^^^ y)) &&& (x &&& y) = 0:=by
    apply Nat.eq_of_testBit_eq
    intro i
    simp only [Nat.testBit_and,Nat.testBit_xor,Nat.zero_testBit]
    cases x.testBit i <;> cases y.testBit i <;> rfl
   have:=or_add h2
   omega
  rw [e,e]
  apply Nat.eq_of_testBit_eq
  intro i
  simp only [Nat.testBit_or,Nat.testBit_and,Nat.testBit_xor]
  cases a.testBit i <;> cases (2 ^ p).testBit i <;> rfl
 have h3:(a - (a &&& 2 ^ p)) &&& (2 ^ p - (2 ^ p &&& (a &&& 2 ^ p))) = 0:=by
  have:2 ^ p - (2 ^ p &&& (a &&& 2 ^ p)) = 2 ^ p - (2 ^ p &&& (a &&& 2 ^ p)) &&& 2 ^ p:=by
   rw [hf]
   rcases Nat.mod_two_eq_zero_or_one (a / 2 ^ p) with h | h <;> rw [h] <;> simp
  rw [this]
  exact and_put a _ _
 rw [h1,or_add h3,hf]
 have hle:a / 2 ^ p % 2 * 2 ^ p ≤ a:=by rw [← hf];exact Nat.and_le_left
 rcases Nat.mod_two_eq_zero_or_one (a / 2 ^ p) with h | h <;> rw [h] at hle ⊢
 ·simp
 ·simp at hle ⊢;omega
theorem and_low {a b n:Nat} (h:b < 2 ^ n):(a * 2 ^ n) &&& b = 0:=by
 have:=Nat.two_pow_add_eq_or_of_lt h a
 apply Nat.eq_of_testBit_eq
 intro i
 rw [Nat.testBit_and,Nat.testBit_mul_two_pow,Nat.zero_testBit]
 by_cases hi:n ≤ i
 ·rw [Nat.testBit_lt_two_pow (Nat.lt_of_lt_of_le h (Nat.pow_le_pow_right (by omega) hi))];simp
 ·simp [hi]
theorem bAnd_field {k:IntKind} (hk:small k = true) (p n:Nat) {a m:Int} (hm:m = ((2 ^ p * (2 ^ n - 1):Nat):Int)) (h0:0 ≤ a) (h1:a < ((2 ^ k.bits:Nat):Int)) (hb:2 ^ p * (2 ^ n - 1) < 2 ^ k.bits) :
  bAnd k a m = a / ((2 ^ p:Nat):Int) % ((2 ^ n:Nat):Int) * ((2 ^ p:Nat):Int):=by
 obtain ⟨x,rfl⟩:=Int.eq_ofNat_of_zero_le h0
 subst hm
 rw [and_nat hk (by exact_mod_cast h1) hb,and_field]
 norm_cast
theorem bAndNot_eq {k:IntKind} (hk:small k = true) {a m:Int} (h0:0 ≤ a) (h1:a < ((2 ^ k.bits:Nat):Int)) (hm0:0 ≤ m) (hm1:m < ((2 ^ k.bits:Nat):Int)):bAndNot k a m = a - bAnd k a m:=by
 obtain ⟨x,rfl⟩:=Int.eq_ofNat_of_zero_le h0
 obtain ⟨y,rfl⟩:=Int.eq_ofNat_of_zero_le hm0
 rw [andnot_nat hk (by exact_mod_cast h1) (by exact_mod_cast hm1),and_nat hk (by exact_mod_cast h1) (by exact_mod_cast hm1)]
 have:x &&& y ≤ x:=Nat.and_le_left
 omega
theorem bOr_put {k:IntKind} (hk:small k = true) {a b m:Int} (h0:0 ≤ a) (h1:a < ((2 ^ k.bits:Nat):Int)) (hb0:0 ≤ b) (hb1:b < ((2 ^ k.bits:Nat):Int)) (hm0:0 ≤ m) (hm1:m < ((2 ^ k.bits:Nat):Int)) :
  bOr k (bAndNot k a m) (bAnd k b m) = a - bAnd k a m + bAnd k b m:=by
 obtain ⟨x,rfl⟩:=Int.eq_ofNat_of_zero_le h0
 obtain ⟨y,rfl⟩:=Int.eq_ofNat_of_zero_le hm0
 obtain ⟨z,rfl⟩:=Int.eq_ofNat_of_zero_le hb0
 have hx:x < 2 ^ k.bits:=by exact_mod_cast h1
 have hy:y < 2 ^ k.bits:=by exact_mod_cast hm1
 have hz:z < 2 ^ k.bits:=by exact_mod_cast hb1
 rw [andnot_nat hk hx hy,and_nat hk hx hy,and_nat hk hz hy,or_nat hk (by omega) (Nat.lt_of_le_of_lt Nat.and_le_left hz),or_add (and_put x z y)]
 have:x &&& y ≤ x:=Nat.and_le_left
 omega
theorem bOr_low {k:IntKind} (hk:small k = true) (n:Nat) {a b:Int} (h0:0 ≤ a) (h1:a < ((2 ^ k.bits:Nat):Int)) (hb0:0 ≤ b) (hb1:b < ((2 ^ n:Nat):Int)) (hd:a % ((2 ^ n:Nat):Int) = 0) (hn:2 ^ n ≤ 2 ^ k.bits) :
  bOr k a b = a + b:=by
 obtain ⟨x,rfl⟩:=Int.eq_ofNat_of_zero_le h0
 obtain ⟨y,rfl⟩:=Int.eq_ofNat_of_zero_le hb0
 have hx:x < 2 ^ k.bits:=by exact_mod_cast h1
 have hy:y < 2 ^ n:=by exact_mod_cast hb1
 have hd:x % 2 ^ n = 0:=by exact_mod_cast hd
 rw [or_nat hk hx (by omega),or_add ?_]
 ·norm_cast
 ·have e:x = x / 2 ^ n * 2 ^ n:=by have:=Nat.div_add_mod x (2 ^ n);rw [hd,Nat.add_zero,Nat.mul_comm] at this;exact this.symm
  rw [e]
  exact and_low hy
theorem bXor_bit {k:IntKind} (hk:small k = true) (p:Nat) {a m:Int} (hm:m = ((2 ^ p:Nat):Int)) (h0:0 ≤ a) (h1:a < ((2 ^ k.bits:Nat):Int)) (hb:2 ^ p < 2 ^ k.bits) :
  bXor k a m = a + m - 2 * (a / m % 2 * m):=by
 obtain ⟨x,rfl⟩:=Int.eq_ofNat_of_zero_le h0
 subst hm
 rw [xor_nat hk (by exact_mod_cast h1) hb,xor_bit]
 have hle:x / 2 ^ p % 2 * 2 ^ p ≤ x:=by
  have:=and_field x p 1
  simp only [show 2 ^ 1 - 1 = 1 from rfl,Nat.mul_one,show 2 ^ 1 = 2 from rfl] at this
  rw [← this];exact Nat.and_le_left
 have h2:x / 2 ^ p % 2 * 2 ^ p ≤ 2 ^ p:=by
  rcases Nat.mod_two_eq_zero_or_one (x / 2 ^ p) with h | h <;> rw [h] <;> simp
 have:2 * (x / 2 ^ p % 2 * 2 ^ p) ≤ x + 2 ^ p:=by omega
 rw [Int.ofNat_sub this]
 norm_cast
end Go.Proofs.Ytgnhhnmpeklciaa.VX
namespace Go.Proofs.Ytgnhhnmpeklciaa.VX
open Go
def rng (n:Nat) (x:Int):Prop:=0 ≤ x ∧ x < (n:Int)
instance (n:Nat) (x:Int):Decidable (rng n x):=inferInstanceAs (Decidable (_ ∧ _))
theorem toNat_lt {n:Nat} {x:Int} (h:rng n x):x.toNat < n:=by obtain ⟨h1,h2⟩:=h;omega
theorem rng_wrap_u8 (e:Int):rng 256 (IntKind.u8.wrap e):=by
 have h:IntKind.u8.wrap e = e % 256:=by simp [IntKind.wrap,IntKind.signed,IntKind.bits]
 rw [h];exact ⟨by omega,by omega⟩
theorem rng_wrap_u16 (e:Int):rng 65536 (IntKind.u16.wrap e):=by
 have h:IntKind.u16.wrap e = e % 65536:=by simp [IntKind.wrap,IntKind.signed,IntKind.bits]
 rw [h];exact ⟨by omega,by omega⟩
theorem rng_bAnd_u8 (a b:Int):rng 256 (bAnd .u8 a b):=rng_wrap_u8 _
theorem rng_bOr_u8 (a b:Int):rng 256 (bOr .u8 a b):=rng_wrap_u8 _
theorem rng_bAndNot_u8 (a b:Int):rng 256 (bAndNot .u8 a b):=rng_wrap_u8 _
theorem rng_bAnd_u16 (a b:Int):rng 65536 (bAnd .u16 a b):=rng_wrap_u16 _
theorem rng_bOr_u16 (a b:Int):rng 65536 (bOr .u16 a b):=rng_wrap_u16 _
theorem rng_bXor_u16 (a b:Int):rng 65536 (bXor .u16 a b):=rng_wrap_u16 _
theorem rng_bAndNot_u16 (a b:Int):rng 65536 (bAndNot .u16 a b):=rng_wrap_u16 _
theorem rng_upd {n:Nat} {f:Nat → Int} (p:∀ j,rng n (f j)) (o:Nat) {x:Int} (q:rng n x):∀ j,rng n (upd f o x j):=by
 intro j
 unfold upd
 cases Nat.beq j o
 ·exact p j
 ·exact q
theorem lit_e_e {x a b:Int} (h:(x == a) = true) (n:a ≠ b):(x == b) = false:=by simp at h ⊢;omega
end Go.Proofs.Ytgnhhnmpeklciaa.VX
namespace Go.Proofs.Ytgnhhnmpeklciaa.VX
open Go Go.RowKit Go.WideShapes Go.ChangeShapes Go.WideElems
section
variable {H:Type} {enc:TypeId × Value → H} {P:Program}
end
end Go.Proofs.Ytgnhhnmpeklciaa.VX
namespace Go.Proofs.Ytgnhhnmpeklciaa.VX
open Go
end Go.Proofs.Ytgnhhnmpeklciaa.VX
namespace Go.Proofs.Ytgnhhnmpeklciaa
open Go VX
abbrev sl (i n z:Nat):Value:=.slice (some ⟨i,0,some 0⟩) n z
abbrev sd (i d n:Nat):Value:=.slice (some ⟨i,0,some d⟩) n 0
abbrev pt (i:Nat):Value:=.pointer (some ⟨i,0,none⟩)
abbrev iB (n:Nat) (f:Nat → Int) (b:Bool):Blk:=⟨[.ints .u8 n f],5,b⟩
abbrev gB (d n:Nat) (f:Nat → Int):Blk:=⟨[.gap d,.ints .u8 n f],5,true⟩
open Go.IntKind (i64 u8 u16)
theorem hG:Try.prog.globals.size ≤ 1000:=of_decide_eq_true (by kernel_rfl)
theorem hM:Try.prog.follows .mixedOrders = true:=by kernel_rfl
theorem bt (b:Bool):b = true ∨ b = false:=by cases b <;> simp
theorem nt {b:Bool} (h:b = false):¬ b = true:=by rw [h];decide
structure Scroll where
 V:Int
 T:Int
 X:Int
 W:Bool
def Scroll.enc (s:Scroll):Value:=.agg ⟨[.int .u16 s.V,.int .u16 s.T,.int .u8 s.X,.bool s.W]⟩
def Scroll.blk (s:Scroll):Blk:=⟨[.one (.int .u16 s.V),.one (.int .u16 s.T),.one (.int .u8 s.X),.one (.bool s.W)],75,false⟩
def Scroll.cells (s:Scroll):List Value:=[.int .u16 s.V,.int .u16 s.T,.int .u8 s.X,.bool s.W]
structure Scroll.ok (s:Scroll):Prop where
 V:rng 65536 s.V
 T:rng 65536 s.T
 X:rng 256 s.X
def right (s:Scroll):Scroll:=
 ({ V:=(bAnd .u16 s.V 32767),T:=(bAnd .u16 s.T 32767),X:=(bAnd .u8 s.X 7),W:=s.W }:Scroll)
theorem right_ok (s:Scroll):FnSpec Try.prog 63 1000 [Scroll.enc s] [] (Scroll.enc (right s)) []:=by
 unfold right
 exact fn_of_x hG hM Try.func63 (by kernel_rfl) (by kernel_rfl) 400 [] trivial (by kernel_rfl)
theorem right_w (s:Scroll) (w_s:Scroll.ok s):Scroll.ok (right s):=by
 unfold right
 exact (⟨(rng_bAnd_u16 s.V 32767),(rng_bAnd_u16 s.T 32767),(rng_bAnd_u8 s.X 7)⟩:Scroll.ok ({ V:=(bAnd .u16 s.V 32767),T:=(bAnd .u16 s.T 32767),X:=(bAnd .u8 s.X 7),W:=s.W }:Scroll))
def put (a:Int) (m:Int) (b:Int):Int:=
 (bOr .u16 (bAndNot .u16 a m) (bAnd .u16 b m))
theorem put_ok (a:Int) (m:Int) (b:Int):FnSpec Try.prog 69 1000 [.int .u16 a,.int .u16 m,.int .u16 b] [] (.int .u16 (put a m b)) []:=by
 unfold put
 exact fn_of_x hG hM Try.func69 (by kernel_rfl) (by kernel_rfl) 400 [] trivial (by kernel_rfl)
theorem put_w (a:Int) (m:Int) (b:Int) (w_a:rng 65536 a) (w_m:rng 65536 m) (w_b:rng 65536 b):rng 65536 (put a m b):=by
 unfold put
 exact (rng_bOr_u16 (bAndNot .u16 a m) (bAnd .u16 b m))
def sControl (s:Scroll) (b:Int):Scroll:=
 ({ (right s) with T:=(put ((right s).T) 3072 (bShl .u16 (u16.wrap b) 10)) }:Scroll)
theorem sControl_ok (s:Scroll) (b:Int):FnSpec Try.prog 46 1000 [Scroll.enc s,.int .u8 b] [] (Scroll.enc (sControl s b)) []:=by
 unfold sControl
 exact fn_of_x hG hM Try.func46 (by kernel_rfl) (by kernel_rfl) 400 [.call [] [] 1000 (Scroll.enc (right s)) [],.call [] [] 1000 (.int .u16 (put ((right s).T) 3072 (bShl .u16 (u16.wrap b) 10))) []] (J (right_ok s) (J (by decide:(0:Int) ≤ 10) (J (put_ok ((right s).T) 3072 (bShl .u16 (u16.wrap b) 10)) trivial))) (by kernel_rfl)
def sOffset (s:Scroll) (b:Int):Scroll:=
 if (right s).W = true then
  ({ (right s) with T:=(put (put ((right s).T) 992 (bShl .u16 (bShr .u16 (u16.wrap b) 3) 5)) 28672 (bShl .u16 (u16.wrap b) 12)),W:=(!((right s).W)) }:Scroll)
 else
  ({ V:=(right s).V,T:=(put ((right s).T) 31 (bShr .u16 (u16.wrap b) 3)),X:=(bAnd .u8 b 7),W:=(!((right s).W)) }:Scroll)
theorem sOffset_ok (s:Scroll) (b:Int):FnSpec Try.prog 47 1000 [Scroll.enc s,.int .u8 b] [] (Scroll.enc (sOffset s b)) []:=by
 unfold sOffset
 rcases bt ((right s).W) with c1 | c1
 ·rw [if_pos c1]
  exact fn_of_x hG hM Try.func47 (by kernel_rfl) (by kernel_rfl) 400 [.call [] [] 1000 (Scroll.enc (right s)) [],.yes,.call [] [] 1000 (.int .u16 (put ((right s).T) 992 (bShl .u16 (bShr .u16 (u16.wrap b) 3) 5))) [],.call [] [] 1000 (.int .u16 (put (put ((right s).T) 992 (bShl .u16 (bShr .u16 (u16.wrap b) 3) 5)) 28672 (bShl .u16 (u16.wrap b) 12))) []] (J (right_ok s) (J c1 (J (by decide:(0:Int) ≤ 3) (J (by decide:(0:Int) ≤ 5) (J (put_ok ((right s).T) 992 (bShl .u16 (bShr .u16 (u16.wrap b) 3) 5)) (J (by decide:(0:Int) ≤ 12) (J (put_ok (put ((right s).T) 992 (bShl .u16 (bShr .u16 (u16.wrap b) 3) 5)) 28672 (bShl .u16 (u16.wrap b) 12)) trivial))))))) (by kernel_rfl)
 ·rw [if_neg (nt c1)]
  exact fn_of_x hG hM Try.func47 (by kernel_rfl) (by kernel_rfl) 400 [.call [] [] 1000 (Scroll.enc (right s)) [],.no,.call [] [] 1000 (.int .u16 (put ((right s).T) 31 (bShr .u16 (u16.wrap b) 3))) []] (J (right_ok s) (J c1 (J (by decide:(0:Int) ≤ 3) (J (put_ok ((right s).T) 31 (bShr .u16 (u16.wrap b) 3)) trivial)))) (by kernel_rfl)
def sAddress (s:Scroll) (b:Int):Scroll:=
 if (right s).W = true then
  ({ V:=(put ((right s).T) 255 (u16.wrap b)),T:=(put ((right s).T) 255 (u16.wrap b)),X:=(right s).X,W:=(!((right s).W)) }:Scroll)
 else
  ({ (right s) with T:=(put ((right s).T) 32512 (bShl .u16 (u16.wrap (bAnd .u8 b 63)) 8)),W:=(!((right s).W)) }:Scroll)
theorem sAddress_ok (s:Scroll) (b:Int):FnSpec Try.prog 48 1000 [Scroll.enc s,.int .u8 b] [] (Scroll.enc (sAddress s b)) []:=by
 unfold sAddress
 rcases bt ((right s).W) with c1 | c1
 ·rw [if_pos c1]
  exact fn_of_x hG hM Try.func48 (by kernel_rfl) (by kernel_rfl) 400 [.call [] [] 1000 (Scroll.enc (right s)) [],.yes,.call [] [] 1000 (.int .u16 (put ((right s).T) 255 (u16.wrap b))) []] (J (right_ok s) (J c1 (J (put_ok ((right s).T) 255 (u16.wrap b)) trivial))) (by kernel_rfl)
 ·rw [if_neg (nt c1)]
  exact fn_of_x hG hM Try.func48 (by kernel_rfl) (by kernel_rfl) 400 [.call [] [] 1000 (Scroll.enc (right s)) [],.no,.call [] [] 1000 (.int .u16 (put ((right s).T) 32512 (bShl .u16 (u16.wrap (bAnd .u8 b 63)) 8))) []] (J (right_ok s) (J c1 (J (by decide:(0:Int) ≤ 8) (J (put_ok ((right s).T) 32512 (bShl .u16 (u16.wrap (bAnd .u8 b 63)) 8)) trivial)))) (by kernel_rfl)
def sLook (s:Scroll):Scroll:=
 ({ (right s) with W:=false }:Scroll)
theorem sLook_ok (s:Scroll):FnSpec Try.prog 38 1000 [Scroll.enc s] [] (Scroll.enc (sLook s)) []:=by
 unfold sLook
 exact fn_of_x hG hM Try.func38 (by kernel_rfl) (by kernel_rfl) 400 [.call [] [] 1000 (Scroll.enc (right s)) []] (J (right_ok s) trivial) (by kernel_rfl)
theorem sLook_w (s:Scroll) (w_s:Scroll.ok s):Scroll.ok (sLook s):=by
 unfold sLook
 exact (⟨(right_w s w_s).V,(right_w s w_s).T,(right_w s w_s).X⟩:Scroll.ok ({ (right s) with W:=false }:Scroll))
def sStep (s:Scroll) (far:Bool):Scroll:=
 if far = true then
  (right ({ s with V:=(u16.wrap ((u16.wrap (s.V + 1)) + 31)) }:Scroll))
 else
  (right ({ s with V:=(u16.wrap (s.V + 1)) }:Scroll))
theorem sStep_ok (s:Scroll) (far:Bool):FnSpec Try.prog 40 1000 [Scroll.enc s,.bool far] [] (Scroll.enc (sStep s far)) []:=by
 unfold sStep
 rcases bt far with c1 | c1
 ·rw [if_pos c1]
  exact fn_of_x hG hM Try.func40 (by kernel_rfl) (by kernel_rfl) 400 [.yes,.call [] [] 1000 (Scroll.enc (right ({ s with V:=(u16.wrap ((u16.wrap (s.V + 1)) + 31)) }:Scroll))) []] (J c1 (J (right_ok ({ s with V:=(u16.wrap ((u16.wrap (s.V + 1)) + 31)) }:Scroll)) trivial)) (by kernel_rfl)
 ·rw [if_neg (nt c1)]
  exact fn_of_x hG hM Try.func40 (by kernel_rfl) (by kernel_rfl) 400 [.no,.call [] [] 1000 (Scroll.enc (right ({ s with V:=(u16.wrap (s.V + 1)) }:Scroll))) []] (J c1 (J (right_ok ({ s with V:=(u16.wrap (s.V + 1)) }:Scroll)) trivial)) (by kernel_rfl)
theorem sStep_w (s:Scroll) (far:Bool) (w_s:Scroll.ok s):Scroll.ok (sStep s far):=by
 unfold sStep
 rcases bt far with c1 | c1
 ·rw [if_pos c1]
  exact (right_w ({ s with V:=(u16.wrap ((u16.wrap (s.V + 1)) + 31)) }:Scroll) (⟨(rng_wrap_u16 ((u16.wrap (s.V + 1)) + 31)),w_s.T,w_s.X⟩:Scroll.ok ({ s with V:=(u16.wrap ((u16.wrap (s.V + 1)) + 31)) }:Scroll)))
 ·rw [if_neg (nt c1)]
  exact (right_w ({ s with V:=(u16.wrap (s.V + 1)) }:Scroll) (⟨(rng_wrap_u16 (s.V + 1)),w_s.T,w_s.X⟩:Scroll.ok ({ s with V:=(u16.wrap (s.V + 1)) }:Scroll)))
def sRight (s:Scroll):Scroll:=
 if ((bAnd .u16 ((right s).V) 31) == 31) = true then
  ({ (right s) with V:=(bXor .u16 (bAndNot .u16 ((right s).V) 31) 1024) }:Scroll)
 else
  ({ (right s) with V:=(u16.wrap ((right s).V + 1)) }:Scroll)
theorem sRight_ok (s:Scroll):FnSpec Try.prog 75 1000 [Scroll.enc s] [] (Scroll.enc (sRight s)) []:=by
 unfold sRight
 rcases bt ((bAnd .u16 ((right s).V) 31) == 31) with c1 | c1
 ·rw [if_pos c1]
  exact fn_of_x hG hM Try.func75 (by kernel_rfl) (by kernel_rfl) 400 [.call [] [] 1000 (Scroll.enc (right s)) [],.yes] (J (right_ok s) (J c1 trivial)) (by kernel_rfl)
 ·rw [if_neg (nt c1)]
  exact fn_of_x hG hM Try.func75 (by kernel_rfl) (by kernel_rfl) 400 [.call [] [] 1000 (Scroll.enc (right s)) [],.no] (J (right_ok s) (J c1 trivial)) (by kernel_rfl)
theorem sRight_w (s:Scroll) (w_s:Scroll.ok s):Scroll.ok (sRight s):=by
 unfold sRight
 rcases bt ((bAnd .u16 ((right s).V) 31) == 31) with c1 | c1
 ·rw [if_pos c1]
  exact (⟨(rng_bXor_u16 (bAndNot .u16 ((right s).V) 31) 1024),(right_w s w_s).T,(right_w s w_s).X⟩:Scroll.ok ({ (right s) with V:=(bXor .u16 (bAndNot .u16 ((right s).V) 31) 1024) }:Scroll))
 ·rw [if_neg (nt c1)]
  exact (⟨(rng_wrap_u16 ((right s).V + 1)),(right_w s w_s).T,(right_w s w_s).X⟩:Scroll.ok ({ (right s) with V:=(u16.wrap ((right s).V + 1)) }:Scroll))
def sDown (s:Scroll):Scroll:=
 if ((bAnd .u16 ((right s).V) 28672) != 28672) = true then
  ({ (right s) with V:=(u16.wrap ((right s).V + 4096)) }:Scroll)
 else
  if ((bAnd .u16 (bAndNot .u16 ((right s).V) 28672) 992) == 928) = true then
   ({ (right s) with V:=(bXor .u16 (bAndNot .u16 (bAndNot .u16 ((right s).V) 28672) 992) 2048) }:Scroll)
  else
   if ((bAnd .u16 (bAndNot .u16 ((right s).V) 28672) 992) == 992) = true then
    ({ (right s) with V:=(bAndNot .u16 (bAndNot .u16 ((right s).V) 28672) 992) }:Scroll)
   else
    ({ (right s) with V:=(u16.wrap ((bAndNot .u16 ((right s).V) 28672) + 32)) }:Scroll)
abbrev PAk0 (s:Scroll):=(bAndNot .u16 ((right s).V) 28672)
theorem sDown_ok (s:Scroll):FnSpec Try.prog 74 1000 [Scroll.enc s] [] (Scroll.enc (sDown s)) []:=by
 unfold sDown
 rcases bt ((bAnd .u16 ((right s).V) 28672) != 28672) with c1 | c1
 ·rw [if_pos c1]
  exact fn_of_x hG hM Try.func74 (by kernel_rfl) (by kernel_rfl) 400 [.call [] [] 1000 (Scroll.enc (right s)) [],.yes] (J (right_ok s) (J c1 trivial)) (by kernel_rfl)
 ·rw [if_neg (nt c1)]
  rcases bt ((bAnd .u16 (PAk0 s) 992) == 928) with c2 | c2
  ·rw [if_pos c2]
   exact fn_of_x hG hM Try.func74 (by kernel_rfl) (by kernel_rfl) 400 [.call [] [] 1000 (Scroll.enc (right s)) [],.no,.yes] (J (right_ok s) (J c1 (J c2 trivial))) (by kernel_rfl)
  ·rw [if_neg (nt c2)]
   rcases bt ((bAnd .u16 (PAk0 s) 992) == 992) with c3 | c3
   ·rw [if_pos c3]
    exact fn_of_x hG hM Try.func74 (by kernel_rfl) (by kernel_rfl) 400 [.call [] [] 1000 (Scroll.enc (right s)) [],.no,.no,.yes] (J (right_ok s) (J c1 (J c2 (J c3 trivial)))) (by kernel_rfl)
   ·rw [if_neg (nt c3)]
    exact fn_of_x hG hM Try.func74 (by kernel_rfl) (by kernel_rfl) 400 [.call [] [] 1000 (Scroll.enc (right s)) [],.no,.no,.no] (J (right_ok s) (J c1 (J c2 (J c3 trivial)))) (by kernel_rfl)
theorem sDown_w (s:Scroll) (w_s:Scroll.ok s):Scroll.ok (sDown s):=by
 unfold sDown
 rcases bt ((bAnd .u16 ((right s).V) 28672) != 28672) with c1 | c1
 ·rw [if_pos c1]
  exact (⟨(rng_wrap_u16 ((right s).V + 4096)),(right_w s w_s).T,(right_w s w_s).X⟩:Scroll.ok ({ (right s) with V:=(u16.wrap ((right s).V + 4096)) }:Scroll))
 ·rw [if_neg (nt c1)]
  rcases bt ((bAnd .u16 (PAk0 s) 992) == 928) with c2 | c2
  ·rw [if_pos c2]
   exact (⟨(rng_bXor_u16 (bAndNot .u16 (PAk0 s) 992) 2048),(right_w s w_s).T,(right_w s w_s).X⟩:Scroll.ok ({ (right s) with V:=(bXor .u16 (bAndNot .u16 (PAk0 s) 992) 2048) }:Scroll))
  ·rw [if_neg (nt c2)]
   rcases bt ((bAnd .u16 (PAk0 s) 992) == 992) with c3 | c3
   ·rw [if_pos c3]
    exact (⟨(rng_bAndNot_u16 (PAk0 s) 992),(right_w s w_s).T,(right_w s w_s).X⟩:Scroll.ok ({ (right s) with V:=(bAndNot .u16 (PAk0 s) 992) }:Scroll))
   ·rw [if_neg (nt c3)]
    exact (⟨(rng_wrap_u16 ((PAk0 s) + 32)),(right_w s w_s).T,(right_w s w_s).X⟩:Scroll.ok ({ (right s) with V:=(u16.wrap ((PAk0 s) + 32)) }:Scroll))
def sLine (s:Scroll):Scroll:=
 ({ (right s) with V:=(put ((right s).V) 1055 ((right s).T)) }:Scroll)
theorem sLine_ok (s:Scroll):FnSpec Try.prog 73 1000 [Scroll.enc s] [] (Scroll.enc (sLine s)) []:=by
 unfold sLine
 exact fn_of_x hG hM Try.func73 (by kernel_rfl) (by kernel_rfl) 400 [.call [] [] 1000 (Scroll.enc (right s)) [],.call [] [] 1000 (.int .u16 (put ((right s).V) 1055 ((right s).T))) []] (J (right_ok s) (J (put_ok ((right s).V) 1055 ((right s).T)) trivial)) (by kernel_rfl)
theorem sLine_w (s:Scroll) (w_s:Scroll.ok s):Scroll.ok (sLine s):=by
 unfold sLine
 exact (⟨(put_w ((right s).V) 1055 ((right s).T) ((right_w s w_s).V) (by decide:rng 65536 1055) ((right_w s w_s).T)),(right_w s w_s).T,(right_w s w_s).X⟩:Scroll.ok ({ (right s) with V:=(put ((right s).V) 1055 ((right s).T)) }:Scroll))
def sTop (s:Scroll):Scroll:=
 ({ (right s) with V:=(put ((right s).V) 31712 ((right s).T)) }:Scroll)
theorem sTop_ok (s:Scroll):FnSpec Try.prog 72 1000 [Scroll.enc s] [] (Scroll.enc (sTop s)) []:=by
 unfold sTop
 exact fn_of_x hG hM Try.func72 (by kernel_rfl) (by kernel_rfl) 400 [.call [] [] 1000 (Scroll.enc (right s)) [],.call [] [] 1000 (.int .u16 (put ((right s).V) 31712 ((right s).T))) []] (J (right_ok s) (J (put_ok ((right s).V) 31712 ((right s).T)) trivial)) (by kernel_rfl)
theorem sTop_w (s:Scroll) (w_s:Scroll.ok s):Scroll.ok (sTop s):=by
 unfold sTop
 exact (⟨(put_w ((right s).V) 31712 ((right s).T) ((right_w s w_s).V) (by decide:rng 65536 31712) ((right_w s w_s).T)),(right_w s w_s).T,(right_w s w_s).X⟩:Scroll.ok ({ (right s) with V:=(put ((right s).V) 31712 ((right s).T)) }:Scroll))
def sName (s:Scroll):Int:=
 (bOr .u16 8192 (bAnd .u16 s.V 4095))
theorem sName_ok (s:Scroll):FnSpec Try.prog 87 1000 [Scroll.enc s] [] (.int .u16 (sName s)) []:=by
 unfold sName
 exact fn_of_x hG hM Try.func87 (by kernel_rfl) (by kernel_rfl) 400 [] trivial (by kernel_rfl)
theorem sName_w (s:Scroll) (w_s:Scroll.ok s):rng 65536 (sName s):=by
 unfold sName
 exact (rng_bOr_u16 8192 (bAnd .u16 s.V 4095))
def sShade (s:Scroll):Int × Int:=
 ((bOr .u16 (bOr .u16 (bOr .u16 9152 (bAnd .u16 s.V 3072)) (bShl .u16 (bShr .u16 (bShr .u16 (bAnd .u16 s.V 992) 5) 2) 3)) (bShr .u16 (bAnd .u16 s.V 31) 2)),(u8.wrap (bOr .u16 (bAnd .u16 (bAnd .u16 s.V 31) 2) (bShl .u16 (bAnd .u16 (bShr .u16 (bAnd .u16 s.V 992) 5) 2) 1))))
theorem sShade_ok (s:Scroll):FnSpec Try.prog 89 1000 [Scroll.enc s] [] (.tuple ⟨[.int .u16 ((sShade s).1),.int .u8 ((sShade s).2)]⟩) []:=by
 unfold sShade
 exact fn_of_x hG hM Try.func89 (by kernel_rfl) (by kernel_rfl) 400 [] (J (by decide:(0:Int) ≤ 5) (J (by decide:(0:Int) ≤ 2) (J (by decide:(0:Int) ≤ 3) (J (by decide:(0:Int) ≤ 2) (J (by decide:(0:Int) ≤ 1) trivial))))) (by kernel_rfl)
theorem sShade_w2 (s:Scroll) (w_s:Scroll.ok s):rng 256 (sShade s).2:=by
 unfold sShade
 exact (rng_wrap_u8 (bOr .u16 (bAnd .u16 (bAnd .u16 s.V 31) 2) (bShl .u16 (bAnd .u16 (bShr .u16 (bAnd .u16 s.V 992) 5) 2) 1)))
def sRow (s:Scroll):Int:=
 (u8.wrap (bShr .u16 (bAnd .u16 s.V 28672) 12))
theorem sRow_ok (s:Scroll):FnSpec Try.prog 88 1000 [Scroll.enc s] [] (.int .u8 (sRow s)) []:=by
 unfold sRow
 exact fn_of_x hG hM Try.func88 (by kernel_rfl) (by kernel_rfl) 400 [] (J (by decide:(0:Int) ≤ 12) trivial) (by kernel_rfl)
def mirror (a:Int) (u:Bool):Int:=
 if (!u) = true then
  (bOr .u16 (bAnd .u16 a 1023) (bAnd .u16 (bShr .u16 a 1) 1024))
 else
  (bAnd .u16 a 2047)
theorem mirror_ok (a:Int) (u:Bool):FnSpec Try.prog 64 1000 [.int .u16 a,.bool u] [] (.int .u16 (mirror a u)) []:=by
 unfold mirror
 rcases bt (!u) with c1 | c1
 ·rw [if_pos c1]
  exact fn_of_x hG hM Try.func64 (by kernel_rfl) (by kernel_rfl) 400 [.yes] (J c1 (J (by decide:(0:Int) ≤ 1) trivial)) (by kernel_rfl)
 ·rw [if_neg (nt c1)]
  exact fn_of_x hG hM Try.func64 (by kernel_rfl) (by kernel_rfl) 400 [.no] (J c1 trivial) (by kernel_rfl)
def colour (a:Int):Int:=
 if ((bAnd .u8 (u8.wrap (bAnd .u16 a 31)) 19) == 16) = true then
  (bAndNot .u8 (u8.wrap (bAnd .u16 a 31)) 16)
 else
  (u8.wrap (bAnd .u16 a 31))
theorem colour_ok (a:Int):FnSpec Try.prog 66 1000 [.int .u16 a] [] (.int .u8 (colour a)) []:=by
 unfold colour
 rcases bt ((bAnd .u8 (u8.wrap (bAnd .u16 a 31)) 19) == 16) with c1 | c1
 ·rw [if_pos c1]
  exact fn_of_x hG hM Try.func66 (by kernel_rfl) (by kernel_rfl) 400 [.yes] (J c1 trivial) (by kernel_rfl)
 ·rw [if_neg (nt c1)]
  exact fn_of_x hG hM Try.func66 (by kernel_rfl) (by kernel_rfl) 400 [.no] (J c1 trivial) (by kernel_rfl)
def two (low:Int) (high:Int) (a:Int):Int:=
 if ((bAnd .u8 (bShl .u8 low a) 128) != 0) = true then
  if ((bAnd .u8 (bShl .u8 high a) 128) != 0) = true then
   3
  else
   1
 else
  if ((bAnd .u8 (bShl .u8 high a) 128) != 0) = true then
   2
  else
   0
theorem two_ok (low:Int) (high:Int) (a:Int) (ha:0 ≤ a):FnSpec Try.prog 90 1000 [.int .u8 low,.int .u8 high,.int .i64 a] [] (.int .u8 (two low high a)) []:=by
 unfold two
 rcases bt ((bAnd .u8 (bShl .u8 low a) 128) != 0) with c1 | c1
 ·rw [if_pos c1]
  rcases bt ((bAnd .u8 (bShl .u8 high a) 128) != 0) with c2 | c2
  ·rw [if_pos c2]
   exact fn_of_x hG hM Try.func90 (by kernel_rfl) (by kernel_rfl) 400 [.yes,.yes] (J ha (J c1 (J ha (J c2 trivial)))) (by kernel_rfl)
  ·rw [if_neg (nt c2)]
   exact fn_of_x hG hM Try.func90 (by kernel_rfl) (by kernel_rfl) 400 [.yes,.no] (J ha (J c1 (J ha (J c2 trivial)))) (by kernel_rfl)
 ·rw [if_neg (nt c1)]
  rcases bt ((bAnd .u8 (bShl .u8 high a) 128) != 0) with c2 | c2
  ·rw [if_pos c2]
   exact fn_of_x hG hM Try.func90 (by kernel_rfl) (by kernel_rfl) 400 [.no,.yes] (J ha (J c1 (J ha (J c2 trivial)))) (by kernel_rfl)
  ·rw [if_neg (nt c2)]
   exact fn_of_x hG hM Try.func90 (by kernel_rfl) (by kernel_rfl) 400 [.no,.no] (J ha (J c1 (J ha (J c2 trivial)))) (by kernel_rfl)
end Go.Proofs.Ytgnhhnmpeklciaa
namespace Go.Proofs.Ytgnhhnmpeklciaa
open Go VX
open Go.IntKind (i64 u8 u16)
structure Sprite where
 low:Int
 high:Int
 look:Int
 x:Int
 first:Bool
def Sprite.enc (s:Sprite):Value:=.agg ⟨[.int .u8 s.low,.int .u8 s.high,.int .u8 s.look,.int .u8 s.x,.bool s.first]⟩
def Sprite.blk (s:Sprite):Blk:=⟨[.one (.int .u8 s.low),.one (.int .u8 s.high),.one (.int .u8 s.look),.one (.int .u8 s.x),.one (.bool s.first)],92,false⟩
def Sprite.cells (s:Sprite):List Value:=[.int .u8 s.low,.int .u8 s.high,.int .u8 s.look,.int .u8 s.x,.bool s.first]
structure Sprite.ok (s:Sprite):Prop where
 low:rng 256 s.low
 high:rng 256 s.high
 look:rng 256 s.look
 x:rng 256 s.x
def Sprite.nil:Sprite:=⟨0,0,0,0,false⟩
abbrev sB (l:List Sprite) (b:Bool):Blk:=⟨[rowsL Sprite.cells Sprite.nil 5 l],92,b⟩
theorem Sprite_snoc (L:List Sprite) (x:Sprite):addSegs [rowsL Sprite.cells Sprite.nil 5 L] (Sprite.cells x) = [rowsL Sprite.cells Sprite.nil 5 (L ++ [x])]:=rowsL_snoc L x rfl
structure Pic where
 tiles:Nat → Int
 names:Nat → Int
 colours:Nat → Int
 men:Nat → Int
 man:Int
 scroll:Scroll
 control:Int
 mask:Int
 flags:Int
 waits:Int
 bus:Int
 upright:Bool
 line:Int
 dot:Int
 odd:Bool
 frames:Int
 screen:Nat → Int
structure Pic.ok (s:Pic):Prop where
 tiles:∀ j,rng 256 (s.tiles j)
 names:∀ j,rng 256 (s.names j)
 colours:∀ j,rng 256 (s.colours j)
 men:∀ j,rng 256 (s.men j)
 man:rng 256 s.man
 scroll:Scroll.ok s.scroll
 control:rng 256 s.control
 mask:rng 256 s.mask
 flags:rng 256 s.flags
 waits:rng 256 s.waits
 bus:rng 256 s.bus
 screen:∀ j,rng 256 (s.screen j)
def Pic.bl (s:Pic) (v0:Value) (ro:Bool):Blk:=⟨[.ints .u8 8192 s.tiles,.ints .u8 2048 s.names,.ints .u8 32 s.colours,.ints .u8 256 s.men,.one (.int .u8 s.man),.one (.int .u16 s.scroll.V),.one (.int .u16 s.scroll.T),.one (.int .u8 s.scroll.X),.one (.bool s.scroll.W),.one (.int .u8 s.control),.one (.int .u8 s.mask),.one (.int .u8 s.flags),.one (.int .u8 s.waits),.one (.int .u8 s.bus),.one (.bool s.upright),.one (.int .i64 s.line),.one (.int .i64 s.dot),.one (.bool s.odd),.one (.int .i64 s.frames),.one v0,.ints .u8 61440 s.screen],79,ro⟩
def pShows (p:Pic) (pC:List Sprite):Bool:=
 ((bAnd .u8 p.mask 24) != 0)
theorem pShows_ok (p:Pic) (pC:List Sprite):FnSpec Try.prog 50 1002 [pt 1000] [(1000,(Pic.bl p (sl 1001 (List.length pC) 5) true)),(1001,sB pC true)] (.bool (pShows p pC)) []:=by
 unfold pShows
 exact fn_of_x hG hM Try.func50 (by kernel_rfl) (by kernel_rfl) 400 [] trivial (by kernel_rfl)
def pHeight (p:Pic) (pC:List Sprite):Int:=
 if ((bAnd .u8 p.control 32) != 0) = true then
  16
 else
  8
theorem pHeight_ok (p:Pic) (pC:List Sprite):FnSpec Try.prog 76 1002 [pt 1000] [(1000,(Pic.bl p (sl 1001 (List.length pC) 5) true)),(1001,sB pC true)] (.int .i64 (pHeight p pC)) []:=by
 unfold pHeight
 rcases bt ((bAnd .u8 p.control 32) != 0) with c1 | c1
 ·rw [if_pos c1]
  exact fn_of_x hG hM Try.func76 (by kernel_rfl) (by kernel_rfl) 400 [.yes] (J c1 trivial) (by kernel_rfl)
 ·rw [if_neg (nt c1)]
  exact fn_of_x hG hM Try.func76 (by kernel_rfl) (by kernel_rfl) 400 [.no] (J c1 trivial) (by kernel_rfl)
def pNMI (p:Pic) (pC:List Sprite):Bool:=
 if ((bAnd .u8 p.flags 128) != 0) = true then
  ((bAnd .u8 p.control 128) != 0)
 else
  false
theorem pNMI_ok (p:Pic) (pC:List Sprite):FnSpec Try.prog 24 1002 [pt 1000] [(1000,(Pic.bl p (sl 1001 (List.length pC) 5) true)),(1001,sB pC true)] (.bool (pNMI p pC)) []:=by
 unfold pNMI
 rcases bt ((bAnd .u8 p.flags 128) != 0) with c1 | c1
 ·rw [if_pos c1]
  exact fn_of_x hG hM Try.func24 (by kernel_rfl) (by kernel_rfl) 400 [.yes,.yes,.yes,.yes,.yes,.yes,.yes,.yes,.yes,.yes,.yes,.yes,.yes,.yes] (J T1 (J T1 (J T1 (J T1 (J T1 (J T1 (J T1 (J c1 (J c1 (J c1 (J c1 (J c1 (J c1 (J c1 trivial)))))))))))))) (by kernel_rfl)
 ·rw [if_neg (nt c1)]
  exact fn_of_x hG hM Try.func24 (by kernel_rfl) (by kernel_rfl) 400 [.yes,.yes,.yes,.yes,.yes,.yes,.yes,.no,.no,.no,.no,.no,.no,.no] (J T1 (J T1 (J T1 (J T1 (J T1 (J T1 (J T1 (J c1 (J c1 (J c1 (J c1 (J c1 (J c1 (J c1 trivial)))))))))))))) (by kernel_rfl)
def pDot (p:Pic) (pC:List Sprite):Int × Int:=
 (p.line,p.dot)
theorem pDot_ok (p:Pic) (pC:List Sprite):FnSpec Try.prog 34 1002 [pt 1000] [(1000,(Pic.bl p (sl 1001 (List.length pC) 5) true)),(1001,sB pC true)] (.tuple ⟨[.int .i64 ((pDot p pC).1),.int .i64 ((pDot p pC).2)]⟩) []:=by
 unfold pDot
 exact fn_of_x hG hM Try.func34 (by kernel_rfl) (by kernel_rfl) 400 [.no] (J T0 trivial) (by kernel_rfl)
def pFrame (p:Pic) (pC:List Sprite):Int:=
 p.frames
theorem pFrame_ok (p:Pic) (pC:List Sprite):FnSpec Try.prog 22 1002 [pt 1000] [(1000,(Pic.bl p (sl 1001 (List.length pC) 5) true)),(1001,sB pC true)] (.int .i64 (pFrame p pC)) []:=by
 unfold pFrame
 exact fn_of_x hG hM Try.func22 (by kernel_rfl) (by kernel_rfl) 400 [.no] (J T0 trivial) (by kernel_rfl)
def pUpright (p:Pic) (pC:List Sprite) (on:Bool):Pic:=
 ({ p with upright:=on }:Pic)
theorem pUpright_ok (p:Pic) (pC:List Sprite) (on:Bool):FnSpec Try.prog 31 1002 [pt 1000,.bool on] [(1000,(Pic.bl p (sl 1001 (List.length pC) 5) false)),(1001,sB pC false)] (.tuple ⟨[]⟩) [(1000,(Pic.bl (pUpright p pC on) (sl 1001 (List.length pC) 5) false)),(1001,sB pC false)]:=by
 unfold pUpright
 exact fn_of_x hG hM Try.func31 (by kernel_rfl) (by kernel_rfl) 400 [.yes] (J T1 trivial) (by kernel_rfl)
theorem pUpright_w (p:Pic) (pC:List Sprite) (on:Bool) (w_p:Pic.ok p):Pic.ok (pUpright p pC on):=by
 unfold pUpright
 exact (⟨w_p.tiles,w_p.names,w_p.colours,w_p.men,w_p.man,w_p.scroll,w_p.control,w_p.mask,w_p.flags,w_p.waits,w_p.bus,w_p.screen⟩:Pic.ok ({ p with upright:=on }:Pic))
def pNext (p:Pic) (pC:List Sprite):Pic:=
 if (p.line == 261) = true then
  if ((i64.wrap (p.dot + 1)) == 340) = true then
   if p.odd = true then
    if (pShows ({ p with dot:=(i64.wrap (p.dot + 1)) }:Pic) pC) = true then
     if (decide ((i64.wrap ((i64.wrap (p.dot + 1)) + 1)) < 341)) = true then
      ({ p with dot:=(i64.wrap ((i64.wrap (p.dot + 1)) + 1)) }:Pic)
     else
      if ((i64.wrap (p.line + 1)) == 262) = true then
       ({ p with line:=0,dot:=0,odd:=(!p.odd) }:Pic)
      else
       ({ p with line:=(i64.wrap (p.line + 1)),dot:=0 }:Pic)
    else
     if (decide ((i64.wrap (p.dot + 1)) < 341)) = true then
      ({ p with dot:=(i64.wrap (p.dot + 1)) }:Pic)
     else
      if ((i64.wrap (p.line + 1)) == 262) = true then
       ({ p with line:=0,dot:=0,odd:=(!p.odd) }:Pic)
      else
       ({ p with line:=(i64.wrap (p.line + 1)),dot:=0 }:Pic)
   else
    if (decide ((i64.wrap (p.dot + 1)) < 341)) = true then
     ({ p with dot:=(i64.wrap (p.dot + 1)) }:Pic)
    else
     if ((i64.wrap (p.line + 1)) == 262) = true then
      ({ p with line:=0,dot:=0,odd:=(!p.odd) }:Pic)
     else
      ({ p with line:=(i64.wrap (p.line + 1)),dot:=0 }:Pic)
  else
   if (decide ((i64.wrap (p.dot + 1)) < 341)) = true then
    ({ p with dot:=(i64.wrap (p.dot + 1)) }:Pic)
   else
    if ((i64.wrap (p.line + 1)) == 262) = true then
     ({ p with line:=0,dot:=0,odd:=(!p.odd) }:Pic)
    else
     ({ p with line:=(i64.wrap (p.line + 1)),dot:=0 }:Pic)
 else
  if (decide ((i64.wrap (p.dot + 1)) < 341)) = true then
   ({ p with dot:=(i64.wrap (p.dot + 1)) }:Pic)
  else
   if ((i64.wrap (p.line + 1)) == 262) = true then
    ({ p with line:=0,dot:=0,odd:=(!p.odd) }:Pic)
   else
    ({ p with line:=(i64.wrap (p.line + 1)),dot:=0 }:Pic)
abbrev PBk0 (p:Pic):=({ p with dot:=(i64.wrap (p.dot + 1)) }:Pic)
theorem pNext_ok (p:Pic) (pC:List Sprite):FnSpec Try.prog 53 1002 [pt 1000] [(1000,(Pic.bl p (sl 1001 (List.length pC) 5) false)),(1001,sB pC false)] (.tuple ⟨[]⟩) [(1000,(Pic.bl (pNext p pC) (sl 1001 (List.length pC) 5) false)),(1001,sB pC false)]:=by
 unfold pNext
 rcases bt (p.line == 261) with c1 | c1
 ·rw [if_pos c1]
  rcases bt ((i64.wrap (p.dot + 1)) == 340) with c2 | c2
  ·rw [if_pos c2]
   rcases bt p.odd with c3 | c3
   ·rw [if_pos c3]
    rcases bt (pShows (PBk0 p) pC) with c4 | c4
    ·rw [if_pos c4]
     rcases bt (decide ((i64.wrap ((i64.wrap (p.dot + 1)) + 1)) < 341)) with c5 | c5
     ·rw [if_pos c5]
      exact fn_of_x hG hM Try.func53 (by kernel_rfl) (by kernel_rfl) 400 [.yes,.yes,.yes,.yes,.yes,.yes,.yes,.yes,.yes,.yes,.yes,.yes,.yes,.callr [(1000,1000),(1001,1001)] [1000,1001] [] 1002 (.bool (pShows (PBk0 p) pC)) [],.yes,.yes,.yes] (J c1 (J c1 (J c1 (J c1 (J c1 (J c1 (J c2 (J c2 (J c2 (J c2 (J c2 (J c3 (J c3 (J (pShows_ok (PBk0 p) pC) (J c3 (J c4 (J c5 trivial))))))))))))))))) (by kernel_rfl)
     ·rw [if_neg (nt c5)]
      rcases bt ((i64.wrap (p.line + 1)) == 262) with c6 | c6
      ·rw [if_pos c6]
       exact fn_of_x hG hM Try.func53 (by kernel_rfl) (by kernel_rfl) 400 [.yes,.yes,.yes,.yes,.yes,.yes,.yes,.yes,.yes,.yes,.yes,.yes,.yes,.callr [(1000,1000),(1001,1001)] [1000,1001] [] 1002 (.bool (pShows (PBk0 p) pC)) [],.yes,.yes,.no,.yes] (J c1 (J c1 (J c1 (J c1 (J c1 (J c1 (J c2 (J c2 (J c2 (J c2 (J c2 (J c3 (J c3 (J (pShows_ok (PBk0 p) pC) (J c3 (J c4 (J c5 (J c6 trivial)))))))))))))))))) (by kernel_rfl)
      ·rw [if_neg (nt c6)]
       exact fn_of_x hG hM Try.func53 (by kernel_rfl) (by kernel_rfl) 400 [.yes,.yes,.yes,.yes,.yes,.yes,.yes,.yes,.yes,.yes,.yes,.yes,.yes,.callr [(1000,1000),(1001,1001)] [1000,1001] [] 1002 (.bool (pShows (PBk0 p) pC)) [],.yes,.yes,.no,.no] (J c1 (J c1 (J c1 (J c1 (J c1 (J c1 (J c2 (J c2 (J c2 (J c2 (J c2 (J c3 (J c3 (J (pShows_ok (PBk0 p) pC) (J c3 (J c4 (J c5 (J c6 trivial)))))))))))))))))) (by kernel_rfl)
    ·rw [if_neg (nt c4)]
     rcases bt (decide ((i64.wrap (p.dot + 1)) < 341)) with c5 | c5
     ·rw [if_pos c5]
      exact fn_of_x hG hM Try.func53 (by kernel_rfl) (by kernel_rfl) 400 [.yes,.yes,.yes,.yes,.yes,.yes,.yes,.yes,.yes,.yes,.yes,.yes,.yes,.callr [(1000,1000),(1001,1001)] [1000,1001] [] 1002 (.bool (pShows (PBk0 p) pC)) [],.yes,.no,.yes] (J c1 (J c1 (J c1 (J c1 (J c1 (J c1 (J c2 (J c2 (J c2 (J c2 (J c2 (J c3 (J c3 (J (pShows_ok (PBk0 p) pC) (J c3 (J c4 (J c5 trivial))))))))))))))))) (by kernel_rfl)
     ·rw [if_neg (nt c5)]
      rcases bt ((i64.wrap (p.line + 1)) == 262) with c6 | c6
      ·rw [if_pos c6]
       exact fn_of_x hG hM Try.func53 (by kernel_rfl) (by kernel_rfl) 400 [.yes,.yes,.yes,.yes,.yes,.yes,.yes,.yes,.yes,.yes,.yes,.yes,.yes,.callr [(1000,1000),(1001,1001)] [1000,1001] [] 1002 (.bool (pShows (PBk0 p) pC)) [],.yes,.no,.no,.yes] (J c1 (J c1 (J c1 (J c1 (J c1 (J c1 (J c2 (J c2 (J c2 (J c2 (J c2 (J c3 (J c3 (J (pShows_ok (PBk0 p) pC) (J c3 (J c4 (J c5 (J c6 trivial)))))))))))))))))) (by kernel_rfl)
      ·rw [if_neg (nt c6)]
       exact fn_of_x hG hM Try.func53 (by kernel_rfl) (by kernel_rfl) 400 [.yes,.yes,.yes,.yes,.yes,.yes,.yes,.yes,.yes,.yes,.yes,.yes,.yes,.callr [(1000,1000),(1001,1001)] [1000,1001] [] 1002 (.bool (pShows (PBk0 p) pC)) [],.yes,.no,.no,.no] (J c1 (J c1 (J c1 (J c1 (J c1 (J c1 (J c2 (J c2 (J c2 (J c2 (J c2 (J c3 (J c3 (J (pShows_ok (PBk0 p) pC) (J c3 (J c4 (J c5 (J c6 trivial)))))))))))))))))) (by kernel_rfl)
   ·rw [if_neg (nt c3)]
    rcases bt (decide ((i64.wrap (p.dot + 1)) < 341)) with c4 | c4
    ·rw [if_pos c4]
     exact fn_of_x hG hM Try.func53 (by kernel_rfl) (by kernel_rfl) 400 [.yes,.yes,.yes,.yes,.yes,.yes,.yes,.yes,.yes,.yes,.yes,.no,.no,.no,.no,.yes] (J c1 (J c1 (J c1 (J c1 (J c1 (J c1 (J c2 (J c2 (J c2 (J c2 (J c2 (J c3 (J c3 (J c3 (J T0 (J c4 trivial)))))))))))))))) (by kernel_rfl)
    ·rw [if_neg (nt c4)]
     rcases bt ((i64.wrap (p.line + 1)) == 262) with c5 | c5
     ·rw [if_pos c5]
      exact fn_of_x hG hM Try.func53 (by kernel_rfl) (by kernel_rfl) 400 [.yes,.yes,.yes,.yes,.yes,.yes,.yes,.yes,.yes,.yes,.yes,.no,.no,.no,.no,.no,.yes] (J c1 (J c1 (J c1 (J c1 (J c1 (J c1 (J c2 (J c2 (J c2 (J c2 (J c2 (J c3 (J c3 (J c3 (J T0 (J c4 (J c5 trivial))))))))))))))))) (by kernel_rfl)
     ·rw [if_neg (nt c5)]
      exact fn_of_x hG hM Try.func53 (by kernel_rfl) (by kernel_rfl) 400 [.yes,.yes,.yes,.yes,.yes,.yes,.yes,.yes,.yes,.yes,.yes,.no,.no,.no,.no,.no,.no] (J c1 (J c1 (J c1 (J c1 (J c1 (J c1 (J c2 (J c2 (J c2 (J c2 (J c2 (J c3 (J c3 (J c3 (J T0 (J c4 (J c5 trivial))))))))))))))))) (by kernel_rfl)
  ·rw [if_neg (nt c2)]
   rcases bt (decide ((i64.wrap (p.dot + 1)) < 341)) with c3 | c3
   ·rw [if_pos c3]
    exact fn_of_x hG hM Try.func53 (by kernel_rfl) (by kernel_rfl) 400 [.yes,.yes,.yes,.yes,.yes,.yes,.no,.no,.no,.no,.no,.no,.no,.no,.no,.yes] (J c1 (J c1 (J c1 (J c1 (J c1 (J c1 (J c2 (J c2 (J c2 (J c2 (J c2 (J T0 (J T0 (J T0 (J T0 (J c3 trivial)))))))))))))))) (by kernel_rfl)
   ·rw [if_neg (nt c3)]
    rcases bt ((i64.wrap (p.line + 1)) == 262) with c4 | c4
    ·rw [if_pos c4]
     exact fn_of_x hG hM Try.func53 (by kernel_rfl) (by kernel_rfl) 400 [.yes,.yes,.yes,.yes,.yes,.yes,.no,.no,.no,.no,.no,.no,.no,.no,.no,.no,.yes] (J c1 (J c1 (J c1 (J c1 (J c1 (J c1 (J c2 (J c2 (J c2 (J c2 (J c2 (J T0 (J T0 (J T0 (J T0 (J c3 (J c4 trivial))))))))))))))))) (by kernel_rfl)
    ·rw [if_neg (nt c4)]
     exact fn_of_x hG hM Try.func53 (by kernel_rfl) (by kernel_rfl) 400 [.yes,.yes,.yes,.yes,.yes,.yes,.no,.no,.no,.no,.no,.no,.no,.no,.no,.no,.no] (J c1 (J c1 (J c1 (J c1 (J c1 (J c1 (J c2 (J c2 (J c2 (J c2 (J c2 (J T0 (J T0 (J T0 (J T0 (J c3 (J c4 trivial))))))))))))))))) (by kernel_rfl)
 ·rw [if_neg (nt c1)]
  rcases bt (decide ((i64.wrap (p.dot + 1)) < 341)) with c2 | c2
  ·rw [if_pos c2]
   exact fn_of_x hG hM Try.func53 (by kernel_rfl) (by kernel_rfl) 400 [.no,.no,.no,.no,.no,.no,.no,.no,.no,.no,.no,.no,.no,.no,.no,.yes] (J c1 (J c1 (J c1 (J c1 (J c1 (J c1 (J T0 (J T0 (J T0 (J T0 (J T0 (J T0 (J T0 (J T0 (J T0 (J c2 trivial)))))))))))))))) (by kernel_rfl)
  ·rw [if_neg (nt c2)]
   rcases bt ((i64.wrap (p.line + 1)) == 262) with c3 | c3
   ·rw [if_pos c3]
    exact fn_of_x hG hM Try.func53 (by kernel_rfl) (by kernel_rfl) 400 [.no,.no,.no,.no,.no,.no,.no,.no,.no,.no,.no,.no,.no,.no,.no,.no,.yes] (J c1 (J c1 (J c1 (J c1 (J c1 (J c1 (J T0 (J T0 (J T0 (J T0 (J T0 (J T0 (J T0 (J T0 (J T0 (J c2 (J c3 trivial))))))))))))))))) (by kernel_rfl)
   ·rw [if_neg (nt c3)]
    exact fn_of_x hG hM Try.func53 (by kernel_rfl) (by kernel_rfl) 400 [.no,.no,.no,.no,.no,.no,.no,.no,.no,.no,.no,.no,.no,.no,.no,.no,.no] (J c1 (J c1 (J c1 (J c1 (J c1 (J c1 (J T0 (J T0 (J T0 (J T0 (J T0 (J T0 (J T0 (J T0 (J T0 (J c2 (J c3 trivial))))))))))))))))) (by kernel_rfl)
def pMove (p:Pic) (pC:List Sprite):Pic:=
 if (decide (p.dot ≥ 280)) = true then
  if (decide (p.dot ≤ 304)) = true then
   if (p.line == 261) = true then
    ({ p with scroll:=(sTop p.scroll) }:Pic)
   else
    if (p.dot == 257) = true then
     ({ p with scroll:=(sLine p.scroll) }:Pic)
    else
     if (p.dot == 256) = true then
      ({ p with scroll:=(sDown p.scroll) }:Pic)
     else
      if (decide (p.dot > 0)) = true then
       if (decide (p.dot < 256)) = true then
        if ((Int.tmod p.dot 8) == 0) = true then
         ({ p with scroll:=(sRight p.scroll) }:Pic)
        else
         p
       else
        p
      else
       p
  else
   if (p.dot == 257) = true then
    ({ p with scroll:=(sLine p.scroll) }:Pic)
   else
    if (p.dot == 256) = true then
     ({ p with scroll:=(sDown p.scroll) }:Pic)
    else
     if (decide (p.dot > 0)) = true then
      if (decide (p.dot < 256)) = true then
       if ((Int.tmod p.dot 8) == 0) = true then
        ({ p with scroll:=(sRight p.scroll) }:Pic)
       else
        p
      else
       p
     else
      p
 else
  if (p.dot == 257) = true then
   ({ p with scroll:=(sLine p.scroll) }:Pic)
  else
   if (p.dot == 256) = true then
    ({ p with scroll:=(sDown p.scroll) }:Pic)
   else
    if (decide (p.dot > 0)) = true then
     if (decide (p.dot < 256)) = true then
      if ((Int.tmod p.dot 8) == 0) = true then
       ({ p with scroll:=(sRight p.scroll) }:Pic)
      else
       p
     else
      p
    else
     p
theorem pMove_ok (p:Pic) (pC:List Sprite):FnSpec Try.prog 51 1002 [pt 1000] [(1000,(Pic.bl p (sl 1001 (List.length pC) 5) false)),(1001,sB pC false)] (.tuple ⟨[]⟩) [(1000,(Pic.bl (pMove p pC) (sl 1001 (List.length pC) 5) false)),(1001,sB pC false)]:=by
 unfold pMove
 rcases bt (decide (p.dot ≥ 280)) with c1 | c1
 ·rw [if_pos c1]
  rcases bt (decide (p.dot ≤ 304)) with c2 | c2
  ·rw [if_pos c2]
   rcases bt (p.line == 261) with c3 | c3
   ·rw [if_pos c3]
    exact fn_of_x hG hM Try.func51 (by kernel_rfl) (by kernel_rfl) 400 [.yes,.yes,.yes,.yes,.yes,.yes,.yes,.yes,.yes,.yes,.yes,.yes,.yes,.call [] [] 1000 (Scroll.enc (sTop p.scroll)) []] (J c1 (J c1 (J c1 (J c1 (J c1 (J c1 (J c2 (J c2 (J c2 (J c2 (J c2 (J c2 (J c3 (J (sTop_ok p.scroll) trivial)))))))))))))) (by kernel_rfl)
   ·rw [if_neg (nt c3)]
    rcases bt (p.dot == 257) with c4 | c4
    ·rw [if_pos c4]
     exact fn_of_x hG hM Try.func51 (by kernel_rfl) (by kernel_rfl) 400 [.yes,.yes,.yes,.yes,.yes,.yes,.yes,.yes,.yes,.yes,.yes,.yes,.no,.yes,.call [] [] 1000 (Scroll.enc (sLine p.scroll)) []] (J c1 (J c1 (J c1 (J c1 (J c1 (J c1 (J c2 (J c2 (J c2 (J c2 (J c2 (J c2 (J c3 (J c4 (J (sLine_ok p.scroll) trivial))))))))))))))) (by kernel_rfl)
    ·rw [if_neg (nt c4)]
     rcases bt (p.dot == 256) with c5 | c5
     ·rw [if_pos c5]
      exact fn_of_x hG hM Try.func51 (by kernel_rfl) (by kernel_rfl) 400 [.yes,.yes,.yes,.yes,.yes,.yes,.yes,.yes,.yes,.yes,.yes,.yes,.no,.no,.yes,.call [] [] 1000 (Scroll.enc (sDown p.scroll)) []] (J c1 (J c1 (J c1 (J c1 (J c1 (J c1 (J c2 (J c2 (J c2 (J c2 (J c2 (J c2 (J c3 (J c4 (J c5 (J (sDown_ok p.scroll) trivial)))))))))))))))) (by kernel_rfl)
     ·rw [if_neg (nt c5)]
      rcases bt (decide (p.dot > 0)) with c6 | c6
      ·rw [if_pos c6]
       rcases bt (decide (p.dot < 256)) with c7 | c7
       ·rw [if_pos c7]
        rcases bt ((Int.tmod p.dot 8) == 0) with c8 | c8
        ·rw [if_pos c8]
         exact fn_of_x hG hM Try.func51 (by kernel_rfl) (by kernel_rfl) 400 [.yes,.yes,.yes,.yes,.yes,.yes,.yes,.yes,.yes,.yes,.yes,.yes,.no,.no,.no,.yes,.yes,.yes,.yes,.yes,.yes,.yes,.yes,.yes,.yes,.yes,.yes,.yes,.yes,.call [] [] 1000 (Scroll.enc (sRight p.scroll)) []] (J c1 (J c1 (J c1 (J c1 (J c1 (J c1 (J c2 (J c2 (J c2 (J c2 (J c2 (J c2 (J c3 (J c4 (J c5 (J c6 (J c6 (J c6 (J c6 (J c6 (J c6 (J c7 (J c7 (J c7 (J c7 (J c7 (J (by decide:((8:Int) ≠ 0)) (J c7 (J c7 (J c8 (J (sRight_ok p.scroll) trivial))))))))))))))))))))))))))))))) (by kernel_rfl)
        ·rw [if_neg (nt c8)]
         exact fn_of_x hG hM Try.func51 (by kernel_rfl) (by kernel_rfl) 400 [.yes,.yes,.yes,.yes,.yes,.yes,.yes,.yes,.yes,.yes,.yes,.yes,.no,.no,.no,.yes,.yes,.yes,.yes,.yes,.yes,.yes,.yes,.yes,.yes,.yes,.yes,.yes,.no] (J c1 (J c1 (J c1 (J c1 (J c1 (J c1 (J c2 (J c2 (J c2 (J c2 (J c2 (J c2 (J c3 (J c4 (J c5 (J c6 (J c6 (J c6 (J c6 (J c6 (J c6 (J c7 (J c7 (J c7 (J c7 (J c7 (J (by decide:((8:Int) ≠ 0)) (J c7 (J c7 (J c8 trivial)))))))))))))))))))))))))))))) (by kernel_rfl)
       ·rw [if_neg (nt c7)]
        exact fn_of_x hG hM Try.func51 (by kernel_rfl) (by kernel_rfl) 400 [.yes,.yes,.yes,.yes,.yes,.yes,.yes,.yes,.yes,.yes,.yes,.yes,.no,.no,.no,.yes,.yes,.yes,.yes,.yes,.yes,.no,.no,.no,.no,.no,.no,.no,.no] (J c1 (J c1 (J c1 (J c1 (J c1 (J c1 (J c2 (J c2 (J c2 (J c2 (J c2 (J c2 (J c3 (J c4 (J c5 (J c6 (J c6 (J c6 (J c6 (J c6 (J c6 (J c7 (J c7 (J c7 (J c7 (J c7 (J c7 (J c7 (J T0 trivial))))))))))))))))))))))))))))) (by kernel_rfl)
      ·rw [if_neg (nt c6)]
       exact fn_of_x hG hM Try.func51 (by kernel_rfl) (by kernel_rfl) 400 [.yes,.yes,.yes,.yes,.yes,.yes,.yes,.yes,.yes,.yes,.yes,.yes,.no,.no,.no,.no,.no,.no,.no,.no,.no,.no,.no,.no,.no,.no,.no,.no,.no] (J c1 (J c1 (J c1 (J c1 (J c1 (J c1 (J c2 (J c2 (J c2 (J c2 (J c2 (J c2 (J c3 (J c4 (J c5 (J c6 (J c6 (J c6 (J c6 (J c6 (J c6 (J T0 (J T0 (J T0 (J T0 (J T0 (J T0 (J T0 (J T0 trivial))))))))))))))))))))))))))))) (by kernel_rfl)
  ·rw [if_neg (nt c2)]
   rcases bt (p.dot == 257) with c3 | c3
   ·rw [if_pos c3]
    exact fn_of_x hG hM Try.func51 (by kernel_rfl) (by kernel_rfl) 400 [.yes,.yes,.yes,.yes,.yes,.yes,.no,.no,.no,.no,.no,.no,.no,.yes,.call [] [] 1000 (Scroll.enc (sLine p.scroll)) []] (J c1 (J c1 (J c1 (J c1 (J c1 (J c1 (J c2 (J c2 (J c2 (J c2 (J c2 (J c2 (J T0 (J c3 (J (sLine_ok p.scroll) trivial))))))))))))))) (by kernel_rfl)
   ·rw [if_neg (nt c3)]
    rcases bt (p.dot == 256) with c4 | c4
    ·rw [if_pos c4]
     exact fn_of_x hG hM Try.func51 (by kernel_rfl) (by kernel_rfl) 400 [.yes,.yes,.yes,.yes,.yes,.yes,.no,.no,.no,.no,.no,.no,.no,.no,.yes,.call [] [] 1000 (Scroll.enc (sDown p.scroll)) []] (J c1 (J c1 (J c1 (J c1 (J c1 (J c1 (J c2 (J c2 (J c2 (J c2 (J c2 (J c2 (J T0 (J c3 (J c4 (J (sDown_ok p.scroll) trivial)))))))))))))))) (by kernel_rfl)
    ·rw [if_neg (nt c4)]
     rcases bt (decide (p.dot > 0)) with c5 | c5
     ·rw [if_pos c5]
      rcases bt (decide (p.dot < 256)) with c6 | c6
      ·rw [if_pos c6]
       rcases bt ((Int.tmod p.dot 8) == 0) with c7 | c7
       ·rw [if_pos c7]
        exact fn_of_x hG hM Try.func51 (by kernel_rfl) (by kernel_rfl) 400 [.yes,.yes,.yes,.yes,.yes,.yes,.no,.no,.no,.no,.no,.no,.no,.no,.no,.yes,.yes,.yes,.yes,.yes,.yes,.yes,.yes,.yes,.yes,.yes,.yes,.yes,.yes,.call [] [] 1000 (Scroll.enc (sRight p.scroll)) []] (J c1 (J c1 (J c1 (J c1 (J c1 (J c1 (J c2 (J c2 (J c2 (J c2 (J c2 (J c2 (J T0 (J c3 (J c4 (J c5 (J c5 (J c5 (J c5 (J c5 (J c5 (J c6 (J c6 (J c6 (J c6 (J c6 (J (by decide:((8:Int) ≠ 0)) (J c6 (J c6 (J c7 (J (sRight_ok p.scroll) trivial))))))))))))))))))))))))))))))) (by kernel_rfl)
       ·rw [if_neg (nt c7)]
        exact fn_of_x hG hM Try.func51 (by kernel_rfl) (by kernel_rfl) 400 [.yes,.yes,.yes,.yes,.yes,.yes,.no,.no,.no,.no,.no,.no,.no,.no,.no,.yes,.yes,.yes,.yes,.yes,.yes,.yes,.yes,.yes,.yes,.yes,.yes,.yes,.no] (J c1 (J c1 (J c1 (J c1 (J c1 (J c1 (J c2 (J c2 (J c2 (J c2 (J c2 (J c2 (J T0 (J c3 (J c4 (J c5 (J c5 (J c5 (J c5 (J c5 (J c5 (J c6 (J c6 (J c6 (J c6 (J c6 (J (by decide:((8:Int) ≠ 0)) (J c6 (J c6 (J c7 trivial)))))))))))))))))))))))))))))) (by kernel_rfl)
      ·rw [if_neg (nt c6)]
       exact fn_of_x hG hM Try.func51 (by kernel_rfl) (by kernel_rfl) 400 [.yes,.yes,.yes,.yes,.yes,.yes,.no,.no,.no,.no,.no,.no,.no,.no,.no,.yes,.yes,.yes,.yes,.yes,.yes,.no,.no,.no,.no,.no,.no,.no,.no] (J c1 (J c1 (J c1 (J c1 (J c1 (J c1 (J c2 (J c2 (J c2 (J c2 (J c2 (J c2 (J T0 (J c3 (J c4 (J c5 (J c5 (J c5 (J c5 (J c5 (J c5 (J c6 (J c6 (J c6 (J c6 (J c6 (J c6 (J c6 (J T0 trivial))))))))))))))))))))))))))))) (by kernel_rfl)
     ·rw [if_neg (nt c5)]
      exact fn_of_x hG hM Try.func51 (by kernel_rfl) (by kernel_rfl) 400 [.yes,.yes,.yes,.yes,.yes,.yes,.no,.no,.no,.no,.no,.no,.no,.no,.no,.no,.no,.no,.no,.no,.no,.no,.no,.no,.no,.no,.no,.no,.no] (J c1 (J c1 (J c1 (J c1 (J c1 (J c1 (J c2 (J c2 (J c2 (J c2 (J c2 (J c2 (J T0 (J c3 (J c4 (J c5 (J c5 (J c5 (J c5 (J c5 (J c5 (J T0 (J T0 (J T0 (J T0 (J T0 (J T0 (J T0 (J T0 trivial))))))))))))))))))))))))))))) (by kernel_rfl)
 ·rw [if_neg (nt c1)]
  rcases bt (p.dot == 257) with c2 | c2
  ·rw [if_pos c2]
   exact fn_of_x hG hM Try.func51 (by kernel_rfl) (by kernel_rfl) 400 [.no,.no,.no,.no,.no,.no,.no,.no,.no,.no,.no,.no,.no,.yes,.call [] [] 1000 (Scroll.enc (sLine p.scroll)) []] (J c1 (J c1 (J c1 (J c1 (J c1 (J c1 (J T0 (J T0 (J T0 (J T0 (J T0 (J T0 (J T0 (J c2 (J (sLine_ok p.scroll) trivial))))))))))))))) (by kernel_rfl)
  ·rw [if_neg (nt c2)]
   rcases bt (p.dot == 256) with c3 | c3
   ·rw [if_pos c3]
    exact fn_of_x hG hM Try.func51 (by kernel_rfl) (by kernel_rfl) 400 [.no,.no,.no,.no,.no,.no,.no,.no,.no,.no,.no,.no,.no,.no,.yes,.call [] [] 1000 (Scroll.enc (sDown p.scroll)) []] (J c1 (J c1 (J c1 (J c1 (J c1 (J c1 (J T0 (J T0 (J T0 (J T0 (J T0 (J T0 (J T0 (J c2 (J c3 (J (sDown_ok p.scroll) trivial)))))))))))))))) (by kernel_rfl)
   ·rw [if_neg (nt c3)]
    rcases bt (decide (p.dot > 0)) with c4 | c4
    ·rw [if_pos c4]
     rcases bt (decide (p.dot < 256)) with c5 | c5
     ·rw [if_pos c5]
      rcases bt ((Int.tmod p.dot 8) == 0) with c6 | c6
      ·rw [if_pos c6]
       exact fn_of_x hG hM Try.func51 (by kernel_rfl) (by kernel_rfl) 400 [.no,.no,.no,.no,.no,.no,.no,.no,.no,.no,.no,.no,.no,.no,.no,.yes,.yes,.yes,.yes,.yes,.yes,.yes,.yes,.yes,.yes,.yes,.yes,.yes,.yes,.call [] [] 1000 (Scroll.enc (sRight p.scroll)) []] (J c1 (J c1 (J c1 (J c1 (J c1 (J c1 (J T0 (J T0 (J T0 (J T0 (J T0 (J T0 (J T0 (J c2 (J c3 (J c4 (J c4 (J c4 (J c4 (J c4 (J c4 (J c5 (J c5 (J c5 (J c5 (J c5 (J (by decide:((8:Int) ≠ 0)) (J c5 (J c5 (J c6 (J (sRight_ok p.scroll) trivial))))))))))))))))))))))))))))))) (by kernel_rfl)
      ·rw [if_neg (nt c6)]
       exact fn_of_x hG hM Try.func51 (by kernel_rfl) (by kernel_rfl) 400 [.no,.no,.no,.no,.no,.no,.no,.no,.no,.no,.no,.no,.no,.no,.no,.yes,.yes,.yes,.yes,.yes,.yes,.yes,.yes,.yes,.yes,.yes,.yes,.yes,.no] (J c1 (J c1 (J c1 (J c1 (J c1 (J c1 (J T0 (J T0 (J T0 (J T0 (J T0 (J T0 (J T0 (J c2 (J c3 (J c4 (J c4 (J c4 (J c4 (J c4 (J c4 (J c5 (J c5 (J c5 (J c5 (J c5 (J (by decide:((8:Int) ≠ 0)) (J c5 (J c5 (J c6 trivial)))))))))))))))))))))))))))))) (by kernel_rfl)
     ·rw [if_neg (nt c5)]
      exact fn_of_x hG hM Try.func51 (by kernel_rfl) (by kernel_rfl) 400 [.no,.no,.no,.no,.no,.no,.no,.no,.no,.no,.no,.no,.no,.no,.no,.yes,.yes,.yes,.yes,.yes,.yes,.no,.no,.no,.no,.no,.no,.no,.no] (J c1 (J c1 (J c1 (J c1 (J c1 (J c1 (J T0 (J T0 (J T0 (J T0 (J T0 (J T0 (J T0 (J c2 (J c3 (J c4 (J c4 (J c4 (J c4 (J c4 (J c4 (J c5 (J c5 (J c5 (J c5 (J c5 (J c5 (J c5 (J T0 trivial))))))))))))))))))))))))))))) (by kernel_rfl)
    ·rw [if_neg (nt c4)]
     exact fn_of_x hG hM Try.func51 (by kernel_rfl) (by kernel_rfl) 400 [.no,.no,.no,.no,.no,.no,.no,.no,.no,.no,.no,.no,.no,.no,.no,.no,.no,.no,.no,.no,.no,.no,.no,.no,.no,.no,.no,.no,.no] (J c1 (J c1 (J c1 (J c1 (J c1 (J c1 (J T0 (J T0 (J T0 (J T0 (J T0 (J T0 (J T0 (J c2 (J c3 (J c4 (J c4 (J c4 (J c4 (J c4 (J c4 (J T0 (J T0 (J T0 (J T0 (J T0 (J T0 (J T0 (J T0 trivial))))))))))))))))))))))))))))) (by kernel_rfl)
theorem pMove_w (p:Pic) (pC:List Sprite) (w_p:Pic.ok p):Pic.ok (pMove p pC):=by
 unfold pMove
 rcases bt (decide (p.dot ≥ 280)) with c1 | c1
 ·rw [if_pos c1]
  rcases bt (decide (p.dot ≤ 304)) with c2 | c2
  ·rw [if_pos c2]
   rcases bt (p.line == 261) with c3 | c3
   ·rw [if_pos c3]
    exact (⟨w_p.tiles,w_p.names,w_p.colours,w_p.men,w_p.man,(sTop_w p.scroll w_p.scroll),w_p.control,w_p.mask,w_p.flags,w_p.waits,w_p.bus,w_p.screen⟩:Pic.ok ({ p with scroll:=(sTop p.scroll) }:Pic))
   ·rw [if_neg (nt c3)]
    rcases bt (p.dot == 257) with c4 | c4
    ·rw [if_pos c4]
     exact (⟨w_p.tiles,w_p.names,w_p.colours,w_p.men,w_p.man,(sLine_w p.scroll w_p.scroll),w_p.control,w_p.mask,w_p.flags,w_p.waits,w_p.bus,w_p.screen⟩:Pic.ok ({ p with scroll:=(sLine p.scroll) }:Pic))
    ·rw [if_neg (nt c4)]
     rcases bt (p.dot == 256) with c5 | c5
     ·rw [if_pos c5]
      exact (⟨w_p.tiles,w_p.names,w_p.colours,w_p.men,w_p.man,(sDown_w p.scroll w_p.scroll),w_p.control,w_p.mask,w_p.flags,w_p.waits,w_p.bus,w_p.screen⟩:Pic.ok ({ p with scroll:=(sDown p.scroll) }:Pic))
     ·rw [if_neg (nt c5)]
      rcases bt (decide (p.dot > 0)) with c6 | c6
      ·rw [if_pos c6]
       rcases bt (decide (p.dot < 256)) with c7 | c7
       ·rw [if_pos c7]
        rcases bt ((Int.tmod p.dot 8) == 0) with c8 | c8
        ·rw [if_pos c8]
         exact (⟨w_p.tiles,w_p.names,w_p.colours,w_p.men,w_p.man,(sRight_w p.scroll w_p.scroll),w_p.control,w_p.mask,w_p.flags,w_p.waits,w_p.bus,w_p.screen⟩:Pic.ok ({ p with scroll:=(sRight p.scroll) }:Pic))
        ·rw [if_neg (nt c8)]
         exact w_p
       ·rw [if_neg (nt c7)]
        exact w_p
      ·rw [if_neg (nt c6)]
       exact w_p
  ·rw [if_neg (nt c2)]
   rcases bt (p.dot == 257) with c3 | c3
   ·rw [if_pos c3]
    exact (⟨w_p.tiles,w_p.names,w_p.colours,w_p.men,w_p.man,(sLine_w p.scroll w_p.scroll),w_p.control,w_p.mask,w_p.flags,w_p.waits,w_p.bus,w_p.screen⟩:Pic.ok ({ p with scroll:=(sLine p.scroll) }:Pic))
   ·rw [if_neg (nt c3)]
    rcases bt (p.dot == 256) with c4 | c4
    ·rw [if_pos c4]
     exact (⟨w_p.tiles,w_p.names,w_p.colours,w_p.men,w_p.man,(sDown_w p.scroll w_p.scroll),w_p.control,w_p.mask,w_p.flags,w_p.waits,w_p.bus,w_p.screen⟩:Pic.ok ({ p with scroll:=(sDown p.scroll) }:Pic))
    ·rw [if_neg (nt c4)]
     rcases bt (decide (p.dot > 0)) with c5 | c5
     ·rw [if_pos c5]
      rcases bt (decide (p.dot < 256)) with c6 | c6
      ·rw [if_pos c6]
       rcases bt ((Int.tmod p.dot 8) == 0) with c7 | c7
       ·rw [if_pos c7]
        exact (⟨w_p.tiles,w_p.names,w_p.colours,w_p.men,w_p.man,(sRight_w p.scroll w_p.scroll),w_p.control,w_p.mask,w_p.flags,w_p.waits,w_p.bus,w_p.screen⟩:Pic.ok ({ p with scroll:=(sRight p.scroll) }:Pic))
       ·rw [if_neg (nt c7)]
        exact w_p
      ·rw [if_neg (nt c6)]
       exact w_p
     ·rw [if_neg (nt c5)]
      exact w_p
 ·rw [if_neg (nt c1)]
  rcases bt (p.dot == 257) with c2 | c2
  ·rw [if_pos c2]
   exact (⟨w_p.tiles,w_p.names,w_p.colours,w_p.men,w_p.man,(sLine_w p.scroll w_p.scroll),w_p.control,w_p.mask,w_p.flags,w_p.waits,w_p.bus,w_p.screen⟩:Pic.ok ({ p with scroll:=(sLine p.scroll) }:Pic))
  ·rw [if_neg (nt c2)]
   rcases bt (p.dot == 256) with c3 | c3
   ·rw [if_pos c3]
    exact (⟨w_p.tiles,w_p.names,w_p.colours,w_p.men,w_p.man,(sDown_w p.scroll w_p.scroll),w_p.control,w_p.mask,w_p.flags,w_p.waits,w_p.bus,w_p.screen⟩:Pic.ok ({ p with scroll:=(sDown p.scroll) }:Pic))
   ·rw [if_neg (nt c3)]
    rcases bt (decide (p.dot > 0)) with c4 | c4
    ·rw [if_pos c4]
     rcases bt (decide (p.dot < 256)) with c5 | c5
     ·rw [if_pos c5]
      rcases bt ((Int.tmod p.dot 8) == 0) with c6 | c6
      ·rw [if_pos c6]
       exact (⟨w_p.tiles,w_p.names,w_p.colours,w_p.men,w_p.man,(sRight_w p.scroll w_p.scroll),w_p.control,w_p.mask,w_p.flags,w_p.waits,w_p.bus,w_p.screen⟩:Pic.ok ({ p with scroll:=(sRight p.scroll) }:Pic))
      ·rw [if_neg (nt c6)]
       exact w_p
     ·rw [if_neg (nt c5)]
      exact w_p
    ·rw [if_neg (nt c4)]
     exact w_p
end Go.Proofs.Ytgnhhnmpeklciaa
namespace Go.Proofs.Ytgnhhnmpeklciaa
open Go VX
open Go.IntKind (i64 u8 u16)
theorem at2 (i off m:Nat) (s:Option Nat):Value.pointer (some ⟨i,bif Nat.beq off 0 then m else off + m,s⟩) = .pointer (some ⟨i,off + m,s⟩):=by
 cases e:Nat.beq off 0
 ·rfl
 ·have:off = 0:=Nat.eq_of_beq_eq_true e
  subst this;simp
theorem band16 (a m:Int) (h0:0 ≤ m) (h1:m < 65536):0 ≤ bAnd .u16 a m ∧ bAnd .u16 a m ≤ m:=by
 have e:bAnd .u16 a m = ((BitVec.ofInt 16 a &&& BitVec.ofInt 16 m).toNat:Int):=by
  show u16.wrap _ = _
  rw [IntKind.wrap_u16]
  have:=(BitVec.ofInt 16 a &&& BitVec.ofInt 16 m).isLt
  show ((BitVec.ofInt 16 a &&& BitVec.ofInt 16 m).toNat:Int) % 65536 = _
  omega
 have h2:(BitVec.ofInt 16 a &&& BitVec.ofInt 16 m).toNat ≤ (BitVec.ofInt 16 m).toNat:=by rw [BitVec.toNat_and];exact Nat.and_le_right
 have h3:((BitVec.ofInt 16 m).toNat:Int) = m:=by rw [BitVec.toNat_ofInt];omega
 rw [e];omega
theorem band8 (a m:Int) (h0:0 ≤ m) (h1:m < 256):0 ≤ bAnd .u8 a m ∧ bAnd .u8 a m ≤ m:=by
 have e:bAnd .u8 a m = ((BitVec.ofInt 8 a &&& BitVec.ofInt 8 m).toNat:Int):=by
  show u8.wrap _ = _
  rw [IntKind.wrap_u8]
  have:=(BitVec.ofInt 8 a &&& BitVec.ofInt 8 m).isLt
  show ((BitVec.ofInt 8 a &&& BitVec.ofInt 8 m).toNat:Int) % 256 = _
  omega
 have h2:(BitVec.ofInt 8 a &&& BitVec.ofInt 8 m).toNat ≤ (BitVec.ofInt 8 m).toNat:=by rw [BitVec.toNat_and];exact Nat.and_le_right
 have h3:((BitVec.ofInt 8 m).toNat:Int) = m:=by rw [BitVec.toNat_ofInt];omega
 rw [e];omega
theorem bor16 (a b:Int) (n:Nat) (hn:n ≤ 16) (ha:0 ≤ a ∧ a < ((2 ^ n:Nat):Int)) (hb:0 ≤ b ∧ b < ((2 ^ n:Nat):Int)):0 ≤ bOr .u16 a b ∧ bOr .u16 a b < ((2 ^ n:Nat):Int):=by
 have e:bOr .u16 a b = ((BitVec.ofInt 16 a ||| BitVec.ofInt 16 b).toNat:Int):=by
  show u16.wrap _ = _
  rw [IntKind.wrap_u16]
  have:=(BitVec.ofInt 16 a ||| BitVec.ofInt 16 b).isLt
  show ((BitVec.ofInt 16 a ||| BitVec.ofInt 16 b).toNat:Int) % 65536 = _
  omega
 have hp:(2 ^ n:Nat) ≤ 2 ^ 16:=Nat.pow_le_pow_right (by decide) hn
 have h3:∀ m:Int,0 ≤ m ∧ m < ((2 ^ n:Nat):Int) → (BitVec.ofInt 16 m).toNat < 2 ^ n:=by
  intro m hm
  rw [BitVec.toNat_ofInt]
  have:m % ((2 ^ 16:Nat):Int) = m:=Int.emod_eq_of_lt hm.1 (by omega)
  rw [this];omega
 have h2:(BitVec.ofInt 16 a ||| BitVec.ofInt 16 b).toNat < 2 ^ n:=by rw [BitVec.toNat_or];exact Nat.or_lt_two_pow (h3 a ha) (h3 b hb)
 rw [e];omega
theorem bandnot1 (a:Int):0 ≤ bAndNot .u8 a 1 ∧ bAndNot .u8 a 1 ≤ 254:=by
 have e:bAndNot .u8 a 1 = ((BitVec.ofInt 8 a &&& ~~~ BitVec.ofInt 8 1).toNat:Int):=by
  show u8.wrap _ = _
  rw [IntKind.wrap_u8]
  have:=(BitVec.ofInt 8 a &&& ~~~ BitVec.ofInt 8 1).isLt
  show ((BitVec.ofInt 8 a &&& ~~~ BitVec.ofInt 8 1).toNat:Int) % 256 = _
  omega
 have h2:(BitVec.ofInt 8 a &&& ~~~ BitVec.ofInt 8 1).toNat ≤ (~~~ BitVec.ofInt 8 1).toNat:=by rw [BitVec.toNat_and];exact Nat.and_le_right
 have h3:(~~~ BitVec.ofInt 8 1).toNat = 254:=by decide
 rw [e];omega
theorem tdiv_8 (x:Int) (h:0 ≤ x):Int.tdiv x 8 = x / 8:=Int.tdiv_eq_ediv_of_nonneg h
theorem tmod_8 (x:Int) (h:0 ≤ x):0 ≤ Int.tmod x 8 ∧ Int.tmod x 8 < 8:=by rw [Int.tmod_eq_emod_of_nonneg h];omega
theorem mirror_lt (a:Int) (u:Bool):0 ≤ mirror a u ∧ mirror a u < 2048:=by
 unfold mirror
 split
 ·have h1:=band16 a 1023 (by decide) (by decide)
  have h2:=band16 (bShr .u16 a 1) 1024 (by decide) (by decide)
  exact bor16 _ _ 11 (by decide) ⟨h1.1,by show _ < 2048;omega⟩ ⟨h2.1,by show _ < 2048;omega⟩
 ·have:=band16 a 2047 (by decide) (by decide);omega
def colB (n:Nat):Bool:=decide (0 ≤ bAndNot .u8 (n:Int) 16) && decide (bAndNot .u8 (n:Int) 16 < 32)
theorem col_all:allN colB 5 0 = true:=by kernel_rfl
theorem colour_lt (a:Int):0 ≤ colour a ∧ colour a < 32:=by
 have h1:=band16 a 31 (by decide) (by decide)
 have e:u8.wrap (bAnd .u16 a 31) = bAnd .u16 a 31:=by rw [IntKind.wrap_u8];omega
 unfold colour
 rw [e]
 split
 ·have h:=allN_int col_all _ h1.1 (by show _ < 32;omega)
  unfold colB at h
  rw [Int.toNat_of_nonneg h1.1,Bool.and_eq_true,decide_eq_true_eq,decide_eq_true_eq] at h
  exact h
 ·omega
theorem sRow_lt (s:Scroll):0 ≤ sRow s ∧ sRow s < 8:=by
 have h:=band16 s.V 28672 (by decide) (by decide)
 have e:bShr .u16 (bAnd .u16 s.V 28672) 12 = bAnd .u16 s.V 28672 / 4096:=by
  show Int.fdiv _ 4096 = _
  exact Int.fdiv_eq_ediv_of_nonneg _ (by decide)
 unfold sRow
 rw [e,IntKind.wrap_u8];omega
end Go.Proofs.Ytgnhhnmpeklciaa
namespace Go.Proofs.Ytgnhhnmpeklciaa
open Go VX
theorem pHeight_le (p:Pic) (L:List Sprite):pHeight p L = 8 ∨ pHeight p L = 16:=by
 unfold pHeight;split
 ·exact .inr rfl
 ·exact .inl rfl
theorem pHeight_t {p:Pic} {L:List Sprite} (h:((bAnd .u8 p.control 32) != 0) = true):pHeight p L = 16:=by unfold pHeight;rw [if_pos h]
theorem pHeight_f {p:Pic} {L:List Sprite} (h:((bAnd .u8 p.control 32) != 0) = false):pHeight p L = 8:=by unfold pHeight;rw [if_neg (nt h)]
abbrev PCk0 (p:Pic) (pC:List Sprite):=(Pic.bl p (sl 1001 (List.length pC) 5) false)
theorem pPlace_p1 (p:Pic) (pC:List Sprite) (a:Int) (c1:(decide ((bAnd .u16 a 16383) < 8192)) = true):FnSpec Try.prog 44 1002 [pt 1000,.int .u16 a] [(1000,(PCk0 p pC)),(1001,sB pC false)] (.pointer (some ⟨1000,(Int.toNat (bAnd .u16 a 16383)),(some 0)⟩)) [(1000,(PCk0 p pC)),(1001,sB pC false)]:=by
 exact fn_of_x hG hM Try.func44 (by kernel_rfl) (by kernel_rfl) 400 [.yes,.sym] (J c1 (J (show 0 ≤ (bAnd .u16 a 16383) ∧ (bAnd .u16 a 16383) < ((8192:Nat):Int) from by have q0_:=band16 a 16383 (by decide) (by decide);first | omega | (simp only [decide_eq_true_eq,decide_eq_false_iff_not,rng,IntKind.wrap_i64,IntKind.wrap_u8,IntKind.wrap_u16] at *;omega)) trivial)) (by kernel_rfl)
abbrev PCk1 (a:Int) (p:Pic):=(Int.toNat (mirror (bAnd .u16 a 16383) p.upright))
theorem pPlace_p2 (p:Pic) (pC:List Sprite) (a:Int) (c1:(decide ((bAnd .u16 a 16383) < 8192)) = false) (c2:(decide ((bAnd .u16 a 16383) < 16128)) = true):FnSpec Try.prog 44 1002 [pt 1000,.int .u16 a] [(1000,(PCk0 p pC)),(1001,sB pC false)] (.pointer (some ⟨1000,(PCk1 a p),(some 8192)⟩)) [(1000,(PCk0 p pC)),(1001,sB pC false)]:=by
 exact fn_of_x hG hM Try.func44 (by kernel_rfl) (by kernel_rfl) 400 [.no,.yes,.call [] [] 1000 (.int .u16 (mirror (bAnd .u16 a 16383) p.upright)) [],.sym] (J c1 (J c2 (J (mirror_ok (bAnd .u16 a 16383) p.upright) (J (show 0 ≤ (mirror (bAnd .u16 a 16383) p.upright) ∧ (mirror (bAnd .u16 a 16383) p.upright) < ((2048:Nat):Int) from by have q0_:=band16 a 16383 (by decide) (by decide);have q1_:=mirror_lt (bAnd .u16 a 16383) p.upright;first | omega | (simp only [decide_eq_true_eq,decide_eq_false_iff_not,rng,IntKind.wrap_i64,IntKind.wrap_u8,IntKind.wrap_u16] at *;omega)) trivial)))) (by kernel_rfl)
abbrev PCk2 (a:Int):=(Int.toNat (colour (bAnd .u16 a 16383)))
theorem pPlace_p3 (p:Pic) (pC:List Sprite) (a:Int) (c1:(decide ((bAnd .u16 a 16383) < 8192)) = false) (c2:(decide ((bAnd .u16 a 16383) < 16128)) = false):FnSpec Try.prog 44 1002 [pt 1000,.int .u16 a] [(1000,(PCk0 p pC)),(1001,sB pC false)] (.pointer (some ⟨1000,(PCk2 a),(some 10240)⟩)) [(1000,(PCk0 p pC)),(1001,sB pC false)]:=by
 exact fn_of_x hG hM Try.func44 (by kernel_rfl) (by kernel_rfl) 400 [.no,.no,.call [] [] 1000 (.int .u8 (colour (bAnd .u16 a 16383))) [],.sym] (J c1 (J c2 (J (colour_ok (bAnd .u16 a 16383)) (J (show 0 ≤ (colour (bAnd .u16 a 16383)) ∧ (colour (bAnd .u16 a 16383)) < ((32:Nat):Int) from by have q0_:=band16 a 16383 (by decide) (by decide);have q1_:=colour_lt (bAnd .u16 a 16383);first | omega | (simp only [decide_eq_true_eq,decide_eq_false_iff_not,rng,IntKind.wrap_i64,IntKind.wrap_u8,IntKind.wrap_u16] at *;omega)) trivial)))) (by kernel_rfl)
def pPeek (p:Pic) (pC:List Sprite) (a:Int):Int:=
 if (decide ((bAnd .u16 a 16383) < 8192)) = true then
  (p.tiles (Int.toNat (bAnd .u16 a 16383)))
 else
  if (decide ((bAnd .u16 a 16383) < 16128)) = true then
   (p.names (Int.toNat (mirror (bAnd .u16 a 16383) p.upright)))
  else
   (p.colours (Int.toNat (colour (bAnd .u16 a 16383))))
theorem pPeek_ok (p:Pic) (pC:List Sprite) (a:Int):FnSpec Try.prog 19 1002 [pt 1000,.int .u16 a] [(1000,(PCk0 p pC)),(1001,sB pC false)] (.int .u8 (pPeek p pC a)) [(1000,(PCk0 p pC)),(1001,sB pC false)]:=by
 unfold pPeek
 rcases bt (decide ((bAnd .u16 a 16383) < 8192)) with c1 | c1
 ·rw [if_pos c1]
  exact fn_of_x hG hM Try.func19 (by kernel_rfl) (by kernel_rfl) 400 [.no,.call [(1000,1000),(1001,1001)] [] 1002 (.pointer (some ⟨1000,(Int.toNat (bAnd .u16 a 16383)),(some 0)⟩)) [(1000,(PCk0 p pC)),(1001,sB pC false)]] (J T0 (J (pPlace_p1 p pC a c1) (J (show (Int.toNat (bAnd .u16 a 16383)) < 8192 from by have q0_:=band16 a 16383 (by decide) (by decide);first | omega | (simp only [decide_eq_true_eq,decide_eq_false_iff_not,rng,IntKind.wrap_i64,IntKind.wrap_u8,IntKind.wrap_u16] at *;omega)) trivial))) (by kernel_rfl)
 ·rw [if_neg (nt c1)]
  rcases bt (decide ((bAnd .u16 a 16383) < 16128)) with c2 | c2
  ·rw [if_pos c2]
   exact fn_of_x hG hM Try.func19 (by kernel_rfl) (by kernel_rfl) 400 [.no,.call [(1000,1000),(1001,1001)] [] 1002 (.pointer (some ⟨1000,(PCk1 a p),(some 8192)⟩)) [(1000,(PCk0 p pC)),(1001,sB pC false)]] (J T0 (J (pPlace_p2 p pC a c1 c2) (J (show (Int.toNat (mirror (bAnd .u16 a 16383) p.upright)) < 2048 from by have q0_:=band16 a 16383 (by decide) (by decide);have q1_:=mirror_lt (bAnd .u16 a 16383) p.upright;first | omega | (simp only [decide_eq_true_eq,decide_eq_false_iff_not,rng,IntKind.wrap_i64,IntKind.wrap_u8,IntKind.wrap_u16] at *;omega)) trivial))) (by kernel_rfl)
  ·rw [if_neg (nt c2)]
   exact fn_of_x hG hM Try.func19 (by kernel_rfl) (by kernel_rfl) 400 [.no,.call [(1000,1000),(1001,1001)] [] 1002 (.pointer (some ⟨1000,(PCk2 a),(some 10240)⟩)) [(1000,(PCk0 p pC)),(1001,sB pC false)]] (J T0 (J (pPlace_p3 p pC a c1 c2) (J (show (Int.toNat (colour (bAnd .u16 a 16383))) < 32 from by have q0_:=band16 a 16383 (by decide) (by decide);have q1_:=colour_lt (bAnd .u16 a 16383);first | omega | (simp only [decide_eq_true_eq,decide_eq_false_iff_not,rng,IntKind.wrap_i64,IntKind.wrap_u8,IntKind.wrap_u16] at *;omega)) trivial))) (by kernel_rfl)
theorem pPeek_w (p:Pic) (pC:List Sprite) (a:Int) (w_p:Pic.ok p) (w_a:rng 65536 a):rng 256 (pPeek p pC a):=by
 unfold pPeek
 rcases bt (decide ((bAnd .u16 a 16383) < 8192)) with c1 | c1
 ·rw [if_pos c1]
  exact (w_p.tiles (Int.toNat (bAnd .u16 a 16383)))
 ·rw [if_neg (nt c1)]
  rcases bt (decide ((bAnd .u16 a 16383) < 16128)) with c2 | c2
  ·rw [if_pos c2]
   exact (w_p.names (Int.toNat (mirror (bAnd .u16 a 16383) p.upright)))
  ·rw [if_neg (nt c2)]
   exact (w_p.colours (Int.toNat (colour (bAnd .u16 a 16383))))
def pPoke (p:Pic) (pC:List Sprite) (a:Int) (b:Int):Pic:=
 if (decide ((bAnd .u16 a 16383) ≥ 16128)) = true then
  if (decide ((bAnd .u16 a 16383) < 8192)) = true then
   ({ p with tiles:=(upd p.tiles (Int.toNat (bAnd .u16 a 16383)) (bAnd .u8 b 63)) }:Pic)
  else
   if (decide ((bAnd .u16 a 16383) < 16128)) = true then
    ({ p with names:=(upd p.names (Int.toNat (mirror (bAnd .u16 a 16383) p.upright)) (bAnd .u8 b 63)) }:Pic)
   else
    ({ p with colours:=(upd p.colours (Int.toNat (colour (bAnd .u16 a 16383))) (bAnd .u8 b 63)) }:Pic)
 else
  if (decide ((bAnd .u16 a 16383) < 8192)) = true then
   ({ p with tiles:=(upd p.tiles (Int.toNat (bAnd .u16 a 16383)) b) }:Pic)
  else
   if (decide ((bAnd .u16 a 16383) < 16128)) = true then
    ({ p with names:=(upd p.names (Int.toNat (mirror (bAnd .u16 a 16383) p.upright)) b) }:Pic)
   else
    ({ p with colours:=(upd p.colours (Int.toNat (colour (bAnd .u16 a 16383))) b) }:Pic)
theorem pPoke_ok (p:Pic) (pC:List Sprite) (a:Int) (b:Int):FnSpec Try.prog 25 1002 [pt 1000,.int .u16 a,.int .u8 b] [(1000,(PCk0 p pC)),(1001,sB pC false)] (.tuple ⟨[]⟩) [(1000,(Pic.bl (pPoke p pC a b) (sl 1001 (List.length pC) 5) false)),(1001,sB pC false)]:=by
 unfold pPoke
 rcases bt (decide ((bAnd .u16 a 16383) ≥ 16128)) with c1 | c1
 ·rw [if_pos c1]
  rcases bt (decide ((bAnd .u16 a 16383) < 8192)) with c2 | c2
  ·rw [if_pos c2]
   exact fn_of_x hG hM Try.func25 (by kernel_rfl) (by kernel_rfl) 400 [.no,.yes,.call [(1000,1000),(1001,1001)] [] 1002 (.pointer (some ⟨1000,(Int.toNat (bAnd .u16 a 16383)),(some 0)⟩)) [(1000,(PCk0 p pC)),(1001,sB pC false)]] (J T0 (J c1 (J (pPlace_p1 p pC a c2) (J (show (Int.toNat (bAnd .u16 a 16383)) < 8192 from by have q0_:=band16 a 16383 (by decide) (by decide);first | omega | (simp only [decide_eq_true_eq,decide_eq_false_iff_not,rng,IntKind.wrap_i64,IntKind.wrap_u8,IntKind.wrap_u16] at *;omega)) trivial)))) (by kernel_rfl)
  ·rw [if_neg (nt c2)]
   rcases bt (decide ((bAnd .u16 a 16383) < 16128)) with c3 | c3
   ·rw [if_pos c3]
    exact fn_of_x hG hM Try.func25 (by kernel_rfl) (by kernel_rfl) 400 [.no,.yes,.call [(1000,1000),(1001,1001)] [] 1002 (.pointer (some ⟨1000,(PCk1 a p),(some 8192)⟩)) [(1000,(PCk0 p pC)),(1001,sB pC false)]] (J T0 (J c1 (J (pPlace_p2 p pC a c2 c3) (J (show (Int.toNat (mirror (bAnd .u16 a 16383) p.upright)) < 2048 from by have q0_:=band16 a 16383 (by decide) (by decide);have q1_:=mirror_lt (bAnd .u16 a 16383) p.upright;first | omega | (simp only [decide_eq_true_eq,decide_eq_false_iff_not,rng,IntKind.wrap_i64,IntKind.wrap_u8,IntKind.wrap_u16] at *;omega)) trivial)))) (by kernel_rfl)
   ·rw [if_neg (nt c3)]
    exact fn_of_x hG hM Try.func25 (by kernel_rfl) (by kernel_rfl) 400 [.no,.yes,.call [(1000,1000),(1001,1001)] [] 1002 (.pointer (some ⟨1000,(PCk2 a),(some 10240)⟩)) [(1000,(PCk0 p pC)),(1001,sB pC false)]] (J T0 (J c1 (J (pPlace_p3 p pC a c2 c3) (J (show (Int.toNat (colour (bAnd .u16 a 16383))) < 32 from by have q0_:=band16 a 16383 (by decide) (by decide);have q1_:=colour_lt (bAnd .u16 a 16383);first | omega | (simp only [decide_eq_true_eq,decide_eq_false_iff_not,rng,IntKind.wrap_i64,IntKind.wrap_u8,IntKind.wrap_u16] at *;omega)) trivial)))) (by kernel_rfl)
 ·rw [if_neg (nt c1)]
  rcases bt (decide ((bAnd .u16 a 16383) < 8192)) with c2 | c2
  ·rw [if_pos c2]
   exact fn_of_x hG hM Try.func25 (by kernel_rfl) (by kernel_rfl) 400 [.no,.no,.call [(1000,1000),(1001,1001)] [] 1002 (.pointer (some ⟨1000,(Int.toNat (bAnd .u16 a 16383)),(some 0)⟩)) [(1000,(PCk0 p pC)),(1001,sB pC false)]] (J T0 (J c1 (J (pPlace_p1 p pC a c2) (J (show (Int.toNat (bAnd .u16 a 16383)) < 8192 from by have q0_:=band16 a 16383 (by decide) (by decide);first | omega | (simp only [decide_eq_true_eq,decide_eq_false_iff_not,rng,IntKind.wrap_i64,IntKind.wrap_u8,IntKind.wrap_u16] at *;omega)) trivial)))) (by kernel_rfl)
  ·rw [if_neg (nt c2)]
   rcases bt (decide ((bAnd .u16 a 16383) < 16128)) with c3 | c3
   ·rw [if_pos c3]
    exact fn_of_x hG hM Try.func25 (by kernel_rfl) (by kernel_rfl) 400 [.no,.no,.call [(1000,1000),(1001,1001)] [] 1002 (.pointer (some ⟨1000,(PCk1 a p),(some 8192)⟩)) [(1000,(PCk0 p pC)),(1001,sB pC false)]] (J T0 (J c1 (J (pPlace_p2 p pC a c2 c3) (J (show (Int.toNat (mirror (bAnd .u16 a 16383) p.upright)) < 2048 from by have q0_:=band16 a 16383 (by decide) (by decide);have q1_:=mirror_lt (bAnd .u16 a 16383) p.upright;first | omega | (simp only [decide_eq_true_eq,decide_eq_false_iff_not,rng,IntKind.wrap_i64,IntKind.wrap_u8,IntKind.wrap_u16] at *;omega)) trivial)))) (by kernel_rfl)
   ·rw [if_neg (nt c3)]
    exact fn_of_x hG hM Try.func25 (by kernel_rfl) (by kernel_rfl) 400 [.no,.no,.call [(1000,1000),(1001,1001)] [] 1002 (.pointer (some ⟨1000,(PCk2 a),(some 10240)⟩)) [(1000,(PCk0 p pC)),(1001,sB pC false)]] (J T0 (J c1 (J (pPlace_p3 p pC a c2 c3) (J (show (Int.toNat (colour (bAnd .u16 a 16383))) < 32 from by have q0_:=band16 a 16383 (by decide) (by decide);have q1_:=colour_lt (bAnd .u16 a 16383);first | omega | (simp only [decide_eq_true_eq,decide_eq_false_iff_not,rng,IntKind.wrap_i64,IntKind.wrap_u8,IntKind.wrap_u16] at *;omega)) trivial)))) (by kernel_rfl)
theorem pPoke_w (p:Pic) (pC:List Sprite) (a:Int) (b:Int) (w_p:Pic.ok p) (w_a:rng 65536 a) (w_b:rng 256 b):Pic.ok (pPoke p pC a b):=by
 unfold pPoke
 rcases bt (decide ((bAnd .u16 a 16383) ≥ 16128)) with c1 | c1
 ·rw [if_pos c1]
  rcases bt (decide ((bAnd .u16 a 16383) < 8192)) with c2 | c2
  ·rw [if_pos c2]
   exact (⟨(rng_upd w_p.tiles (Int.toNat (bAnd .u16 a 16383)) (rng_bAnd_u8 b 63)),w_p.names,w_p.colours,w_p.men,w_p.man,w_p.scroll,w_p.control,w_p.mask,w_p.flags,w_p.waits,w_p.bus,w_p.screen⟩:Pic.ok ({ p with tiles:=(upd p.tiles (Int.toNat (bAnd .u16 a 16383)) (bAnd .u8 b 63)) }:Pic))
  ·rw [if_neg (nt c2)]
   rcases bt (decide ((bAnd .u16 a 16383) < 16128)) with c3 | c3
   ·rw [if_pos c3]
    exact (⟨w_p.tiles,(rng_upd w_p.names (PCk1 a p) (rng_bAnd_u8 b 63)),w_p.colours,w_p.men,w_p.man,w_p.scroll,w_p.control,w_p.mask,w_p.flags,w_p.waits,w_p.bus,w_p.screen⟩:Pic.ok ({ p with names:=(upd p.names (PCk1 a p) (bAnd .u8 b 63)) }:Pic))
   ·rw [if_neg (nt c3)]
    exact (⟨w_p.tiles,w_p.names,(rng_upd w_p.colours (PCk2 a) (rng_bAnd_u8 b 63)),w_p.men,w_p.man,w_p.scroll,w_p.control,w_p.mask,w_p.flags,w_p.waits,w_p.bus,w_p.screen⟩:Pic.ok ({ p with colours:=(upd p.colours (PCk2 a) (bAnd .u8 b 63)) }:Pic))
 ·rw [if_neg (nt c1)]
  rcases bt (decide ((bAnd .u16 a 16383) < 8192)) with c2 | c2
  ·rw [if_pos c2]
   exact (⟨(rng_upd w_p.tiles (Int.toNat (bAnd .u16 a 16383)) w_b),w_p.names,w_p.colours,w_p.men,w_p.man,w_p.scroll,w_p.control,w_p.mask,w_p.flags,w_p.waits,w_p.bus,w_p.screen⟩:Pic.ok ({ p with tiles:=(upd p.tiles (Int.toNat (bAnd .u16 a 16383)) b) }:Pic))
  ·rw [if_neg (nt c2)]
   rcases bt (decide ((bAnd .u16 a 16383) < 16128)) with c3 | c3
   ·rw [if_pos c3]
    exact (⟨w_p.tiles,(rng_upd w_p.names (PCk1 a p) w_b),w_p.colours,w_p.men,w_p.man,w_p.scroll,w_p.control,w_p.mask,w_p.flags,w_p.waits,w_p.bus,w_p.screen⟩:Pic.ok ({ p with names:=(upd p.names (PCk1 a p) b) }:Pic))
   ·rw [if_neg (nt c3)]
    exact (⟨w_p.tiles,w_p.names,(rng_upd w_p.colours (PCk2 a) w_b),w_p.men,w_p.man,w_p.scroll,w_p.control,w_p.mask,w_p.flags,w_p.waits,w_p.bus,w_p.screen⟩:Pic.ok ({ p with colours:=(upd p.colours (PCk2 a) b) }:Pic))
end Go.Proofs.Ytgnhhnmpeklciaa
namespace Go.Proofs.Ytgnhhnmpeklciaa
open Go VX
open Go.IntKind (i64 u8 u16)
def pTile (p:Pic) (pC:List Sprite) (x:Int):Int × Int:=
 if ((bAnd .u8 p.mask 8) == 0) = true then
  (0,0)
 else
  if (decide (x < 8)) = true then
   if ((bAnd .u8 p.mask 2) == 0) = true then
    (0,0)
   else
    if (decide ((i64.wrap ((Int.tmod x 8) + (i64.wrap p.scroll.X))) ≥ 8)) = true then
     if ((bAnd .u8 p.control 16) != 0) = true then
      ((two (p.tiles (Int.toNat (u16.wrap ((u16.wrap ((u16.wrap (16 * (u16.wrap (pPeek p pC (sName (sRight p.scroll)))))) + (u16.wrap (sRow (sRight p.scroll))))) + 4096)))) (p.tiles (Int.toNat (u16.wrap ((u16.wrap ((u16.wrap ((u16.wrap (16 * (u16.wrap (pPeek p pC (sName (sRight p.scroll)))))) + (u16.wrap (sRow (sRight p.scroll))))) + 4096)) + 8)))) (i64.wrap ((i64.wrap ((Int.tmod x 8) + (i64.wrap p.scroll.X))) - 8))),(bAnd .u8 (bShr .u8 (pPeek p pC ((sShade (sRight p.scroll)).1)) ((sShade (sRight p.scroll)).2)) 3))
     else
      ((two (p.tiles (Int.toNat (u16.wrap ((u16.wrap (16 * (u16.wrap (pPeek p pC (sName (sRight p.scroll)))))) + (u16.wrap (sRow (sRight p.scroll))))))) (p.tiles (Int.toNat (u16.wrap ((u16.wrap ((u16.wrap (16 * (u16.wrap (pPeek p pC (sName (sRight p.scroll)))))) + (u16.wrap (sRow (sRight p.scroll))))) + 8)))) (i64.wrap ((i64.wrap ((Int.tmod x 8) + (i64.wrap p.scroll.X))) - 8))),(bAnd .u8 (bShr .u8 (pPeek p pC ((sShade (sRight p.scroll)).1)) ((sShade (sRight p.scroll)).2)) 3))
    else
     if ((bAnd .u8 p.control 16) != 0) = true then
      ((two (p.tiles (Int.toNat (u16.wrap ((u16.wrap ((u16.wrap (16 * (u16.wrap (pPeek p pC (sName p.scroll))))) + (u16.wrap (sRow p.scroll)))) + 4096)))) (p.tiles (Int.toNat (u16.wrap ((u16.wrap ((u16.wrap ((u16.wrap (16 * (u16.wrap (pPeek p pC (sName p.scroll))))) + (u16.wrap (sRow p.scroll)))) + 4096)) + 8)))) (i64.wrap ((Int.tmod x 8) + (i64.wrap p.scroll.X)))),(bAnd .u8 (bShr .u8 (pPeek p pC ((sShade p.scroll).1)) ((sShade p.scroll).2)) 3))
     else
      ((two (p.tiles (Int.toNat (u16.wrap ((u16.wrap (16 * (u16.wrap (pPeek p pC (sName p.scroll))))) + (u16.wrap (sRow p.scroll)))))) (p.tiles (Int.toNat (u16.wrap ((u16.wrap ((u16.wrap (16 * (u16.wrap (pPeek p pC (sName p.scroll))))) + (u16.wrap (sRow p.scroll)))) + 8)))) (i64.wrap ((Int.tmod x 8) + (i64.wrap p.scroll.X)))),(bAnd .u8 (bShr .u8 (pPeek p pC ((sShade p.scroll).1)) ((sShade p.scroll).2)) 3))
  else
   if (decide ((i64.wrap ((Int.tmod x 8) + (i64.wrap p.scroll.X))) ≥ 8)) = true then
    if ((bAnd .u8 p.control 16) != 0) = true then
     ((two (p.tiles (Int.toNat (u16.wrap ((u16.wrap ((u16.wrap (16 * (u16.wrap (pPeek p pC (sName (sRight p.scroll)))))) + (u16.wrap (sRow (sRight p.scroll))))) + 4096)))) (p.tiles (Int.toNat (u16.wrap ((u16.wrap ((u16.wrap ((u16.wrap (16 * (u16.wrap (pPeek p pC (sName (sRight p.scroll)))))) + (u16.wrap (sRow (sRight p.scroll))))) + 4096)) + 8)))) (i64.wrap ((i64.wrap ((Int.tmod x 8) + (i64.wrap p.scroll.X))) - 8))),(bAnd .u8 (bShr .u8 (pPeek p pC ((sShade (sRight p.scroll)).1)) ((sShade (sRight p.scroll)).2)) 3))
    else
     ((two (p.tiles (Int.toNat (u16.wrap ((u16.wrap (16 * (u16.wrap (pPeek p pC (sName (sRight p.scroll)))))) + (u16.wrap (sRow (sRight p.scroll))))))) (p.tiles (Int.toNat (u16.wrap ((u16.wrap ((u16.wrap (16 * (u16.wrap (pPeek p pC (sName (sRight p.scroll)))))) + (u16.wrap (sRow (sRight p.scroll))))) + 8)))) (i64.wrap ((i64.wrap ((Int.tmod x 8) + (i64.wrap p.scroll.X))) - 8))),(bAnd .u8 (bShr .u8 (pPeek p pC ((sShade (sRight p.scroll)).1)) ((sShade (sRight p.scroll)).2)) 3))
   else
    if ((bAnd .u8 p.control 16) != 0) = true then
     ((two (p.tiles (Int.toNat (u16.wrap ((u16.wrap ((u16.wrap (16 * (u16.wrap (pPeek p pC (sName p.scroll))))) + (u16.wrap (sRow p.scroll)))) + 4096)))) (p.tiles (Int.toNat (u16.wrap ((u16.wrap ((u16.wrap ((u16.wrap (16 * (u16.wrap (pPeek p pC (sName p.scroll))))) + (u16.wrap (sRow p.scroll)))) + 4096)) + 8)))) (i64.wrap ((Int.tmod x 8) + (i64.wrap p.scroll.X)))),(bAnd .u8 (bShr .u8 (pPeek p pC ((sShade p.scroll).1)) ((sShade p.scroll).2)) 3))
    else
     ((two (p.tiles (Int.toNat (u16.wrap ((u16.wrap (16 * (u16.wrap (pPeek p pC (sName p.scroll))))) + (u16.wrap (sRow p.scroll)))))) (p.tiles (Int.toNat (u16.wrap ((u16.wrap ((u16.wrap (16 * (u16.wrap (pPeek p pC (sName p.scroll))))) + (u16.wrap (sRow p.scroll)))) + 8)))) (i64.wrap ((Int.tmod x 8) + (i64.wrap p.scroll.X)))),(bAnd .u8 (bShr .u8 (pPeek p pC ((sShade p.scroll).1)) ((sShade p.scroll).2)) 3))
abbrev PDk0 (p:Pic) (pC:List Sprite):=(u16.wrap ((u16.wrap (16 * (u16.wrap (pPeek p pC (sName (sRight p.scroll)))))) + (u16.wrap (sRow (sRight p.scroll)))))
abbrev PDk1 (p:Pic) (pC:List Sprite):=(u16.wrap ((u16.wrap (16 * (u16.wrap (pPeek p pC (sName p.scroll))))) + (u16.wrap (sRow p.scroll))))
abbrev PDk2 (x:Int) (p:Pic):=(i64.wrap ((Int.tmod x 8) + (i64.wrap p.scroll.X)))
abbrev PDk3 (p:Pic) (pC:List Sprite):=(Pic.bl p (sl 1001 (List.length pC) 5) false)
abbrev PDk4 (p:Pic):=(sShade (sRight p.scroll))
theorem pTile_ok (p:Pic) (pC:List Sprite) (x:Int) (w_p:Pic.ok p) (hx:0 ≤ x) (hx2:x < 256):FnSpec Try.prog 70 1002 [pt 1000,.int .i64 x] [(1000,(PDk3 p pC)),(1001,sB pC false)] (.tuple ⟨[.int .u8 ((pTile p pC x).1),.int .u8 ((pTile p pC x).2)]⟩) [(1000,(PDk3 p pC)),(1001,sB pC false)]:=by
 unfold pTile
 rcases bt ((bAnd .u8 p.mask 8) == 0) with c1 | c1
 ·rw [if_pos c1]
  exact fn_of_x hG hM Try.func70 (by kernel_rfl) (by kernel_rfl) 400 [.yes,.yes,.yes,.yes,.yes,.yes] (J c1 (J c1 (J c1 (J c1 (J c1 (J T1 trivial)))))) (by kernel_rfl)
 ·rw [if_neg (nt c1)]
  rcases bt (decide (x < 8)) with c2 | c2
  ·rw [if_pos c2]
   rcases bt ((bAnd .u8 p.mask 2) == 0) with c3 | c3
   ·rw [if_pos c3]
    exact fn_of_x hG hM Try.func70 (by kernel_rfl) (by kernel_rfl) 400 [.no,.no,.no,.yes,.yes,.yes,.yes,.yes,.yes,.no,.yes,.no,.yes] (J c1 (J c1 (J c1 (J c2 (J c2 (J c2 (J c2 (J c2 (J c2 (J c1 (J c2 (J c1 (J c3 trivial))))))))))))) (by kernel_rfl)
   ·rw [if_neg (nt c3)]
    rcases bt (decide ((PDk2 x p) ≥ 8)) with c4 | c4
    ·rw [if_pos c4]
     rcases bt ((bAnd .u8 p.control 16) != 0) with c5 | c5
     ·rw [if_pos c5]
      exact fn_of_x hG hM Try.func70 (by kernel_rfl) (by kernel_rfl) 400 [.no,.no,.no,.yes,.yes,.yes,.yes,.yes,.yes,.no,.yes,.no,.no,.yes,.call [] [] 1000 (Scroll.enc (sRight p.scroll)) [],.call [] [] 1000 (.int .u16 (sName (sRight p.scroll))) [],.call [(1000,1000),(1001,1001)] [] 1002 (.int .u8 (pPeek p pC (sName (sRight p.scroll)))) [(1000,(PDk3 p pC)),(1001,sB pC false)],.call [] [] 1000 (.int .u8 (sRow (sRight p.scroll))) [],.yes,.call [] [] 1000 (.tuple ⟨[.int .u16 ((PDk4 p).1),.int .u8 ((PDk4 p).2)]⟩) [],.sym,.sym,.call [] [] 1000 (.int .u8 (two (p.tiles (Int.toNat (u16.wrap ((PDk0 p pC) + 4096)))) (p.tiles (Int.toNat (u16.wrap ((u16.wrap ((PDk0 p pC) + 4096)) + 8)))) (i64.wrap ((PDk2 x p) - 8)))) [],.call [(1000,1000),(1001,1001)] [] 1002 (.int .u8 (pPeek p pC ((PDk4 p).1))) [(1000,(PDk3 p pC)),(1001,sB pC false)]] (J c1 (J c1 (J c1 (J c2 (J c2 (J c2 (J c2 (J c2 (J c2 (J c1 (J c2 (J c1 (J c3 (J (by decide:((8:Int) ≠ 0)) (J c4 (J (sRight_ok p.scroll) (J (sName_ok (sRight p.scroll)) (J (pPeek_ok p pC (sName (sRight p.scroll))) (J (sRow_ok (sRight p.scroll)) (J c5 (J (sShade_ok (sRight p.scroll)) (J (show 0 ≤ (u16.wrap ((u16.wrap ((u16.wrap (16 * (u16.wrap (pPeek p pC (sName (sRight p.scroll)))))) + (u16.wrap (sRow (sRight p.scroll))))) + 4096)) ∧ (u16.wrap ((u16.wrap ((u16.wrap (16 * (u16.wrap (pPeek p pC (sName (sRight p.scroll)))))) + (u16.wrap (sRow (sRight p.scroll))))) + 4096)) < ((8192:Nat):Int) from by have q0_:=sRow_lt (sRight p.scroll);have q1_:=(pPeek_w p pC (sName (sRight p.scroll)) w_p (sName_w (sRight p.scroll) (sRight_w p.scroll w_p.scroll)));have q2_:=(sName_w (sRight p.scroll) (sRight_w p.scroll w_p.scroll));first | omega | (simp only [decide_eq_true_eq,decide_eq_false_iff_not,rng,IntKind.wrap_i64,IntKind.wrap_u8,IntKind.wrap_u16] at *;omega)) (J (show (Int.toNat (u16.wrap ((u16.wrap ((u16.wrap (16 * (u16.wrap (pPeek p pC (sName (sRight p.scroll)))))) + (u16.wrap (sRow (sRight p.scroll))))) + 4096))) < 8192 from by have q0_:=sRow_lt (sRight p.scroll);have q1_:=(pPeek_w p pC (sName (sRight p.scroll)) w_p (sName_w (sRight p.scroll) (sRight_w p.scroll w_p.scroll)));have q2_:=(sName_w (sRight p.scroll) (sRight_w p.scroll w_p.scroll));first | omega | (simp only [decide_eq_true_eq,decide_eq_false_iff_not,rng,IntKind.wrap_i64,IntKind.wrap_u8,IntKind.wrap_u16] at *;omega)) (J (show 0 ≤ (u16.wrap ((u16.wrap ((u16.wrap ((u16.wrap (16 * (u16.wrap (pPeek p pC (sName (sRight p.scroll)))))) + (u16.wrap (sRow (sRight p.scroll))))) + 4096)) + 8)) ∧ (u16.wrap ((u16.wrap ((u16.wrap ((u16.wrap (16 * (u16.wrap (pPeek p pC (sName (sRight p.scroll)))))) + (u16.wrap (sRow (sRight p.scroll))))) + 4096)) + 8)) < ((8192:Nat):Int) from by have q0_:=sRow_lt (sRight p.scroll);have q1_:=(pPeek_w p pC (sName (sRight p.scroll)) w_p (sName_w (sRight p.scroll) (sRight_w p.scroll w_p.scroll)));have q2_:=(sName_w (sRight p.scroll) (sRight_w p.scroll w_p.scroll));first | omega | (simp only [decide_eq_true_eq,decide_eq_false_iff_not,rng,IntKind.wrap_i64,IntKind.wrap_u8,IntKind.wrap_u16] at *;omega)) (J (show (Int.toNat (u16.wrap ((u16.wrap ((u16.wrap ((u16.wrap (16 * (u16.wrap (pPeek p pC (sName (sRight p.scroll)))))) + (u16.wrap (sRow (sRight p.scroll))))) + 4096)) + 8))) < 8192 from by have q0_:=sRow_lt (sRight p.scroll);have q1_:=(pPeek_w p pC (sName (sRight p.scroll)) w_p (sName_w (sRight p.scroll) (sRight_w p.scroll w_p.scroll)));have q2_:=(sName_w (sRight p.scroll) (sRight_w p.scroll w_p.scroll));first | omega | (simp only [decide_eq_true_eq,decide_eq_false_iff_not,rng,IntKind.wrap_i64,IntKind.wrap_u8,IntKind.wrap_u16] at *;omega)) (J (two_ok (p.tiles (Int.toNat (u16.wrap ((PDk0 p pC) + 4096)))) (p.tiles (Int.toNat (u16.wrap ((u16.wrap ((PDk0 p pC) + 4096)) + 8)))) (i64.wrap ((PDk2 x p) - 8)) (show 0 ≤ (i64.wrap ((i64.wrap ((Int.tmod x 8) + (i64.wrap p.scroll.X))) - 8)) from by have q0_:=w_p.scroll.X;have q1_:=tmod_8 x hx;first | omega | (simp only [decide_eq_true_eq,decide_eq_false_iff_not,rng,IntKind.wrap_i64,IntKind.wrap_u8,IntKind.wrap_u16] at *;omega))) (J (pPeek_ok p pC ((PDk4 p).1)) (J (show 0 ≤ (sShade (sRight p.scroll)).2 from by have q0_:=(sShade_w2 (sRight p.scroll) (sRight_w p.scroll w_p.scroll));first | omega | (simp only [decide_eq_true_eq,decide_eq_false_iff_not,rng,IntKind.wrap_i64,IntKind.wrap_u8,IntKind.wrap_u16] at *;omega)) trivial)))))))))))))))))))))))))))) (by kernel_rfl)
     ·rw [if_neg (nt c5)]
      exact fn_of_x hG hM Try.func70 (by kernel_rfl) (by kernel_rfl) 400 [.no,.no,.no,.yes,.yes,.yes,.yes,.yes,.yes,.no,.yes,.no,.no,.yes,.call [] [] 1000 (Scroll.enc (sRight p.scroll)) [],.call [] [] 1000 (.int .u16 (sName (sRight p.scroll))) [],.call [(1000,1000),(1001,1001)] [] 1002 (.int .u8 (pPeek p pC (sName (sRight p.scroll)))) [(1000,(PDk3 p pC)),(1001,sB pC false)],.call [] [] 1000 (.int .u8 (sRow (sRight p.scroll))) [],.no,.call [] [] 1000 (.tuple ⟨[.int .u16 ((PDk4 p).1),.int .u8 ((PDk4 p).2)]⟩) [],.sym,.sym,.call [] [] 1000 (.int .u8 (two (p.tiles (Int.toNat (PDk0 p pC))) (p.tiles (Int.toNat (u16.wrap ((PDk0 p pC) + 8)))) (i64.wrap ((PDk2 x p) - 8)))) [],.call [(1000,1000),(1001,1001)] [] 1002 (.int .u8 (pPeek p pC ((PDk4 p).1))) [(1000,(PDk3 p pC)),(1001,sB pC false)]] (J c1 (J c1 (J c1 (J c2 (J c2 (J c2 (J c2 (J c2 (J c2 (J c1 (J c2 (J c1 (J c3 (J (by decide:((8:Int) ≠ 0)) (J c4 (J (sRight_ok p.scroll) (J (sName_ok (sRight p.scroll)) (J (pPeek_ok p pC (sName (sRight p.scroll))) (J (sRow_ok (sRight p.scroll)) (J c5 (J (sShade_ok (sRight p.scroll)) (J (show 0 ≤ (u16.wrap ((u16.wrap (16 * (u16.wrap (pPeek p pC (sName (sRight p.scroll)))))) + (u16.wrap (sRow (sRight p.scroll))))) ∧ (u16.wrap ((u16.wrap (16 * (u16.wrap (pPeek p pC (sName (sRight p.scroll)))))) + (u16.wrap (sRow (sRight p.scroll))))) < ((8192:Nat):Int) from by have q0_:=sRow_lt (sRight p.scroll);have q1_:=(pPeek_w p pC (sName (sRight p.scroll)) w_p (sName_w (sRight p.scroll) (sRight_w p.scroll w_p.scroll)));have q2_:=(sName_w (sRight p.scroll) (sRight_w p.scroll w_p.scroll));first | omega | (simp only [decide_eq_true_eq,decide_eq_false_iff_not,rng,IntKind.wrap_i64,IntKind.wrap_u8,IntKind.wrap_u16] at *;omega)) (J (show (Int.toNat (u16.wrap ((u16.wrap (16 * (u16.wrap (pPeek p pC (sName (sRight p.scroll)))))) + (u16.wrap (sRow (sRight p.scroll)))))) < 8192 from by have q0_:=sRow_lt (sRight p.scroll);have q1_:=(pPeek_w p pC (sName (sRight p.scroll)) w_p (sName_w (sRight p.scroll) (sRight_w p.scroll w_p.scroll)));have q2_:=(sName_w (sRight p.scroll) (sRight_w p.scroll w_p.scroll));first | omega | (simp only [decide_eq_true_eq,decide_eq_false_iff_not,rng,IntKind.wrap_i64,IntKind.wrap_u8,IntKind.wrap_u16] at *;omega)) (J (show 0 ≤ (u16.wrap ((u16.wrap ((u16.wrap (16 * (u16.wrap (pPeek p pC (sName (sRight p.scroll)))))) + (u16.wrap (sRow (sRight p.scroll))))) + 8)) ∧ (u16.wrap ((u16.wrap ((u16.wrap (16 * (u16.wrap (pPeek p pC (sName (sRight p.scroll)))))) + (u16.wrap (sRow (sRight p.scroll))))) + 8)) < ((8192:Nat):Int) from by have q0_:=sRow_lt (sRight p.scroll);have q1_:=(pPeek_w p pC (sName (sRight p.scroll)) w_p (sName_w (sRight p.scroll) (sRight_w p.scroll w_p.scroll)));have q2_:=(sName_w (sRight p.scroll) (sRight_w p.scroll w_p.scroll));first | omega | (simp only [decide_eq_true_eq,decide_eq_false_iff_not,rng,IntKind.wrap_i64,IntKind.wrap_u8,IntKind.wrap_u16] at *;omega)) (J (show (Int.toNat (u16.wrap ((u16.wrap ((u16.wrap (16 * (u16.wrap (pPeek p pC (sName (sRight p.scroll)))))) + (u16.wrap (sRow (sRight p.scroll))))) + 8))) < 8192 from by have q0_:=sRow_lt (sRight p.scroll);have q1_:=(pPeek_w p pC (sName (sRight p.scroll)) w_p (sName_w (sRight p.scroll) (sRight_w p.scroll w_p.scroll)));have q2_:=(sName_w (sRight p.scroll) (sRight_w p.scroll w_p.scroll));first | omega | (simp only [decide_eq_true_eq,decide_eq_false_iff_not,rng,IntKind.wrap_i64,IntKind.wrap_u8,IntKind.wrap_u16] at *;omega)) (J (two_ok (p.tiles (Int.toNat (PDk0 p pC))) (p.tiles (Int.toNat (u16.wrap ((PDk0 p pC) + 8)))) (i64.wrap ((PDk2 x p) - 8)) (show 0 ≤ (i64.wrap ((i64.wrap ((Int.tmod x 8) + (i64.wrap p.scroll.X))) - 8)) from by have q0_:=w_p.scroll.X;have q1_:=tmod_8 x hx;first | omega | (simp only [decide_eq_true_eq,decide_eq_false_iff_not,rng,IntKind.wrap_i64,IntKind.wrap_u8,IntKind.wrap_u16] at *;omega))) (J (pPeek_ok p pC ((PDk4 p).1)) (J (show 0 ≤ (sShade (sRight p.scroll)).2 from by have q0_:=(sShade_w2 (sRight p.scroll) (sRight_w p.scroll w_p.scroll));first | omega | (simp only [decide_eq_true_eq,decide_eq_false_iff_not,rng,IntKind.wrap_i64,IntKind.wrap_u8,IntKind.wrap_u16] at *;omega)) trivial)))))))))))))))))))))))))))) (by kernel_rfl)
    ·rw [if_neg (nt c4)]
     rcases bt ((bAnd .u8 p.control 16) != 0) with c5 | c5
     ·rw [if_pos c5]
      exact fn_of_x hG hM Try.func70 (by kernel_rfl) (by kernel_rfl) 400 [.no,.no,.no,.yes,.yes,.yes,.yes,.yes,.yes,.no,.yes,.no,.no,.no,.call [] [] 1000 (.int .u16 (sName p.scroll)) [],.call [(1000,1000),(1001,1001)] [] 1002 (.int .u8 (pPeek p pC (sName p.scroll))) [(1000,(PDk3 p pC)),(1001,sB pC false)],.call [] [] 1000 (.int .u8 (sRow p.scroll)) [],.yes,.call [] [] 1000 (.tuple ⟨[.int .u16 ((sShade p.scroll).1),.int .u8 ((sShade p.scroll).2)]⟩) [],.sym,.sym,.call [] [] 1000 (.int .u8 (two (p.tiles (Int.toNat (u16.wrap ((PDk1 p pC) + 4096)))) (p.tiles (Int.toNat (u16.wrap ((u16.wrap ((PDk1 p pC) + 4096)) + 8)))) (PDk2 x p))) [],.call [(1000,1000),(1001,1001)] [] 1002 (.int .u8 (pPeek p pC ((sShade p.scroll).1))) [(1000,(PDk3 p pC)),(1001,sB pC false)]] (J c1 (J c1 (J c1 (J c2 (J c2 (J c2 (J c2 (J c2 (J c2 (J c1 (J c2 (J c1 (J c3 (J (by decide:((8:Int) ≠ 0)) (J c4 (J (sName_ok p.scroll) (J (pPeek_ok p pC (sName p.scroll)) (J (sRow_ok p.scroll) (J c5 (J (sShade_ok p.scroll) (J (show 0 ≤ (u16.wrap ((u16.wrap ((u16.wrap (16 * (u16.wrap (pPeek p pC (sName p.scroll))))) + (u16.wrap (sRow p.scroll)))) + 4096)) ∧ (u16.wrap ((u16.wrap ((u16.wrap (16 * (u16.wrap (pPeek p pC (sName p.scroll))))) + (u16.wrap (sRow p.scroll)))) + 4096)) < ((8192:Nat):Int) from by have q0_:=sRow_lt p.scroll;have q1_:=(pPeek_w p pC (sName p.scroll) w_p (sName_w p.scroll w_p.scroll));have q2_:=(sName_w p.scroll w_p.scroll);first | omega | (simp only [decide_eq_true_eq,decide_eq_false_iff_not,rng,IntKind.wrap_i64,IntKind.wrap_u8,IntKind.wrap_u16] at *;omega)) (J (show (Int.toNat (u16.wrap ((u16.wrap ((u16.wrap (16 * (u16.wrap (pPeek p pC (sName p.scroll))))) + (u16.wrap (sRow p.scroll)))) + 4096))) < 8192 from by have q0_:=sRow_lt p.scroll;have q1_:=(pPeek_w p pC (sName p.scroll) w_p (sName_w p.scroll w_p.scroll));have q2_:=(sName_w p.scroll w_p.scroll);first | omega | (simp only [decide_eq_true_eq,decide_eq_false_iff_not,rng,IntKind.wrap_i64,IntKind.wrap_u8,IntKind.wrap_u16] at *;omega)) (J (show 0 ≤ (u16.wrap ((u16.wrap ((u16.wrap ((u16.wrap (16 * (u16.wrap (pPeek p pC (sName p.scroll))))) + (u16.wrap (sRow p.scroll)))) + 4096)) + 8)) ∧ (u16.wrap ((u16.wrap ((u16.wrap ((u16.wrap (16 * (u16.wrap (pPeek p pC (sName p.scroll))))) + (u16.wrap (sRow p.scroll)))) + 4096)) + 8)) < ((8192:Nat):Int) from by have q0_:=sRow_lt p.scroll;have q1_:=(pPeek_w p pC (sName p.scroll) w_p (sName_w p.scroll w_p.scroll));have q2_:=(sName_w p.scroll w_p.scroll);first | omega | (simp only [decide_eq_true_eq,decide_eq_false_iff_not,rng,IntKind.wrap_i64,IntKind.wrap_u8,IntKind.wrap_u16] at *;omega)) (J (show (Int.toNat (u16.wrap ((u16.wrap ((u16.wrap ((u16.wrap (16 * (u16.wrap (pPeek p pC (sName p.scroll))))) + (u16.wrap (sRow p.scroll)))) + 4096)) + 8))) < 8192 from by have q0_:=sRow_lt p.scroll;have q1_:=(pPeek_w p pC (sName p.scroll) w_p (sName_w p.scroll w_p.scroll));have q2_:=(sName_w p.scroll w_p.scroll);first | omega | (simp only [decide_eq_true_eq,decide_eq_false_iff_not,rng,IntKind.wrap_i64,IntKind.wrap_u8,IntKind.wrap_u16] at *;omega)) (J (two_ok (p.tiles (Int.toNat (u16.wrap ((PDk1 p pC) + 4096)))) (p.tiles (Int.toNat (u16.wrap ((u16.wrap ((PDk1 p pC) + 4096)) + 8)))) (PDk2 x p) (show 0 ≤ (i64.wrap ((Int.tmod x 8) + (i64.wrap p.scroll.X))) from by have q0_:=w_p.scroll.X;have q1_:=tmod_8 x hx;first | omega | (simp only [decide_eq_true_eq,decide_eq_false_iff_not,rng,IntKind.wrap_i64,IntKind.wrap_u8,IntKind.wrap_u16] at *;omega))) (J (pPeek_ok p pC ((sShade p.scroll).1)) (J (show 0 ≤ (sShade p.scroll).2 from by have q0_:=(sShade_w2 p.scroll w_p.scroll);first | omega | (simp only [decide_eq_true_eq,decide_eq_false_iff_not,rng,IntKind.wrap_i64,IntKind.wrap_u8,IntKind.wrap_u16] at *;omega)) trivial))))))))))))))))))))))))))) (by kernel_rfl)
     ·rw [if_neg (nt c5)]
      exact fn_of_x hG hM Try.func70 (by kernel_rfl) (by kernel_rfl) 400 [.no,.no,.no,.yes,.yes,.yes,.yes,.yes,.yes,.no,.yes,.no,.no,.no,.call [] [] 1000 (.int .u16 (sName p.scroll)) [],.call [(1000,1000),(1001,1001)] [] 1002 (.int .u8 (pPeek p pC (sName p.scroll))) [(1000,(PDk3 p pC)),(1001,sB pC false)],.call [] [] 1000 (.int .u8 (sRow p.scroll)) [],.no,.call [] [] 1000 (.tuple ⟨[.int .u16 ((sShade p.scroll).1),.int .u8 ((sShade p.scroll).2)]⟩) [],.sym,.sym,.call [] [] 1000 (.int .u8 (two (p.tiles (Int.toNat (PDk1 p pC))) (p.tiles (Int.toNat (u16.wrap ((PDk1 p pC) + 8)))) (PDk2 x p))) [],.call [(1000,1000),(1001,1001)] [] 1002 (.int .u8 (pPeek p pC ((sShade p.scroll).1))) [(1000,(PDk3 p pC)),(1001,sB pC false)]] (J c1 (J c1 (J c1 (J c2 (J c2 (J c2 (J c2 (J c2 (J c2 (J c1 (J c2 (J c1 (J c3 (J (by decide:((8:Int) ≠ 0)) (J c4 (J (sName_ok p.scroll) (J (pPeek_ok p pC (sName p.scroll)) (J (sRow_ok p.scroll) (J c5 (J (sShade_ok p.scroll) (J (show 0 ≤ (u16.wrap ((u16.wrap (16 * (u16.wrap (pPeek p pC (sName p.scroll))))) + (u16.wrap (sRow p.scroll)))) ∧ (u16.wrap ((u16.wrap (16 * (u16.wrap (pPeek p pC (sName p.scroll))))) + (u16.wrap (sRow p.scroll)))) < ((8192:Nat):Int) from by have q0_:=sRow_lt p.scroll;have q1_:=(pPeek_w p pC (sName p.scroll) w_p (sName_w p.scroll w_p.scroll));have q2_:=(sName_w p.scroll w_p.scroll);first | omega | (simp only [decide_eq_true_eq,decide_eq_false_iff_not,rng,IntKind.wrap_i64,IntKind.wrap_u8,IntKind.wrap_u16] at *;omega)) (J (show (Int.toNat (u16.wrap ((u16.wrap (16 * (u16.wrap (pPeek p pC (sName p.scroll))))) + (u16.wrap (sRow p.scroll))))) < 8192 from by have q0_:=sRow_lt p.scroll;have q1_:=(pPeek_w p pC (sName p.scroll) w_p (sName_w p.scroll w_p.scroll));have q2_:=(sName_w p.scroll w_p.scroll);first | omega | (simp only [decide_eq_true_eq,decide_eq_false_iff_not,rng,IntKind.wrap_i64,IntKind.wrap_u8,IntKind.wrap_u16] at *;omega)) (J (show 0 ≤ (u16.wrap ((u16.wrap ((u16.wrap (16 * (u16.wrap (pPeek p pC (sName p.scroll))))) + (u16.wrap (sRow p.scroll)))) + 8)) ∧ (u16.wrap ((u16.wrap ((u16.wrap (16 * (u16.wrap (pPeek p pC (sName p.scroll))))) + (u16.wrap (sRow p.scroll)))) + 8)) < ((8192:Nat):Int) from by have q0_:=sRow_lt p.scroll;have q1_:=(pPeek_w p pC (sName p.scroll) w_p (sName_w p.scroll w_p.scroll));have q2_:=(sName_w p.scroll w_p.scroll);first | omega | (simp only [decide_eq_true_eq,decide_eq_false_iff_not,rng,IntKind.wrap_i64,IntKind.wrap_u8,IntKind.wrap_u16] at *;omega)) (J (show (Int.toNat (u16.wrap ((u16.wrap ((u16.wrap (16 * (u16.wrap (pPeek p pC (sName p.scroll))))) + (u16.wrap (sRow p.scroll)))) + 8))) < 8192 from by have q0_:=sRow_lt p.scroll;have q1_:=(pPeek_w p pC (sName p.scroll) w_p (sName_w p.scroll w_p.scroll));have q2_:=(sName_w p.scroll w_p.scroll);first | omega | (simp only [decide_eq_true_eq,decide_eq_false_iff_not,rng,IntKind.wrap_i64,IntKind.wrap_u8,IntKind.wrap_u16] at *;omega)) (J (two_ok (p.tiles (Int.toNat (PDk1 p pC))) (p.tiles (Int.toNat (u16.wrap ((PDk1 p pC) + 8)))) (PDk2 x p) (show 0 ≤ (i64.wrap ((Int.tmod x 8) + (i64.wrap p.scroll.X))) from by have q0_:=w_p.scroll.X;have q1_:=tmod_8 x hx;first | omega | (simp only [decide_eq_true_eq,decide_eq_false_iff_not,rng,IntKind.wrap_i64,IntKind.wrap_u8,IntKind.wrap_u16] at *;omega))) (J (pPeek_ok p pC ((sShade p.scroll).1)) (J (show 0 ≤ (sShade p.scroll).2 from by have q0_:=(sShade_w2 p.scroll w_p.scroll);first | omega | (simp only [decide_eq_true_eq,decide_eq_false_iff_not,rng,IntKind.wrap_i64,IntKind.wrap_u8,IntKind.wrap_u16] at *;omega)) trivial))))))))))))))))))))))))))) (by kernel_rfl)
  ·rw [if_neg (nt c2)]
   rcases bt (decide ((PDk2 x p) ≥ 8)) with c3 | c3
   ·rw [if_pos c3]
    rcases bt ((bAnd .u8 p.control 16) != 0) with c4 | c4
    ·rw [if_pos c4]
     exact fn_of_x hG hM Try.func70 (by kernel_rfl) (by kernel_rfl) 400 [.no,.no,.no,.no,.no,.no,.no,.no,.no,.no,.no,.no,.no,.yes,.call [] [] 1000 (Scroll.enc (sRight p.scroll)) [],.call [] [] 1000 (.int .u16 (sName (sRight p.scroll))) [],.call [(1000,1000),(1001,1001)] [] 1002 (.int .u8 (pPeek p pC (sName (sRight p.scroll)))) [(1000,(PDk3 p pC)),(1001,sB pC false)],.call [] [] 1000 (.int .u8 (sRow (sRight p.scroll))) [],.yes,.call [] [] 1000 (.tuple ⟨[.int .u16 ((PDk4 p).1),.int .u8 ((PDk4 p).2)]⟩) [],.sym,.sym,.call [] [] 1000 (.int .u8 (two (p.tiles (Int.toNat (u16.wrap ((PDk0 p pC) + 4096)))) (p.tiles (Int.toNat (u16.wrap ((u16.wrap ((PDk0 p pC) + 4096)) + 8)))) (i64.wrap ((PDk2 x p) - 8)))) [],.call [(1000,1000),(1001,1001)] [] 1002 (.int .u8 (pPeek p pC ((PDk4 p).1))) [(1000,(PDk3 p pC)),(1001,sB pC false)]] (J c1 (J c1 (J c1 (J c2 (J c2 (J c2 (J c2 (J c2 (J c2 (J c1 (J c2 (J c1 (J T0 (J (by decide:((8:Int) ≠ 0)) (J c3 (J (sRight_ok p.scroll) (J (sName_ok (sRight p.scroll)) (J (pPeek_ok p pC (sName (sRight p.scroll))) (J (sRow_ok (sRight p.scroll)) (J c4 (J (sShade_ok (sRight p.scroll)) (J (show 0 ≤ (u16.wrap ((u16.wrap ((u16.wrap (16 * (u16.wrap (pPeek p pC (sName (sRight p.scroll)))))) + (u16.wrap (sRow (sRight p.scroll))))) + 4096)) ∧ (u16.wrap ((u16.wrap ((u16.wrap (16 * (u16.wrap (pPeek p pC (sName (sRight p.scroll)))))) + (u16.wrap (sRow (sRight p.scroll))))) + 4096)) < ((8192:Nat):Int) from by have q0_:=sRow_lt (sRight p.scroll);have q1_:=(pPeek_w p pC (sName (sRight p.scroll)) w_p (sName_w (sRight p.scroll) (sRight_w p.scroll w_p.scroll)));have q2_:=(sName_w (sRight p.scroll) (sRight_w p.scroll w_p.scroll));first | omega | (simp only [decide_eq_true_eq,decide_eq_false_iff_not,rng,IntKind.wrap_i64,IntKind.wrap_u8,IntKind.wrap_u16] at *;omega)) (J (show (Int.toNat (u16.wrap ((u16.wrap ((u16.wrap (16 * (u16.wrap (pPeek p pC (sName (sRight p.scroll)))))) + (u16.wrap (sRow (sRight p.scroll))))) + 4096))) < 8192 from by have q0_:=sRow_lt (sRight p.scroll);have q1_:=(pPeek_w p pC (sName (sRight p.scroll)) w_p (sName_w (sRight p.scroll) (sRight_w p.scroll w_p.scroll)));have q2_:=(sName_w (sRight p.scroll) (sRight_w p.scroll w_p.scroll));first | omega | (simp only [decide_eq_true_eq,decide_eq_false_iff_not,rng,IntKind.wrap_i64,IntKind.wrap_u8,IntKind.wrap_u16] at *;omega)) (J (show 0 ≤ (u16.wrap ((u16.wrap ((u16.wrap ((u16.wrap (16 * (u16.wrap (pPeek p pC (sName (sRight p.scroll)))))) + (u16.wrap (sRow (sRight p.scroll))))) + 4096)) + 8)) ∧ (u16.wrap ((u16.wrap ((u16.wrap ((u16.wrap (16 * (u16.wrap (pPeek p pC (sName (sRight p.scroll)))))) + (u16.wrap (sRow (sRight p.scroll))))) + 4096)) + 8)) < ((8192:Nat):Int) from by have q0_:=sRow_lt (sRight p.scroll);have q1_:=(pPeek_w p pC (sName (sRight p.scroll)) w_p (sName_w (sRight p.scroll) (sRight_w p.scroll w_p.scroll)));have q2_:=(sName_w (sRight p.scroll) (sRight_w p.scroll w_p.scroll));first | omega | (simp only [decide_eq_true_eq,decide_eq_false_iff_not,rng,IntKind.wrap_i64,IntKind.wrap_u8,IntKind.wrap_u16] at *;omega)) (J (show (Int.toNat (u16.wrap ((u16.wrap ((u16.wrap ((u16.wrap (16 * (u16.wrap (pPeek p pC (sName (sRight p.scroll)))))) + (u16.wrap (sRow (sRight p.scroll))))) + 4096)) + 8))) < 8192 from by have q0_:=sRow_lt (sRight p.scroll);have q1_:=(pPeek_w p pC (sName (sRight p.scroll)) w_p (sName_w (sRight p.scroll) (sRight_w p.scroll w_p.scroll)));have q2_:=(sName_w (sRight p.scroll) (sRight_w p.scroll w_p.scroll));first | omega | (simp only [decide_eq_true_eq,decide_eq_false_iff_not,rng,IntKind.wrap_i64,IntKind.wrap_u8,IntKind.wrap_u16] at *;omega)) (J (two_ok (p.tiles (Int.toNat (u16.wrap ((PDk0 p pC) + 4096)))) (p.tiles (Int.toNat (u16.wrap ((u16.wrap ((PDk0 p pC) + 4096)) + 8)))) (i64.wrap ((PDk2 x p) - 8)) (show 0 ≤ (i64.wrap ((i64.wrap ((Int.tmod x 8) + (i64.wrap p.scroll.X))) - 8)) from by have q0_:=w_p.scroll.X;have q1_:=tmod_8 x hx;first | omega | (simp only [decide_eq_true_eq,decide_eq_false_iff_not,rng,IntKind.wrap_i64,IntKind.wrap_u8,IntKind.wrap_u16] at *;omega))) (J (pPeek_ok p pC ((PDk4 p).1)) (J (show 0 ≤ (sShade (sRight p.scroll)).2 from by have q0_:=(sShade_w2 (sRight p.scroll) (sRight_w p.scroll w_p.scroll));first | omega | (simp only [decide_eq_true_eq,decide_eq_false_iff_not,rng,IntKind.wrap_i64,IntKind.wrap_u8,IntKind.wrap_u16] at *;omega)) trivial)))))))))))))))))))))))))))) (by kernel_rfl)
    ·rw [if_neg (nt c4)]
     exact fn_of_x hG hM Try.func70 (by kernel_rfl) (by kernel_rfl) 400 [.no,.no,.no,.no,.no,.no,.no,.no,.no,.no,.no,.no,.no,.yes,.call [] [] 1000 (Scroll.enc (sRight p.scroll)) [],.call [] [] 1000 (.int .u16 (sName (sRight p.scroll))) [],.call [(1000,1000),(1001,1001)] [] 1002 (.int .u8 (pPeek p pC (sName (sRight p.scroll)))) [(1000,(PDk3 p pC)),(1001,sB pC false)],.call [] [] 1000 (.int .u8 (sRow (sRight p.scroll))) [],.no,.call [] [] 1000 (.tuple ⟨[.int .u16 ((PDk4 p).1),.int .u8 ((PDk4 p).2)]⟩) [],.sym,.sym,.call [] [] 1000 (.int .u8 (two (p.tiles (Int.toNat (PDk0 p pC))) (p.tiles (Int.toNat (u16.wrap ((PDk0 p pC) + 8)))) (i64.wrap ((PDk2 x p) - 8)))) [],.call [(1000,1000),(1001,1001)] [] 1002 (.int .u8 (pPeek p pC ((PDk4 p).1))) [(1000,(PDk3 p pC)),(1001,sB pC false)]] (J c1 (J c1 (J c1 (J c2 (J c2 (J c2 (J c2 (J c2 (J c2 (J c1 (J c2 (J c1 (J T0 (J (by decide:((8:Int) ≠ 0)) (J c3 (J (sRight_ok p.scroll) (J (sName_ok (sRight p.scroll)) (J (pPeek_ok p pC (sName (sRight p.scroll))) (J (sRow_ok (sRight p.scroll)) (J c4 (J (sShade_ok (sRight p.scroll)) (J (show 0 ≤ (u16.wrap ((u16.wrap (16 * (u16.wrap (pPeek p pC (sName (sRight p.scroll)))))) + (u16.wrap (sRow (sRight p.scroll))))) ∧ (u16.wrap ((u16.wrap (16 * (u16.wrap (pPeek p pC (sName (sRight p.scroll)))))) + (u16.wrap (sRow (sRight p.scroll))))) < ((8192:Nat):Int) from by have q0_:=sRow_lt (sRight p.scroll);have q1_:=(pPeek_w p pC (sName (sRight p.scroll)) w_p (sName_w (sRight p.scroll) (sRight_w p.scroll w_p.scroll)));have q2_:=(sName_w (sRight p.scroll) (sRight_w p.scroll w_p.scroll));first | omega | (simp only [decide_eq_true_eq,decide_eq_false_iff_not,rng,IntKind.wrap_i64,IntKind.wrap_u8,IntKind.wrap_u16] at *;omega)) (J (show (Int.toNat (u16.wrap ((u16.wrap (16 * (u16.wrap (pPeek p pC (sName (sRight p.scroll)))))) + (u16.wrap (sRow (sRight p.scroll)))))) < 8192 from by have q0_:=sRow_lt (sRight p.scroll);have q1_:=(pPeek_w p pC (sName (sRight p.scroll)) w_p (sName_w (sRight p.scroll) (sRight_w p.scroll w_p.scroll)));have q2_:=(sName_w (sRight p.scroll) (sRight_w p.scroll w_p.scroll));first | omega | (simp only [decide_eq_true_eq,decide_eq_false_iff_not,rng,IntKind.wrap_i64,IntKind.wrap_u8,IntKind.wrap_u16] at *;omega)) (J (show 0 ≤ (u16.wrap ((u16.wrap ((u16.wrap (16 * (u16.wrap (pPeek p pC (sName (sRight p.scroll)))))) + (u16.wrap (sRow (sRight p.scroll))))) + 8)) ∧ (u16.wrap ((u16.wrap ((u16.wrap (16 * (u16.wrap (pPeek p pC (sName (sRight p.scroll)))))) + (u16.wrap (sRow (sRight p.scroll))))) + 8)) < ((8192:Nat):Int) from by have q0_:=sRow_lt (sRight p.scroll);have q1_:=(pPeek_w p pC (sName (sRight p.scroll)) w_p (sName_w (sRight p.scroll) (sRight_w p.scroll w_p.scroll)));have q2_:=(sName_w (sRight p.scroll) (sRight_w p.scroll w_p.scroll));first | omega | (simp only [decide_eq_true_eq,decide_eq_false_iff_not,rng,IntKind.wrap_i64,IntKind.wrap_u8,IntKind.wrap_u16] at *;omega)) (J (show (Int.toNat (u16.wrap ((u16.wrap ((u16.wrap (16 * (u16.wrap (pPeek p pC (sName (sRight p.scroll)))))) + (u16.wrap (sRow (sRight p.scroll))))) + 8))) < 8192 from by have q0_:=sRow_lt (sRight p.scroll);have q1_:=(pPeek_w p pC (sName (sRight p.scroll)) w_p (sName_w (sRight p.scroll) (sRight_w p.scroll w_p.scroll)));have q2_:=(sName_w (sRight p.scroll) (sRight_w p.scroll w_p.scroll));first | omega | (simp only [decide_eq_true_eq,decide_eq_false_iff_not,rng,IntKind.wrap_i64,IntKind.wrap_u8,IntKind.wrap_u16] at *;omega)) (J (two_ok (p.tiles (Int.toNat (PDk0 p pC))) (p.tiles (Int.toNat (u16.wrap ((PDk0 p pC) + 8)))) (i64.wrap ((PDk2 x p) - 8)) (show 0 ≤ (i64.wrap ((i64.wrap ((Int.tmod x 8) + (i64.wrap p.scroll.X))) - 8)) from by have q0_:=w_p.scroll.X;have q1_:=tmod_8 x hx;first | omega | (simp only [decide_eq_true_eq,decide_eq_false_iff_not,rng,IntKind.wrap_i64,IntKind.wrap_u8,IntKind.wrap_u16] at *;omega))) (J (pPeek_ok p pC ((PDk4 p).1)) (J (show 0 ≤ (sShade (sRight p.scroll)).2 from by have q0_:=(sShade_w2 (sRight p.scroll) (sRight_w p.scroll w_p.scroll));first | omega | (simp only [decide_eq_true_eq,decide_eq_false_iff_not,rng,IntKind.wrap_i64,IntKind.wrap_u8,IntKind.wrap_u16] at *;omega)) trivial)))))))))))))))))))))))))))) (by kernel_rfl)
   ·rw [if_neg (nt c3)]
    rcases bt ((bAnd .u8 p.control 16) != 0) with c4 | c4
    ·rw [if_pos c4]
     exact fn_of_x hG hM Try.func70 (by kernel_rfl) (by kernel_rfl) 400 [.no,.no,.no,.no,.no,.no,.no,.no,.no,.no,.no,.no,.no,.no,.call [] [] 1000 (.int .u16 (sName p.scroll)) [],.call [(1000,1000),(1001,1001)] [] 1002 (.int .u8 (pPeek p pC (sName p.scroll))) [(1000,(PDk3 p pC)),(1001,sB pC false)],.call [] [] 1000 (.int .u8 (sRow p.scroll)) [],.yes,.call [] [] 1000 (.tuple ⟨[.int .u16 ((sShade p.scroll).1),.int .u8 ((sShade p.scroll).2)]⟩) [],.sym,.sym,.call [] [] 1000 (.int .u8 (two (p.tiles (Int.toNat (u16.wrap ((PDk1 p pC) + 4096)))) (p.tiles (Int.toNat (u16.wrap ((u16.wrap ((PDk1 p pC) + 4096)) + 8)))) (PDk2 x p))) [],.call [(1000,1000),(1001,1001)] [] 1002 (.int .u8 (pPeek p pC ((sShade p.scroll).1))) [(1000,(PDk3 p pC)),(1001,sB pC false)]] (J c1 (J c1 (J c1 (J c2 (J c2 (J c2 (J c2 (J c2 (J c2 (J c1 (J c2 (J c1 (J T0 (J (by decide:((8:Int) ≠ 0)) (J c3 (J (sName_ok p.scroll) (J (pPeek_ok p pC (sName p.scroll)) (J (sRow_ok p.scroll) (J c4 (J (sShade_ok p.scroll) (J (show 0 ≤ (u16.wrap ((u16.wrap ((u16.wrap (16 * (u16.wrap (pPeek p pC (sName p.scroll))))) + (u16.wrap (sRow p.scroll)))) + 4096)) ∧ (u16.wrap ((u16.wrap ((u16.wrap (16 * (u16.wrap (pPeek p pC (sName p.scroll))))) + (u16.wrap (sRow p.scroll)))) + 4096)) < ((8192:Nat):Int) from by have q0_:=sRow_lt p.scroll;have q1_:=(pPeek_w p pC (sName p.scroll) w_p (sName_w p.scroll w_p.scroll));have q2_:=(sName_w p.scroll w_p.scroll);first | omega | (simp only [decide_eq_true_eq,decide_eq_false_iff_not,rng,IntKind.wrap_i64,IntKind.wrap_u8,IntKind.wrap_u16] at *;omega)) (J (show (Int.toNat (u16.wrap ((u16.wrap ((u16.wrap (16 * (u16.wrap (pPeek p pC (sName p.scroll))))) + (u16.wrap (sRow p.scroll)))) + 4096))) < 8192 from by have q0_:=sRow_lt p.scroll;have q1_:=(pPeek_w p pC (sName p.scroll) w_p (sName_w p.scroll w_p.scroll));have q2_:=(sName_w p.scroll w_p.scroll);first | omega | (simp only [decide_eq_true_eq,decide_eq_false_iff_not,rng,IntKind.wrap_i64,IntKind.wrap_u8,IntKind.wrap_u16] at *;omega)) (J (show 0 ≤ (u16.wrap ((u16.wrap ((u16.wrap ((u16.wrap (16 * (u16.wrap (pPeek p pC (sName p.scroll))))) + (u16.wrap (sRow p.scroll)))) + 4096)) + 8)) ∧ (u16.wrap ((u16.wrap ((u16.wrap ((u16.wrap (16 * (u16.wrap (pPeek p pC (sName p.scroll))))) + (u16.wrap (sRow p.scroll)))) + 4096)) + 8)) < ((8192:Nat):Int) from by have q0_:=sRow_lt p.scroll;have q1_:=(pPeek_w p pC (sName p.scroll) w_p (sName_w p.scroll w_p.scroll));have q2_:=(sName_w p.scroll w_p.scroll);first | omega | (simp only [decide_eq_true_eq,decide_eq_false_iff_not,rng,IntKind.wrap_i64,IntKind.wrap_u8,IntKind.wrap_u16] at *;omega)) (J (show (Int.toNat (u16.wrap ((u16.wrap ((u16.wrap ((u16.wrap (16 * (u16.wrap (pPeek p pC (sName p.scroll))))) + (u16.wrap (sRow p.scroll)))) + 4096)) + 8))) < 8192 from by have q0_:=sRow_lt p.scroll;have q1_:=(pPeek_w p pC (sName p.scroll) w_p (sName_w p.scroll w_p.scroll));have q2_:=(sName_w p.scroll w_p.scroll);first | omega | (simp only [decide_eq_true_eq,decide_eq_false_iff_not,rng,IntKind.wrap_i64,IntKind.wrap_u8,IntKind.wrap_u16] at *;omega)) (J (two_ok (p.tiles (Int.toNat (u16.wrap ((PDk1 p pC) + 4096)))) (p.tiles (Int.toNat (u16.wrap ((u16.wrap ((PDk1 p pC) + 4096)) + 8)))) (PDk2 x p) (show 0 ≤ (i64.wrap ((Int.tmod x 8) + (i64.wrap p.scroll.X))) from by have q0_:=w_p.scroll.X;have q1_:=tmod_8 x hx;first | omega | (simp only [decide_eq_true_eq,decide_eq_false_iff_not,rng,IntKind.wrap_i64,IntKind.wrap_u8,IntKind.wrap_u16] at *;omega))) (J (pPeek_ok p pC ((sShade p.scroll).1)) (J (show 0 ≤ (sShade p.scroll).2 from by have q0_:=(sShade_w2 p.scroll w_p.scroll);first | omega | (simp only [decide_eq_true_eq,decide_eq_false_iff_not,rng,IntKind.wrap_i64,IntKind.wrap_u8,IntKind.wrap_u16] at *;omega)) trivial))))))))))))))))))))))))))) (by kernel_rfl)
    ·rw [if_neg (nt c4)]
     exact fn_of_x hG hM Try.func70 (by kernel_rfl) (by kernel_rfl) 400 [.no,.no,.no,.no,.no,.no,.no,.no,.no,.no,.no,.no,.no,.no,.call [] [] 1000 (.int .u16 (sName p.scroll)) [],.call [(1000,1000),(1001,1001)] [] 1002 (.int .u8 (pPeek p pC (sName p.scroll))) [(1000,(PDk3 p pC)),(1001,sB pC false)],.call [] [] 1000 (.int .u8 (sRow p.scroll)) [],.no,.call [] [] 1000 (.tuple ⟨[.int .u16 ((sShade p.scroll).1),.int .u8 ((sShade p.scroll).2)]⟩) [],.sym,.sym,.call [] [] 1000 (.int .u8 (two (p.tiles (Int.toNat (PDk1 p pC))) (p.tiles (Int.toNat (u16.wrap ((PDk1 p pC) + 8)))) (PDk2 x p))) [],.call [(1000,1000),(1001,1001)] [] 1002 (.int .u8 (pPeek p pC ((sShade p.scroll).1))) [(1000,(PDk3 p pC)),(1001,sB pC false)]] (J c1 (J c1 (J c1 (J c2 (J c2 (J c2 (J c2 (J c2 (J c2 (J c1 (J c2 (J c1 (J T0 (J (by decide:((8:Int) ≠ 0)) (J c3 (J (sName_ok p.scroll) (J (pPeek_ok p pC (sName p.scroll)) (J (sRow_ok p.scroll) (J c4 (J (sShade_ok p.scroll) (J (show 0 ≤ (u16.wrap ((u16.wrap (16 * (u16.wrap (pPeek p pC (sName p.scroll))))) + (u16.wrap (sRow p.scroll)))) ∧ (u16.wrap ((u16.wrap (16 * (u16.wrap (pPeek p pC (sName p.scroll))))) + (u16.wrap (sRow p.scroll)))) < ((8192:Nat):Int) from by have q0_:=sRow_lt p.scroll;have q1_:=(pPeek_w p pC (sName p.scroll) w_p (sName_w p.scroll w_p.scroll));have q2_:=(sName_w p.scroll w_p.scroll);first | omega | (simp only [decide_eq_true_eq,decide_eq_false_iff_not,rng,IntKind.wrap_i64,IntKind.wrap_u8,IntKind.wrap_u16] at *;omega)) (J (show (Int.toNat (u16.wrap ((u16.wrap (16 * (u16.wrap (pPeek p pC (sName p.scroll))))) + (u16.wrap (sRow p.scroll))))) < 8192 from by have q0_:=sRow_lt p.scroll;have q1_:=(pPeek_w p pC (sName p.scroll) w_p (sName_w p.scroll w_p.scroll));have q2_:=(sName_w p.scroll w_p.scroll);first | omega | (simp only [decide_eq_true_eq,decide_eq_false_iff_not,rng,IntKind.wrap_i64,IntKind.wrap_u8,IntKind.wrap_u16] at *;omega)) (J (show 0 ≤ (u16.wrap ((u16.wrap ((u16.wrap (16 * (u16.wrap (pPeek p pC (sName p.scroll))))) + (u16.wrap (sRow p.scroll)))) + 8)) ∧ (u16.wrap ((u16.wrap ((u16.wrap (16 * (u16.wrap (pPeek p pC (sName p.scroll))))) + (u16.wrap (sRow p.scroll)))) + 8)) < ((8192:Nat):Int) from by have q0_:=sRow_lt p.scroll;have q1_:=(pPeek_w p pC (sName p.scroll) w_p (sName_w p.scroll w_p.scroll));have q2_:=(sName_w p.scroll w_p.scroll);first | omega | (simp only [decide_eq_true_eq,decide_eq_false_iff_not,rng,IntKind.wrap_i64,IntKind.wrap_u8,IntKind.wrap_u16] at *;omega)) (J (show (Int.toNat (u16.wrap ((u16.wrap ((u16.wrap (16 * (u16.wrap (pPeek p pC (sName p.scroll))))) + (u16.wrap (sRow p.scroll)))) + 8))) < 8192 from by have q0_:=sRow_lt p.scroll;have q1_:=(pPeek_w p pC (sName p.scroll) w_p (sName_w p.scroll w_p.scroll));have q2_:=(sName_w p.scroll w_p.scroll);first | omega | (simp only [decide_eq_true_eq,decide_eq_false_iff_not,rng,IntKind.wrap_i64,IntKind.wrap_u8,IntKind.wrap_u16] at *;omega)) (J (two_ok (p.tiles (Int.toNat (PDk1 p pC))) (p.tiles (Int.toNat (u16.wrap ((PDk1 p pC) + 8)))) (PDk2 x p) (show 0 ≤ (i64.wrap ((Int.tmod x 8) + (i64.wrap p.scroll.X))) from by have q0_:=w_p.scroll.X;have q1_:=tmod_8 x hx;first | omega | (simp only [decide_eq_true_eq,decide_eq_false_iff_not,rng,IntKind.wrap_i64,IntKind.wrap_u8,IntKind.wrap_u16] at *;omega))) (J (pPeek_ok p pC ((sShade p.scroll).1)) (J (show 0 ≤ (sShade p.scroll).2 from by have q0_:=(sShade_w2 p.scroll w_p.scroll);first | omega | (simp only [decide_eq_true_eq,decide_eq_false_iff_not,rng,IntKind.wrap_i64,IntKind.wrap_u8,IntKind.wrap_u16] at *;omega)) trivial))))))))))))))))))))))))))) (by kernel_rfl)
def pFetch (p:Pic) (pC:List Sprite) (a:Int) (row:Int):Sprite:=
 if ((bAnd .u8 (p.men (Int.toNat (i64.wrap (a + 2)))) 128) != 0) = true then
  if ((bAnd .u8 p.control 32) != 0) = true then
   ({ low:=(p.tiles (Int.toNat (u16.wrap ((u16.wrap ((u16.wrap (4096 * (u16.wrap (bAnd .u8 (p.men (Int.toNat (i64.wrap (a + 1)))) 1)))) + (u16.wrap (16 * (u16.wrap (bAndNot .u8 (p.men (Int.toNat (i64.wrap (a + 1)))) 1)))))) + (u16.wrap (i64.wrap ((i64.wrap ((i64.wrap ((pHeight p pC) - 1)) - row)) + (i64.wrap ((i64.wrap (Int.tdiv (i64.wrap ((i64.wrap ((pHeight p pC) - 1)) - row)) 8)) * 8))))))))),high:=(p.tiles (Int.toNat (u16.wrap ((u16.wrap ((u16.wrap ((u16.wrap (4096 * (u16.wrap (bAnd .u8 (p.men (Int.toNat (i64.wrap (a + 1)))) 1)))) + (u16.wrap (16 * (u16.wrap (bAndNot .u8 (p.men (Int.toNat (i64.wrap (a + 1)))) 1)))))) + (u16.wrap (i64.wrap ((i64.wrap ((i64.wrap ((pHeight p pC) - 1)) - row)) + (i64.wrap ((i64.wrap (Int.tdiv (i64.wrap ((i64.wrap ((pHeight p pC) - 1)) - row)) 8)) * 8))))))) + 8)))),look:=(p.men (Int.toNat (i64.wrap (a + 2)))),x:=(p.men (Int.toNat (i64.wrap (a + 3)))),first:=(a == 0) }:Sprite)
  else
   if ((bAnd .u8 p.control 8) != 0) = true then
    ({ low:=(p.tiles (Int.toNat (u16.wrap ((u16.wrap ((u16.wrap (16 * (u16.wrap (p.men (Int.toNat (i64.wrap (a + 1))))))) + (u16.wrap (i64.wrap ((i64.wrap ((pHeight p pC) - 1)) - row))))) + 4096)))),high:=(p.tiles (Int.toNat (u16.wrap ((u16.wrap ((u16.wrap ((u16.wrap (16 * (u16.wrap (p.men (Int.toNat (i64.wrap (a + 1))))))) + (u16.wrap (i64.wrap ((i64.wrap ((pHeight p pC) - 1)) - row))))) + 4096)) + 8)))),look:=(p.men (Int.toNat (i64.wrap (a + 2)))),x:=(p.men (Int.toNat (i64.wrap (a + 3)))),first:=(a == 0) }:Sprite)
   else
    ({ low:=(p.tiles (Int.toNat (u16.wrap ((u16.wrap (16 * (u16.wrap (p.men (Int.toNat (i64.wrap (a + 1))))))) + (u16.wrap (i64.wrap ((i64.wrap ((pHeight p pC) - 1)) - row))))))),high:=(p.tiles (Int.toNat (u16.wrap ((u16.wrap ((u16.wrap (16 * (u16.wrap (p.men (Int.toNat (i64.wrap (a + 1))))))) + (u16.wrap (i64.wrap ((i64.wrap ((pHeight p pC) - 1)) - row))))) + 8)))),look:=(p.men (Int.toNat (i64.wrap (a + 2)))),x:=(p.men (Int.toNat (i64.wrap (a + 3)))),first:=(a == 0) }:Sprite)
 else
  if ((bAnd .u8 p.control 32) != 0) = true then
   ({ low:=(p.tiles (Int.toNat (u16.wrap ((u16.wrap ((u16.wrap (4096 * (u16.wrap (bAnd .u8 (p.men (Int.toNat (i64.wrap (a + 1)))) 1)))) + (u16.wrap (16 * (u16.wrap (bAndNot .u8 (p.men (Int.toNat (i64.wrap (a + 1)))) 1)))))) + (u16.wrap (i64.wrap (row + (i64.wrap ((i64.wrap (Int.tdiv row 8)) * 8))))))))),high:=(p.tiles (Int.toNat (u16.wrap ((u16.wrap ((u16.wrap ((u16.wrap (4096 * (u16.wrap (bAnd .u8 (p.men (Int.toNat (i64.wrap (a + 1)))) 1)))) + (u16.wrap (16 * (u16.wrap (bAndNot .u8 (p.men (Int.toNat (i64.wrap (a + 1)))) 1)))))) + (u16.wrap (i64.wrap (row + (i64.wrap ((i64.wrap (Int.tdiv row 8)) * 8))))))) + 8)))),look:=(p.men (Int.toNat (i64.wrap (a + 2)))),x:=(p.men (Int.toNat (i64.wrap (a + 3)))),first:=(a == 0) }:Sprite)
  else
   if ((bAnd .u8 p.control 8) != 0) = true then
    ({ low:=(p.tiles (Int.toNat (u16.wrap ((u16.wrap ((u16.wrap (16 * (u16.wrap (p.men (Int.toNat (i64.wrap (a + 1))))))) + (u16.wrap row))) + 4096)))),high:=(p.tiles (Int.toNat (u16.wrap ((u16.wrap ((u16.wrap ((u16.wrap (16 * (u16.wrap (p.men (Int.toNat (i64.wrap (a + 1))))))) + (u16.wrap row))) + 4096)) + 8)))),look:=(p.men (Int.toNat (i64.wrap (a + 2)))),x:=(p.men (Int.toNat (i64.wrap (a + 3)))),first:=(a == 0) }:Sprite)
   else
    ({ low:=(p.tiles (Int.toNat (u16.wrap ((u16.wrap (16 * (u16.wrap (p.men (Int.toNat (i64.wrap (a + 1))))))) + (u16.wrap row))))),high:=(p.tiles (Int.toNat (u16.wrap ((u16.wrap ((u16.wrap (16 * (u16.wrap (p.men (Int.toNat (i64.wrap (a + 1))))))) + (u16.wrap row))) + 8)))),look:=(p.men (Int.toNat (i64.wrap (a + 2)))),x:=(p.men (Int.toNat (i64.wrap (a + 3)))),first:=(a == 0) }:Sprite)
theorem pFetch_ok (p:Pic) (pC:List Sprite) (a:Int) (row:Int) (w_p:Pic.ok p) (ha:0 ≤ a) (ha2:a < 253) (hr:0 ≤ row) (hr2:row < pHeight p pC):FnSpec Try.prog 77 1002 [pt 1000,.int .i64 a,.int .i64 row] [(1000,(Pic.bl p (sl 1001 (List.length pC) 5) true)),(1001,sB pC true)] (Sprite.enc (pFetch p pC a row)) []:=by
 unfold pFetch
 rcases bt ((bAnd .u8 (p.men (Int.toNat (i64.wrap (a + 2)))) 128) != 0) with c1 | c1
 ·rw [if_pos c1]
  rcases bt ((bAnd .u8 p.control 32) != 0) with c2 | c2
  ·rw [if_pos c2]
   have o1:0 ≤ (i64.wrap (a + 1)) ∧ (i64.wrap (a + 1)) < ((256:Nat):Int):=by first | decide | omega | (simp only [decide_eq_true_eq,decide_eq_false_iff_not,rng,IntKind.wrap_i64,IntKind.wrap_u8,IntKind.wrap_u16] at *;omega)
   have o2:(Int.toNat (i64.wrap (a + 1))) < 256:=by first | decide | omega | (simp only [decide_eq_true_eq,decide_eq_false_iff_not,rng,IntKind.wrap_i64,IntKind.wrap_u8,IntKind.wrap_u16] at *;omega)
   have o3:0 ≤ (i64.wrap (a + 2)) ∧ (i64.wrap (a + 2)) < ((256:Nat):Int):=by first | decide | omega | (simp only [decide_eq_true_eq,decide_eq_false_iff_not,rng,IntKind.wrap_i64,IntKind.wrap_u8,IntKind.wrap_u16] at *;omega)
   have o4:(Int.toNat (i64.wrap (a + 2))) < 256:=by first | decide | omega | (simp only [decide_eq_true_eq,decide_eq_false_iff_not,rng,IntKind.wrap_i64,IntKind.wrap_u8,IntKind.wrap_u16] at *;omega)
   exact fn_of_x hG hM Try.func77 (by kernel_rfl) (by kernel_rfl) 400 [.sym,.sym,.yes,.call [(1000,1000),(1001,1001)] [] 1002 (.int .i64 (pHeight p pC)) [],.yes,.sym,.sym,.sym] (J o1 (J o2 (J o3 (J o4 (J c1 (J (pHeight_ok p pC) (J c2 (J (by decide:((8:Int) ≠ 0)) (J (show 0 ≤ (u16.wrap ((u16.wrap ((u16.wrap (4096 * (u16.wrap (bAnd .u8 (p.men (Int.toNat (i64.wrap (a + 1)))) 1)))) + (u16.wrap (16 * (u16.wrap (bAndNot .u8 (p.men (Int.toNat (i64.wrap (a + 1)))) 1)))))) + (u16.wrap (i64.wrap ((i64.wrap ((i64.wrap ((pHeight p pC) - 1)) - row)) + (i64.wrap ((i64.wrap (Int.tdiv (i64.wrap ((i64.wrap ((pHeight p pC) - 1)) - row)) 8)) * 8))))))) ∧ (u16.wrap ((u16.wrap ((u16.wrap (4096 * (u16.wrap (bAnd .u8 (p.men (Int.toNat (i64.wrap (a + 1)))) 1)))) + (u16.wrap (16 * (u16.wrap (bAndNot .u8 (p.men (Int.toNat (i64.wrap (a + 1)))) 1)))))) + (u16.wrap (i64.wrap ((i64.wrap ((i64.wrap ((pHeight p pC) - 1)) - row)) + (i64.wrap ((i64.wrap (Int.tdiv (i64.wrap ((i64.wrap ((pHeight p pC) - 1)) - row)) 8)) * 8))))))) < ((8192:Nat):Int) from by have q0_:=pHeight_t (L:=pC) c2;have q1_:=band8 (p.men (Int.toNat (i64.wrap (a + 1)))) 1 (by decide) (by decide);have q2_:=pHeight_le p pC;have q3_:=bandnot1 (p.men (Int.toNat (i64.wrap (a + 1))));have q4_:=tdiv_8 (i64.wrap ((i64.wrap ((pHeight p pC) - 1)) - row)) (by first | omega | (simp only [IntKind.wrap_i64] at *;omega));have q5_:=(w_p.men (Int.toNat (i64.wrap (a + 1))));first | omega | (simp only [decide_eq_true_eq,decide_eq_false_iff_not,rng,IntKind.wrap_i64,IntKind.wrap_u8,IntKind.wrap_u16] at *;omega)) (J (show (Int.toNat (u16.wrap ((u16.wrap ((u16.wrap (4096 * (u16.wrap (bAnd .u8 (p.men (Int.toNat (i64.wrap (a + 1)))) 1)))) + (u16.wrap (16 * (u16.wrap (bAndNot .u8 (p.men (Int.toNat (i64.wrap (a + 1)))) 1)))))) + (u16.wrap (i64.wrap ((i64.wrap ((i64.wrap ((pHeight p pC) - 1)) - row)) + (i64.wrap ((i64.wrap (Int.tdiv (i64.wrap ((i64.wrap ((pHeight p pC) - 1)) - row)) 8)) * 8)))))))) < 8192 from by have q0_:=pHeight_t (L:=pC) c2;have q1_:=band8 (p.men (Int.toNat (i64.wrap (a + 1)))) 1 (by decide) (by decide);have q2_:=pHeight_le p pC;have q3_:=bandnot1 (p.men (Int.toNat (i64.wrap (a + 1))));have q4_:=tdiv_8 (i64.wrap ((i64.wrap ((pHeight p pC) - 1)) - row)) (by first | omega | (simp only [IntKind.wrap_i64] at *;omega));have q5_:=(w_p.men (Int.toNat (i64.wrap (a + 1))));first | omega | (simp only [decide_eq_true_eq,decide_eq_false_iff_not,rng,IntKind.wrap_i64,IntKind.wrap_u8,IntKind.wrap_u16] at *;omega)) (J (show 0 ≤ (u16.wrap ((u16.wrap ((u16.wrap ((u16.wrap (4096 * (u16.wrap (bAnd .u8 (p.men (Int.toNat (i64.wrap (a + 1)))) 1)))) + (u16.wrap (16 * (u16.wrap (bAndNot .u8 (p.men (Int.toNat (i64.wrap (a + 1)))) 1)))))) + (u16.wrap (i64.wrap ((i64.wrap ((i64.wrap ((pHeight p pC) - 1)) - row)) + (i64.wrap ((i64.wrap (Int.tdiv (i64.wrap ((i64.wrap ((pHeight p pC) - 1)) - row)) 8)) * 8))))))) + 8)) ∧ (u16.wrap ((u16.wrap ((u16.wrap ((u16.wrap (4096 * (u16.wrap (bAnd .u8 (p.men (Int.toNat (i64.wrap (a + 1)))) 1)))) + (u16.wrap (16 * (u16.wrap (bAndNot .u8 (p.men (Int.toNat (i64.wrap (a + 1)))) 1)))))) + (u16.wrap (i64.wrap ((i64.wrap ((i64.wrap ((pHeight p pC) - 1)) - row)) + (i64.wrap ((i64.wrap (Int.tdiv (i64.wrap ((i64.wrap ((pHeight p pC) - 1)) - row)) 8)) * 8))))))) + 8)) < ((8192:Nat):Int) from by have q0_:=pHeight_t (L:=pC) c2;have q1_:=band8 (p.men (Int.toNat (i64.wrap (a + 1)))) 1 (by decide) (by decide);have q2_:=pHeight_le p pC;have q3_:=bandnot1 (p.men (Int.toNat (i64.wrap (a + 1))));have q4_:=tdiv_8 (i64.wrap ((i64.wrap ((pHeight p pC) - 1)) - row)) (by first | omega | (simp only [IntKind.wrap_i64] at *;omega));have q5_:=(w_p.men (Int.toNat (i64.wrap (a + 1))));first | omega | (simp only [decide_eq_true_eq,decide_eq_false_iff_not,rng,IntKind.wrap_i64,IntKind.wrap_u8,IntKind.wrap_u16] at *;omega)) (J (show (Int.toNat (u16.wrap ((u16.wrap ((u16.wrap ((u16.wrap (4096 * (u16.wrap (bAnd .u8 (p.men (Int.toNat (i64.wrap (a + 1)))) 1)))) + (u16.wrap (16 * (u16.wrap (bAndNot .u8 (p.men (Int.toNat (i64.wrap (a + 1)))) 1)))))) + (u16.wrap (i64.wrap ((i64.wrap ((i64.wrap ((pHeight p pC) - 1)) - row)) + (i64.wrap ((i64.wrap (Int.tdiv (i64.wrap ((i64.wrap ((pHeight p pC) - 1)) - row)) 8)) * 8))))))) + 8))) < 8192 from by have q0_:=pHeight_t (L:=pC) c2;have q1_:=band8 (p.men (Int.toNat (i64.wrap (a + 1)))) 1 (by decide) (by decide);have q2_:=pHeight_le p pC;have q3_:=bandnot1 (p.men (Int.toNat (i64.wrap (a + 1))));have q4_:=tdiv_8 (i64.wrap ((i64.wrap ((pHeight p pC) - 1)) - row)) (by first | omega | (simp only [IntKind.wrap_i64] at *;omega));have q5_:=(w_p.men (Int.toNat (i64.wrap (a + 1))));first | omega | (simp only [decide_eq_true_eq,decide_eq_false_iff_not,rng,IntKind.wrap_i64,IntKind.wrap_u8,IntKind.wrap_u16] at *;omega)) (J (show 0 ≤ (i64.wrap (a + 3)) ∧ (i64.wrap (a + 3)) < ((256:Nat):Int) from by have q0_:=pHeight_t (L:=pC) c2;first | omega | (simp only [decide_eq_true_eq,decide_eq_false_iff_not,rng,IntKind.wrap_i64,IntKind.wrap_u8,IntKind.wrap_u16] at *;omega)) (J (show (Int.toNat (i64.wrap (a + 3))) < 256 from by have q0_:=pHeight_t (L:=pC) c2;first | omega | (simp only [decide_eq_true_eq,decide_eq_false_iff_not,rng,IntKind.wrap_i64,IntKind.wrap_u8,IntKind.wrap_u16] at *;omega)) trivial)))))))))))))) (by kernel_rfl)
  ·rw [if_neg (nt c2)]
   rcases bt ((bAnd .u8 p.control 8) != 0) with c3 | c3
   ·rw [if_pos c3]
    have o1:0 ≤ (i64.wrap (a + 1)) ∧ (i64.wrap (a + 1)) < ((256:Nat):Int):=by first | decide | omega | (simp only [decide_eq_true_eq,decide_eq_false_iff_not,rng,IntKind.wrap_i64,IntKind.wrap_u8,IntKind.wrap_u16] at *;omega)
    have o2:(Int.toNat (i64.wrap (a + 1))) < 256:=by first | decide | omega | (simp only [decide_eq_true_eq,decide_eq_false_iff_not,rng,IntKind.wrap_i64,IntKind.wrap_u8,IntKind.wrap_u16] at *;omega)
    have o3:0 ≤ (i64.wrap (a + 2)) ∧ (i64.wrap (a + 2)) < ((256:Nat):Int):=by first | decide | omega | (simp only [decide_eq_true_eq,decide_eq_false_iff_not,rng,IntKind.wrap_i64,IntKind.wrap_u8,IntKind.wrap_u16] at *;omega)
    have o4:(Int.toNat (i64.wrap (a + 2))) < 256:=by first | decide | omega | (simp only [decide_eq_true_eq,decide_eq_false_iff_not,rng,IntKind.wrap_i64,IntKind.wrap_u8,IntKind.wrap_u16] at *;omega)
    exact fn_of_x hG hM Try.func77 (by kernel_rfl) (by kernel_rfl) 400 [.sym,.sym,.yes,.call [(1000,1000),(1001,1001)] [] 1002 (.int .i64 (pHeight p pC)) [],.no,.yes,.sym,.sym,.sym] (J o1 (J o2 (J o3 (J o4 (J c1 (J (pHeight_ok p pC) (J c2 (J c3 (J (show 0 ≤ (u16.wrap ((u16.wrap ((u16.wrap (16 * (u16.wrap (p.men (Int.toNat (i64.wrap (a + 1))))))) + (u16.wrap (i64.wrap ((i64.wrap ((pHeight p pC) - 1)) - row))))) + 4096)) ∧ (u16.wrap ((u16.wrap ((u16.wrap (16 * (u16.wrap (p.men (Int.toNat (i64.wrap (a + 1))))))) + (u16.wrap (i64.wrap ((i64.wrap ((pHeight p pC) - 1)) - row))))) + 4096)) < ((8192:Nat):Int) from by have q0_:=pHeight_f (L:=pC) c2;have q1_:=pHeight_le p pC;have q2_:=(w_p.men (Int.toNat (i64.wrap (a + 1))));first | omega | (simp only [decide_eq_true_eq,decide_eq_false_iff_not,rng,IntKind.wrap_i64,IntKind.wrap_u8,IntKind.wrap_u16] at *;omega)) (J (show (Int.toNat (u16.wrap ((u16.wrap ((u16.wrap (16 * (u16.wrap (p.men (Int.toNat (i64.wrap (a + 1))))))) + (u16.wrap (i64.wrap ((i64.wrap ((pHeight p pC) - 1)) - row))))) + 4096))) < 8192 from by have q0_:=pHeight_f (L:=pC) c2;have q1_:=pHeight_le p pC;have q2_:=(w_p.men (Int.toNat (i64.wrap (a + 1))));first | omega | (simp only [decide_eq_true_eq,decide_eq_false_iff_not,rng,IntKind.wrap_i64,IntKind.wrap_u8,IntKind.wrap_u16] at *;omega)) (J (show 0 ≤ (u16.wrap ((u16.wrap ((u16.wrap ((u16.wrap (16 * (u16.wrap (p.men (Int.toNat (i64.wrap (a + 1))))))) + (u16.wrap (i64.wrap ((i64.wrap ((pHeight p pC) - 1)) - row))))) + 4096)) + 8)) ∧ (u16.wrap ((u16.wrap ((u16.wrap ((u16.wrap (16 * (u16.wrap (p.men (Int.toNat (i64.wrap (a + 1))))))) + (u16.wrap (i64.wrap ((i64.wrap ((pHeight p pC) - 1)) - row))))) + 4096)) + 8)) < ((8192:Nat):Int) from by have q0_:=pHeight_f (L:=pC) c2;have q1_:=pHeight_le p pC;have q2_:=(w_p.men (Int.toNat (i64.wrap (a + 1))));first | omega | (simp only [decide_eq_true_eq,decide_eq_false_iff_not,rng,IntKind.wrap_i64,IntKind.wrap_u8,IntKind.wrap_u16] at *;omega)) (J (show (Int.toNat (u16.wrap ((u16.wrap ((u16.wrap ((u16.wrap (16 * (u16.wrap (p.men (Int.toNat (i64.wrap (a + 1))))))) + (u16.wrap (i64.wrap ((i64.wrap ((pHeight p pC) - 1)) - row))))) + 4096)) + 8))) < 8192 from by have q0_:=pHeight_f (L:=pC) c2;have q1_:=pHeight_le p pC;have q2_:=(w_p.men (Int.toNat (i64.wrap (a + 1))));first | omega | (simp only [decide_eq_true_eq,decide_eq_false_iff_not,rng,IntKind.wrap_i64,IntKind.wrap_u8,IntKind.wrap_u16] at *;omega)) (J (show 0 ≤ (i64.wrap (a + 3)) ∧ (i64.wrap (a + 3)) < ((256:Nat):Int) from by have q0_:=pHeight_f (L:=pC) c2;first | omega | (simp only [decide_eq_true_eq,decide_eq_false_iff_not,rng,IntKind.wrap_i64,IntKind.wrap_u8,IntKind.wrap_u16] at *;omega)) (J (show (Int.toNat (i64.wrap (a + 3))) < 256 from by have q0_:=pHeight_f (L:=pC) c2;first | omega | (simp only [decide_eq_true_eq,decide_eq_false_iff_not,rng,IntKind.wrap_i64,IntKind.wrap_u8,IntKind.wrap_u16] at *;omega)) trivial)))))))))))))) (by kernel_rfl)
   ·rw [if_neg (nt c3)]
    have o1:0 ≤ (i64.wrap (a + 1)) ∧ (i64.wrap (a + 1)) < ((256:Nat):Int):=by first | decide | omega | (simp only [decide_eq_true_eq,decide_eq_false_iff_not,rng,IntKind.wrap_i64,IntKind.wrap_u8,IntKind.wrap_u16] at *;omega)
    have o2:(Int.toNat (i64.wrap (a + 1))) < 256:=by first | decide | omega | (simp only [decide_eq_true_eq,decide_eq_false_iff_not,rng,IntKind.wrap_i64,IntKind.wrap_u8,IntKind.wrap_u16] at *;omega)
    have o3:0 ≤ (i64.wrap (a + 2)) ∧ (i64.wrap (a + 2)) < ((256:Nat):Int):=by first | decide | omega | (simp only [decide_eq_true_eq,decide_eq_false_iff_not,rng,IntKind.wrap_i64,IntKind.wrap_u8,IntKind.wrap_u16] at *;omega)
    have o4:(Int.toNat (i64.wrap (a + 2))) < 256:=by first | decide | omega | (simp only [decide_eq_true_eq,decide_eq_false_iff_not,rng,IntKind.wrap_i64,IntKind.wrap_u8,IntKind.wrap_u16] at *;omega)
    exact fn_of_x hG hM Try.func77 (by kernel_rfl) (by kernel_rfl) 400 [.sym,.sym,.yes,.call [(1000,1000),(1001,1001)] [] 1002 (.int .i64 (pHeight p pC)) [],.no,.no,.sym,.sym,.sym] (J o1 (J o2 (J o3 (J o4 (J c1 (J (pHeight_ok p pC) (J c2 (J c3 (J (show 0 ≤ (u16.wrap ((u16.wrap (16 * (u16.wrap (p.men (Int.toNat (i64.wrap (a + 1))))))) + (u16.wrap (i64.wrap ((i64.wrap ((pHeight p pC) - 1)) - row))))) ∧ (u16.wrap ((u16.wrap (16 * (u16.wrap (p.men (Int.toNat (i64.wrap (a + 1))))))) + (u16.wrap (i64.wrap ((i64.wrap ((pHeight p pC) - 1)) - row))))) < ((8192:Nat):Int) from by have q0_:=pHeight_f (L:=pC) c2;have q1_:=pHeight_le p pC;have q2_:=(w_p.men (Int.toNat (i64.wrap (a + 1))));first | omega | (simp only [decide_eq_true_eq,decide_eq_false_iff_not,rng,IntKind.wrap_i64,IntKind.wrap_u8,IntKind.wrap_u16] at *;omega)) (J (show (Int.toNat (u16.wrap ((u16.wrap (16 * (u16.wrap (p.men (Int.toNat (i64.wrap (a + 1))))))) + (u16.wrap (i64.wrap ((i64.wrap ((pHeight p pC) - 1)) - row)))))) < 8192 from by have q0_:=pHeight_f (L:=pC) c2;have q1_:=pHeight_le p pC;have q2_:=(w_p.men (Int.toNat (i64.wrap (a + 1))));first | omega | (simp only [decide_eq_true_eq,decide_eq_false_iff_not,rng,IntKind.wrap_i64,IntKind.wrap_u8,IntKind.wrap_u16] at *;omega)) (J (show 0 ≤ (u16.wrap ((u16.wrap ((u16.wrap (16 * (u16.wrap (p.men (Int.toNat (i64.wrap (a + 1))))))) + (u16.wrap (i64.wrap ((i64.wrap ((pHeight p pC) - 1)) - row))))) + 8)) ∧ (u16.wrap ((u16.wrap ((u16.wrap (16 * (u16.wrap (p.men (Int.toNat (i64.wrap (a + 1))))))) + (u16.wrap (i64.wrap ((i64.wrap ((pHeight p pC) - 1)) - row))))) + 8)) < ((8192:Nat):Int) from by have q0_:=pHeight_f (L:=pC) c2;have q1_:=pHeight_le p pC;have q2_:=(w_p.men (Int.toNat (i64.wrap (a + 1))));first | omega | (simp only [decide_eq_true_eq,decide_eq_false_iff_not,rng,IntKind.wrap_i64,IntKind.wrap_u8,IntKind.wrap_u16] at *;omega)) (J (show (Int.toNat (u16.wrap ((u16.wrap ((u16.wrap (16 * (u16.wrap (p.men (Int.toNat (i64.wrap (a + 1))))))) + (u16.wrap (i64.wrap ((i64.wrap ((pHeight p pC) - 1)) - row))))) + 8))) < 8192 from by have q0_:=pHeight_f (L:=pC) c2;have q1_:=pHeight_le p pC;have q2_:=(w_p.men (Int.toNat (i64.wrap (a + 1))));first | omega | (simp only [decide_eq_true_eq,decide_eq_false_iff_not,rng,IntKind.wrap_i64,IntKind.wrap_u8,IntKind.wrap_u16] at *;omega)) (J (show 0 ≤ (i64.wrap (a + 3)) ∧ (i64.wrap (a + 3)) < ((256:Nat):Int) from by have q0_:=pHeight_f (L:=pC) c2;first | omega | (simp only [decide_eq_true_eq,decide_eq_false_iff_not,rng,IntKind.wrap_i64,IntKind.wrap_u8,IntKind.wrap_u16] at *;omega)) (J (show (Int.toNat (i64.wrap (a + 3))) < 256 from by have q0_:=pHeight_f (L:=pC) c2;first | omega | (simp only [decide_eq_true_eq,decide_eq_false_iff_not,rng,IntKind.wrap_i64,IntKind.wrap_u8,IntKind.wrap_u16] at *;omega)) trivial)))))))))))))) (by kernel_rfl)
 ·rw [if_neg (nt c1)]
  rcases bt ((bAnd .u8 p.control 32) != 0) with c2 | c2
  ·rw [if_pos c2]
   have o1:0 ≤ (i64.wrap (a + 1)) ∧ (i64.wrap (a + 1)) < ((256:Nat):Int):=by first | decide | omega | (simp only [decide_eq_true_eq,decide_eq_false_iff_not,rng,IntKind.wrap_i64,IntKind.wrap_u8,IntKind.wrap_u16] at *;omega)
   have o2:(Int.toNat (i64.wrap (a + 1))) < 256:=by first | decide | omega | (simp only [decide_eq_true_eq,decide_eq_false_iff_not,rng,IntKind.wrap_i64,IntKind.wrap_u8,IntKind.wrap_u16] at *;omega)
   have o3:0 ≤ (i64.wrap (a + 2)) ∧ (i64.wrap (a + 2)) < ((256:Nat):Int):=by first | decide | omega | (simp only [decide_eq_true_eq,decide_eq_false_iff_not,rng,IntKind.wrap_i64,IntKind.wrap_u8,IntKind.wrap_u16] at *;omega)
   have o4:(Int.toNat (i64.wrap (a + 2))) < 256:=by first | decide | omega | (simp only [decide_eq_true_eq,decide_eq_false_iff_not,rng,IntKind.wrap_i64,IntKind.wrap_u8,IntKind.wrap_u16] at *;omega)
   exact fn_of_x hG hM Try.func77 (by kernel_rfl) (by kernel_rfl) 400 [.sym,.sym,.no,.yes,.sym,.sym,.sym] (J o1 (J o2 (J o3 (J o4 (J c1 (J c2 (J (by decide:((8:Int) ≠ 0)) (J (show 0 ≤ (u16.wrap ((u16.wrap ((u16.wrap (4096 * (u16.wrap (bAnd .u8 (p.men (Int.toNat (i64.wrap (a + 1)))) 1)))) + (u16.wrap (16 * (u16.wrap (bAndNot .u8 (p.men (Int.toNat (i64.wrap (a + 1)))) 1)))))) + (u16.wrap (i64.wrap (row + (i64.wrap ((i64.wrap (Int.tdiv row 8)) * 8))))))) ∧ (u16.wrap ((u16.wrap ((u16.wrap (4096 * (u16.wrap (bAnd .u8 (p.men (Int.toNat (i64.wrap (a + 1)))) 1)))) + (u16.wrap (16 * (u16.wrap (bAndNot .u8 (p.men (Int.toNat (i64.wrap (a + 1)))) 1)))))) + (u16.wrap (i64.wrap (row + (i64.wrap ((i64.wrap (Int.tdiv row 8)) * 8))))))) < ((8192:Nat):Int) from by have q0_:=pHeight_t (L:=pC) c2;have q1_:=band8 (p.men (Int.toNat (i64.wrap (a + 1)))) 1 (by decide) (by decide);have q2_:=bandnot1 (p.men (Int.toNat (i64.wrap (a + 1))));have q3_:=tdiv_8 row (by first | omega | (simp only [IntKind.wrap_i64] at *;omega));have q4_:=(w_p.men (Int.toNat (i64.wrap (a + 1))));first | omega | (simp only [decide_eq_true_eq,decide_eq_false_iff_not,rng,IntKind.wrap_i64,IntKind.wrap_u8,IntKind.wrap_u16] at *;omega)) (J (show (Int.toNat (u16.wrap ((u16.wrap ((u16.wrap (4096 * (u16.wrap (bAnd .u8 (p.men (Int.toNat (i64.wrap (a + 1)))) 1)))) + (u16.wrap (16 * (u16.wrap (bAndNot .u8 (p.men (Int.toNat (i64.wrap (a + 1)))) 1)))))) + (u16.wrap (i64.wrap (row + (i64.wrap ((i64.wrap (Int.tdiv row 8)) * 8)))))))) < 8192 from by have q0_:=pHeight_t (L:=pC) c2;have q1_:=band8 (p.men (Int.toNat (i64.wrap (a + 1)))) 1 (by decide) (by decide);have q2_:=bandnot1 (p.men (Int.toNat (i64.wrap (a + 1))));have q3_:=tdiv_8 row (by first | omega | (simp only [IntKind.wrap_i64] at *;omega));have q4_:=(w_p.men (Int.toNat (i64.wrap (a + 1))));first | omega | (simp only [decide_eq_true_eq,decide_eq_false_iff_not,rng,IntKind.wrap_i64,IntKind.wrap_u8,IntKind.wrap_u16] at *;omega)) (J (show 0 ≤ (u16.wrap ((u16.wrap ((u16.wrap ((u16.wrap (4096 * (u16.wrap (bAnd .u8 (p.men (Int.toNat (i64.wrap (a + 1)))) 1)))) + (u16.wrap (16 * (u16.wrap (bAndNot .u8 (p.men (Int.toNat (i64.wrap (a + 1)))) 1)))))) + (u16.wrap (i64.wrap (row + (i64.wrap ((i64.wrap (Int.tdiv row 8)) * 8))))))) + 8)) ∧ (u16.wrap ((u16.wrap ((u16.wrap ((u16.wrap (4096 * (u16.wrap (bAnd .u8 (p.men (Int.toNat (i64.wrap (a + 1)))) 1)))) + (u16.wrap (16 * (u16.wrap (bAndNot .u8 (p.men (Int.toNat (i64.wrap (a + 1)))) 1)))))) + (u16.wrap (i64.wrap (row + (i64.wrap ((i64.wrap (Int.tdiv row 8)) * 8))))))) + 8)) < ((8192:Nat):Int) from by have q0_:=pHeight_t (L:=pC) c2;have q1_:=band8 (p.men (Int.toNat (i64.wrap (a + 1)))) 1 (by decide) (by decide);have q2_:=bandnot1 (p.men (Int.toNat (i64.wrap (a + 1))));have q3_:=tdiv_8 row (by first | omega | (simp only [IntKind.wrap_i64] at *;omega));have q4_:=(w_p.men (Int.toNat (i64.wrap (a + 1))));first | omega | (simp only [decide_eq_true_eq,decide_eq_false_iff_not,rng,IntKind.wrap_i64,IntKind.wrap_u8,IntKind.wrap_u16] at *;omega)) (J (show (Int.toNat (u16.wrap ((u16.wrap ((u16.wrap ((u16.wrap (4096 * (u16.wrap (bAnd .u8 (p.men (Int.toNat (i64.wrap (a + 1)))) 1)))) + (u16.wrap (16 * (u16.wrap (bAndNot .u8 (p.men (Int.toNat (i64.wrap (a + 1)))) 1)))))) + (u16.wrap (i64.wrap (row + (i64.wrap ((i64.wrap (Int.tdiv row 8)) * 8))))))) + 8))) < 8192 from by have q0_:=pHeight_t (L:=pC) c2;have q1_:=band8 (p.men (Int.toNat (i64.wrap (a + 1)))) 1 (by decide) (by decide);have q2_:=bandnot1 (p.men (Int.toNat (i64.wrap (a + 1))));have q3_:=tdiv_8 row (by first | omega | (simp only [IntKind.wrap_i64] at *;omega));have q4_:=(w_p.men (Int.toNat (i64.wrap (a + 1))));first | omega | (simp only [decide_eq_true_eq,decide_eq_false_iff_not,rng,IntKind.wrap_i64,IntKind.wrap_u8,IntKind.wrap_u16] at *;omega)) (J (show 0 ≤ (i64.wrap (a + 3)) ∧ (i64.wrap (a + 3)) < ((256:Nat):Int) from by have q0_:=pHeight_t (L:=pC) c2;first | omega | (simp only [decide_eq_true_eq,decide_eq_false_iff_not,rng,IntKind.wrap_i64,IntKind.wrap_u8,IntKind.wrap_u16] at *;omega)) (J (show (Int.toNat (i64.wrap (a + 3))) < 256 from by have q0_:=pHeight_t (L:=pC) c2;first | omega | (simp only [decide_eq_true_eq,decide_eq_false_iff_not,rng,IntKind.wrap_i64,IntKind.wrap_u8,IntKind.wrap_u16] at *;omega)) trivial))))))))))))) (by kernel_rfl)
  ·rw [if_neg (nt c2)]
   rcases bt ((bAnd .u8 p.control 8) != 0) with c3 | c3
   ·rw [if_pos c3]
    have o1:0 ≤ (i64.wrap (a + 1)) ∧ (i64.wrap (a + 1)) < ((256:Nat):Int):=by first | decide | omega | (simp only [decide_eq_true_eq,decide_eq_false_iff_not,rng,IntKind.wrap_i64,IntKind.wrap_u8,IntKind.wrap_u16] at *;omega)
    have o2:(Int.toNat (i64.wrap (a + 1))) < 256:=by first | decide | omega | (simp only [decide_eq_true_eq,decide_eq_false_iff_not,rng,IntKind.wrap_i64,IntKind.wrap_u8,IntKind.wrap_u16] at *;omega)
    have o3:0 ≤ (i64.wrap (a + 2)) ∧ (i64.wrap (a + 2)) < ((256:Nat):Int):=by first | decide | omega | (simp only [decide_eq_true_eq,decide_eq_false_iff_not,rng,IntKind.wrap_i64,IntKind.wrap_u8,IntKind.wrap_u16] at *;omega)
    have o4:(Int.toNat (i64.wrap (a + 2))) < 256:=by first | decide | omega | (simp only [decide_eq_true_eq,decide_eq_false_iff_not,rng,IntKind.wrap_i64,IntKind.wrap_u8,IntKind.wrap_u16] at *;omega)
    exact fn_of_x hG hM Try.func77 (by kernel_rfl) (by kernel_rfl) 400 [.sym,.sym,.no,.no,.yes,.sym,.sym,.sym] (J o1 (J o2 (J o3 (J o4 (J c1 (J c2 (J c3 (J (show 0 ≤ (u16.wrap ((u16.wrap ((u16.wrap (16 * (u16.wrap (p.men (Int.toNat (i64.wrap (a + 1))))))) + (u16.wrap row))) + 4096)) ∧ (u16.wrap ((u16.wrap ((u16.wrap (16 * (u16.wrap (p.men (Int.toNat (i64.wrap (a + 1))))))) + (u16.wrap row))) + 4096)) < ((8192:Nat):Int) from by have q0_:=pHeight_f (L:=pC) c2;have q1_:=(w_p.men (Int.toNat (i64.wrap (a + 1))));first | omega | (simp only [decide_eq_true_eq,decide_eq_false_iff_not,rng,IntKind.wrap_i64,IntKind.wrap_u8,IntKind.wrap_u16] at *;omega)) (J (show (Int.toNat (u16.wrap ((u16.wrap ((u16.wrap (16 * (u16.wrap (p.men (Int.toNat (i64.wrap (a + 1))))))) + (u16.wrap row))) + 4096))) < 8192 from by have q0_:=pHeight_f (L:=pC) c2;have q1_:=(w_p.men (Int.toNat (i64.wrap (a + 1))));first | omega | (simp only [decide_eq_true_eq,decide_eq_false_iff_not,rng,IntKind.wrap_i64,IntKind.wrap_u8,IntKind.wrap_u16] at *;omega)) (J (show 0 ≤ (u16.wrap ((u16.wrap ((u16.wrap ((u16.wrap (16 * (u16.wrap (p.men (Int.toNat (i64.wrap (a + 1))))))) + (u16.wrap row))) + 4096)) + 8)) ∧ (u16.wrap ((u16.wrap ((u16.wrap ((u16.wrap (16 * (u16.wrap (p.men (Int.toNat (i64.wrap (a + 1))))))) + (u16.wrap row))) + 4096)) + 8)) < ((8192:Nat):Int) from by have q0_:=pHeight_f (L:=pC) c2;have q1_:=(w_p.men (Int.toNat (i64.wrap (a + 1))));first | omega | (simp only [decide_eq_true_eq,decide_eq_false_iff_not,rng,IntKind.wrap_i64,IntKind.wrap_u8,IntKind.wrap_u16] at *;omega)) (J (show (Int.toNat (u16.wrap ((u16.wrap ((u16.wrap ((u16.wrap (16 * (u16.wrap (p.men (Int.toNat (i64.wrap (a + 1))))))) + (u16.wrap row))) + 4096)) + 8))) < 8192 from by have q0_:=pHeight_f (L:=pC) c2;have q1_:=(w_p.men (Int.toNat (i64.wrap (a + 1))));first | omega | (simp only [decide_eq_true_eq,decide_eq_false_iff_not,rng,IntKind.wrap_i64,IntKind.wrap_u8,IntKind.wrap_u16] at *;omega)) (J (show 0 ≤ (i64.wrap (a + 3)) ∧ (i64.wrap (a + 3)) < ((256:Nat):Int) from by have q0_:=pHeight_f (L:=pC) c2;first | omega | (simp only [decide_eq_true_eq,decide_eq_false_iff_not,rng,IntKind.wrap_i64,IntKind.wrap_u8,IntKind.wrap_u16] at *;omega)) (J (show (Int.toNat (i64.wrap (a + 3))) < 256 from by have q0_:=pHeight_f (L:=pC) c2;first | omega | (simp only [decide_eq_true_eq,decide_eq_false_iff_not,rng,IntKind.wrap_i64,IntKind.wrap_u8,IntKind.wrap_u16] at *;omega)) trivial))))))))))))) (by kernel_rfl)
   ·rw [if_neg (nt c3)]
    have o1:0 ≤ (i64.wrap (a + 1)) ∧ (i64.wrap (a + 1)) < ((256:Nat):Int):=by first | decide | omega | (simp only [decide_eq_true_eq,decide_eq_false_iff_not,rng,IntKind.wrap_i64,IntKind.wrap_u8,IntKind.wrap_u16] at *;omega)
    have o2:(Int.toNat (i64.wrap (a + 1))) < 256:=by first | decide | omega | (simp only [decide_eq_true_eq,decide_eq_false_iff_not,rng,IntKind.wrap_i64,IntKind.wrap_u8,IntKind.wrap_u16] at *;omega)
    have o3:0 ≤ (i64.wrap (a + 2)) ∧ (i64.wrap (a + 2)) < ((256:Nat):Int):=by first | decide | omega | (simp only [decide_eq_true_eq,decide_eq_false_iff_not,rng,IntKind.wrap_i64,IntKind.wrap_u8,IntKind.wrap_u16] at *;omega)
    have o4:(Int.toNat (i64.wrap (a + 2))) < 256:=by first | decide | omega | (simp only [decide_eq_true_eq,decide_eq_false_iff_not,rng,IntKind.wrap_i64,IntKind.wrap_u8,IntKind.wrap_u16] at *;omega)
    exact fn_of_x hG hM Try.func77 (by kernel_rfl) (by kernel_rfl) 400 [.sym,.sym,.no,.no,.no,.sym,.sym,.sym] (J o1 (J o2 (J o3 (J o4 (J c1 (J c2 (J c3 (J (show 0 ≤ (u16.wrap ((u16.wrap (16 * (u16.wrap (p.men (Int.toNat (i64.wrap (a + 1))))))) + (u16.wrap row))) ∧ (u16.wrap ((u16.wrap (16 * (u16.wrap (p.men (Int.toNat (i64.wrap (a + 1))))))) + (u16.wrap row))) < ((8192:Nat):Int) from by have q0_:=pHeight_f (L:=pC) c2;have q1_:=(w_p.men (Int.toNat (i64.wrap (a + 1))));first | omega | (simp only [decide_eq_true_eq,decide_eq_false_iff_not,rng,IntKind.wrap_i64,IntKind.wrap_u8,IntKind.wrap_u16] at *;omega)) (J (show (Int.toNat (u16.wrap ((u16.wrap (16 * (u16.wrap (p.men (Int.toNat (i64.wrap (a + 1))))))) + (u16.wrap row)))) < 8192 from by have q0_:=pHeight_f (L:=pC) c2;have q1_:=(w_p.men (Int.toNat (i64.wrap (a + 1))));first | omega | (simp only [decide_eq_true_eq,decide_eq_false_iff_not,rng,IntKind.wrap_i64,IntKind.wrap_u8,IntKind.wrap_u16] at *;omega)) (J (show 0 ≤ (u16.wrap ((u16.wrap ((u16.wrap (16 * (u16.wrap (p.men (Int.toNat (i64.wrap (a + 1))))))) + (u16.wrap row))) + 8)) ∧ (u16.wrap ((u16.wrap ((u16.wrap (16 * (u16.wrap (p.men (Int.toNat (i64.wrap (a + 1))))))) + (u16.wrap row))) + 8)) < ((8192:Nat):Int) from by have q0_:=pHeight_f (L:=pC) c2;have q1_:=(w_p.men (Int.toNat (i64.wrap (a + 1))));first | omega | (simp only [decide_eq_true_eq,decide_eq_false_iff_not,rng,IntKind.wrap_i64,IntKind.wrap_u8,IntKind.wrap_u16] at *;omega)) (J (show (Int.toNat (u16.wrap ((u16.wrap ((u16.wrap (16 * (u16.wrap (p.men (Int.toNat (i64.wrap (a + 1))))))) + (u16.wrap row))) + 8))) < 8192 from by have q0_:=pHeight_f (L:=pC) c2;have q1_:=(w_p.men (Int.toNat (i64.wrap (a + 1))));first | omega | (simp only [decide_eq_true_eq,decide_eq_false_iff_not,rng,IntKind.wrap_i64,IntKind.wrap_u8,IntKind.wrap_u16] at *;omega)) (J (show 0 ≤ (i64.wrap (a + 3)) ∧ (i64.wrap (a + 3)) < ((256:Nat):Int) from by have q0_:=pHeight_f (L:=pC) c2;first | omega | (simp only [decide_eq_true_eq,decide_eq_false_iff_not,rng,IntKind.wrap_i64,IntKind.wrap_u8,IntKind.wrap_u16] at *;omega)) (J (show (Int.toNat (i64.wrap (a + 3))) < 256 from by have q0_:=pHeight_f (L:=pC) c2;first | omega | (simp only [decide_eq_true_eq,decide_eq_false_iff_not,rng,IntKind.wrap_i64,IntKind.wrap_u8,IntKind.wrap_u16] at *;omega)) trivial))))))))))))) (by kernel_rfl)
end Go.Proofs.Ytgnhhnmpeklciaa
namespace Go.Proofs.Ytgnhhnmpeklciaa
open Go VX
open Go.IntKind (i64 u8 u16)
inductive qsL1nyn (p:Pic) (pC:List Sprite) (x:Int) (xd:Int × Int × Sprite):(Int × Int × Sprite) ⊕ ((Int × Int × Sprite) ⊕ (Int × Int × Sprite)) → Prop
 | p1 (d1:(decide (xd.1 < (((List.length pC):Nat):Int))) = true) (w1d:0 ≤ xd.1) (d2:(decide ((i64.wrap (x - (i64.wrap ((List.getD pC (Int.toNat xd.1) Sprite.nil).x)))) < 0)) = true):qsL1nyn p pC x xd (.inl ((i64.wrap (xd.1 + 1)),xd.2.1,xd.2.2))
 | p2 (d1:(decide (xd.1 < (((List.length pC):Nat):Int))) = true) (w1d:0 ≤ xd.1) (d2:(decide ((i64.wrap (x - (i64.wrap ((List.getD pC (Int.toNat xd.1) Sprite.nil).x)))) < 0)) = false) (d3:(decide ((i64.wrap (x - (i64.wrap ((List.getD pC (Int.toNat xd.1) Sprite.nil).x)))) ≥ 8)) = true):qsL1nyn p pC x xd (.inl ((i64.wrap (xd.1 + 1)),xd.2.1,xd.2.2))
 | p3 (d1:(decide (xd.1 < (((List.length pC):Nat):Int))) = true) (w1d:0 ≤ xd.1) (d2:(decide ((i64.wrap (x - (i64.wrap ((List.getD pC (Int.toNat xd.1) Sprite.nil).x)))) < 0)) = false) (d3:(decide ((i64.wrap (x - (i64.wrap ((List.getD pC (Int.toNat xd.1) Sprite.nil).x)))) ≥ 8)) = false) (d4:((bAnd .u8 ((List.getD pC (Int.toNat xd.1) Sprite.nil).look) 64) != 0) = true) (w2d:0 ≤ (i64.wrap (7 - (i64.wrap (x - (i64.wrap ((List.getD pC (Int.toNat xd.1) Sprite.nil).x))))))) (d5:((two ((List.getD pC (Int.toNat xd.1) Sprite.nil).low) ((List.getD pC (Int.toNat xd.1) Sprite.nil).high) (i64.wrap (7 - (i64.wrap (x - (i64.wrap ((List.getD pC (Int.toNat xd.1) Sprite.nil).x))))))) != 0) = true):qsL1nyn p pC x xd (.inr (.inr (xd.1,(two ((List.getD pC (Int.toNat xd.1) Sprite.nil).low) ((List.getD pC (Int.toNat xd.1) Sprite.nil).high) (i64.wrap (7 - (i64.wrap (x - (i64.wrap ((List.getD pC (Int.toNat xd.1) Sprite.nil).x))))))),(List.getD pC (Int.toNat xd.1) Sprite.nil))))
 | p4 (d1:(decide (xd.1 < (((List.length pC):Nat):Int))) = true) (w1d:0 ≤ xd.1) (d2:(decide ((i64.wrap (x - (i64.wrap ((List.getD pC (Int.toNat xd.1) Sprite.nil).x)))) < 0)) = false) (d3:(decide ((i64.wrap (x - (i64.wrap ((List.getD pC (Int.toNat xd.1) Sprite.nil).x)))) ≥ 8)) = false) (d4:((bAnd .u8 ((List.getD pC (Int.toNat xd.1) Sprite.nil).look) 64) != 0) = true) (w2d:0 ≤ (i64.wrap (7 - (i64.wrap (x - (i64.wrap ((List.getD pC (Int.toNat xd.1) Sprite.nil).x))))))) (d5:((two ((List.getD pC (Int.toNat xd.1) Sprite.nil).low) ((List.getD pC (Int.toNat xd.1) Sprite.nil).high) (i64.wrap (7 - (i64.wrap (x - (i64.wrap ((List.getD pC (Int.toNat xd.1) Sprite.nil).x))))))) != 0) = false):qsL1nyn p pC x xd (.inl ((i64.wrap (xd.1 + 1)),xd.2.1,xd.2.2))
 | p5 (d1:(decide (xd.1 < (((List.length pC):Nat):Int))) = true) (w1d:0 ≤ xd.1) (d2:(decide ((i64.wrap (x - (i64.wrap ((List.getD pC (Int.toNat xd.1) Sprite.nil).x)))) < 0)) = false) (d3:(decide ((i64.wrap (x - (i64.wrap ((List.getD pC (Int.toNat xd.1) Sprite.nil).x)))) ≥ 8)) = false) (d4:((bAnd .u8 ((List.getD pC (Int.toNat xd.1) Sprite.nil).look) 64) != 0) = false) (w2d:0 ≤ (i64.wrap (x - (i64.wrap ((List.getD pC (Int.toNat xd.1) Sprite.nil).x))))) (d5:((two ((List.getD pC (Int.toNat xd.1) Sprite.nil).low) ((List.getD pC (Int.toNat xd.1) Sprite.nil).high) (i64.wrap (x - (i64.wrap ((List.getD pC (Int.toNat xd.1) Sprite.nil).x))))) != 0) = true):qsL1nyn p pC x xd (.inr (.inr (xd.1,(two ((List.getD pC (Int.toNat xd.1) Sprite.nil).low) ((List.getD pC (Int.toNat xd.1) Sprite.nil).high) (i64.wrap (x - (i64.wrap ((List.getD pC (Int.toNat xd.1) Sprite.nil).x))))),(List.getD pC (Int.toNat xd.1) Sprite.nil))))
 | p6 (d1:(decide (xd.1 < (((List.length pC):Nat):Int))) = true) (w1d:0 ≤ xd.1) (d2:(decide ((i64.wrap (x - (i64.wrap ((List.getD pC (Int.toNat xd.1) Sprite.nil).x)))) < 0)) = false) (d3:(decide ((i64.wrap (x - (i64.wrap ((List.getD pC (Int.toNat xd.1) Sprite.nil).x)))) ≥ 8)) = false) (d4:((bAnd .u8 ((List.getD pC (Int.toNat xd.1) Sprite.nil).look) 64) != 0) = false) (w2d:0 ≤ (i64.wrap (x - (i64.wrap ((List.getD pC (Int.toNat xd.1) Sprite.nil).x))))) (d5:((two ((List.getD pC (Int.toNat xd.1) Sprite.nil).low) ((List.getD pC (Int.toNat xd.1) Sprite.nil).high) (i64.wrap (x - (i64.wrap ((List.getD pC (Int.toNat xd.1) Sprite.nil).x))))) != 0) = false):qsL1nyn p pC x xd (.inl ((i64.wrap (xd.1 + 1)),xd.2.1,xd.2.2))
 | p7 (d1:(decide (xd.1 < (((List.length pC):Nat):Int))) = false):qsL1nyn p pC x xd (.inr (.inl (xd.1,xd.2.1,xd.2.2)))
def qsL1nyn_T (p:Pic) (pC:List Sprite) (x:Int) (xd:Int × Int × Sprite):Tm:=[(1,.int .i64 x),(4,.int .u8 xd.2.1),(5,pt 1002),(32,sl 1001 (List.length pC) 5),(33,.int .i64 (((List.length pC):Nat):Int)),(34,.int .i64 xd.1)]
def qsL1nyn_H (p:Pic) (pC:List Sprite) (x:Int) (xd:Int × Int × Sprite):Heap:=[(1001,sB pC false),(1002,(Sprite.blk xd.2.2))]
def qsL1nyn_T1 (p:Pic) (pC:List Sprite) (x:Int):((Int × Int × Sprite) ⊕ (Int × Int × Sprite)) → Tm
 | .inl q_ => qsL1nyn_T p pC x q_
 | .inr q_ => qsL1nyn_T p pC x q_
def qsL1nyn_H1 (p:Pic) (pC:List Sprite) (x:Int):((Int × Int × Sprite) ⊕ (Int × Int × Sprite)) → Heap
 | .inl q_ => qsL1nyn_H p pC x q_
 | .inr q_ => qsL1nyn_H p pC x q_
def qsL1nyn_ex:((Int × Int × Sprite) ⊕ (Int × Int × Sprite)) → Ex
 | .inl _ => .exit 0
 | .inr _ => .ret
theorem qsL1nyn_p1 (p:Pic) (pC:List Sprite) (x:Int) (xd:Int × Int × Sprite) (d1:(decide (xd.1 < (((List.length pC):Nat):Int))) = true) (w1d:0 ≤ xd.1) (d2:(decide ((i64.wrap (x - (i64.wrap ((List.getD pC (Int.toNat xd.1) Sprite.nil).x)))) < 0)) = true):Runs Try.prog 67 (bodyOf Try.f71 [1,1,0,1,0,0]) (qsL1nyn_T p pC x xd) (qsL1nyn_H p pC x xd) 1003 .normal (qsL1nyn_T p pC x ((i64.wrap (xd.1 + 1)),xd.2.1,xd.2.2)) (qsL1nyn_H p pC x ((i64.wrap (xd.1 + 1)),xd.2.1,xd.2.2)) 1003:=by
 have o1:0 ≤ xd.1 ∧ xd.1 < (((List.length pC):Nat):Int):=by first | decide | omega | (simp only [decide_eq_true_eq,decide_eq_false_iff_not,rng,IntKind.wrap_i64,IntKind.wrap_u8,IntKind.wrap_u16] at *;omega)
 have o2:Int.toNat xd.1 < (List.length pC):=by first | decide | omega | (simp only [decide_eq_true_eq,decide_eq_false_iff_not,rng,IntKind.wrap_i64,IntKind.wrap_u8,IntKind.wrap_u16] at *;omega)
 exact runs_of_x hG hM 400 [.yes,.sym,.row (Int.toNat xd.1) 0,.yes,.yes,.yes,.yes] (J d1 (J o1 (J (Eq.refl ((Int.toNat xd.1 * 5):Nat)) (J o2 (J d2 (J d2 (J d2 (J T1 trivial)))))))) (by kernel_rfl)
theorem qsL1nyn_p2 (p:Pic) (pC:List Sprite) (x:Int) (xd:Int × Int × Sprite) (d1:(decide (xd.1 < (((List.length pC):Nat):Int))) = true) (w1d:0 ≤ xd.1) (d2:(decide ((i64.wrap (x - (i64.wrap ((List.getD pC (Int.toNat xd.1) Sprite.nil).x)))) < 0)) = false) (d3:(decide ((i64.wrap (x - (i64.wrap ((List.getD pC (Int.toNat xd.1) Sprite.nil).x)))) ≥ 8)) = true):Runs Try.prog 67 (bodyOf Try.f71 [1,1,0,1,0,0]) (qsL1nyn_T p pC x xd) (qsL1nyn_H p pC x xd) 1003 .normal (qsL1nyn_T p pC x ((i64.wrap (xd.1 + 1)),xd.2.1,xd.2.2)) (qsL1nyn_H p pC x ((i64.wrap (xd.1 + 1)),xd.2.1,xd.2.2)) 1003:=by
 have o1:0 ≤ xd.1 ∧ xd.1 < (((List.length pC):Nat):Int):=by first | decide | omega | (simp only [decide_eq_true_eq,decide_eq_false_iff_not,rng,IntKind.wrap_i64,IntKind.wrap_u8,IntKind.wrap_u16] at *;omega)
 have o2:Int.toNat xd.1 < (List.length pC):=by first | decide | omega | (simp only [decide_eq_true_eq,decide_eq_false_iff_not,rng,IntKind.wrap_i64,IntKind.wrap_u8,IntKind.wrap_u16] at *;omega)
 exact runs_of_x hG hM 400 [.yes,.sym,.row (Int.toNat xd.1) 0,.no,.no,.no,.yes] (J d1 (J o1 (J (Eq.refl ((Int.toNat xd.1 * 5):Nat)) (J o2 (J d2 (J d2 (J d2 (J d3 trivial)))))))) (by kernel_rfl)
theorem qsL1nyn_p3 (p:Pic) (pC:List Sprite) (x:Int) (xd:Int × Int × Sprite) (d1:(decide (xd.1 < (((List.length pC):Nat):Int))) = true) (w1d:0 ≤ xd.1) (d2:(decide ((i64.wrap (x - (i64.wrap ((List.getD pC (Int.toNat xd.1) Sprite.nil).x)))) < 0)) = false) (d3:(decide ((i64.wrap (x - (i64.wrap ((List.getD pC (Int.toNat xd.1) Sprite.nil).x)))) ≥ 8)) = false) (d4:((bAnd .u8 ((List.getD pC (Int.toNat xd.1) Sprite.nil).look) 64) != 0) = true) (w2d:0 ≤ (i64.wrap (7 - (i64.wrap (x - (i64.wrap ((List.getD pC (Int.toNat xd.1) Sprite.nil).x))))))) (d5:((two ((List.getD pC (Int.toNat xd.1) Sprite.nil).low) ((List.getD pC (Int.toNat xd.1) Sprite.nil).high) (i64.wrap (7 - (i64.wrap (x - (i64.wrap ((List.getD pC (Int.toNat xd.1) Sprite.nil).x))))))) != 0) = true):Runs Try.prog 67 (bodyOf Try.f71 [1,1,0,1,0,0]) (qsL1nyn_T p pC x xd) (qsL1nyn_H p pC x xd) 1003 .ret (qsL1nyn_T1 p pC x (.inr (xd.1,(two ((List.getD pC (Int.toNat xd.1) Sprite.nil).low) ((List.getD pC (Int.toNat xd.1) Sprite.nil).high) (i64.wrap (7 - (i64.wrap (x - (i64.wrap ((List.getD pC (Int.toNat xd.1) Sprite.nil).x))))))),(List.getD pC (Int.toNat xd.1) Sprite.nil)))) (qsL1nyn_H1 p pC x (.inr (xd.1,(two ((List.getD pC (Int.toNat xd.1) Sprite.nil).low) ((List.getD pC (Int.toNat xd.1) Sprite.nil).high) (i64.wrap (7 - (i64.wrap (x - (i64.wrap ((List.getD pC (Int.toNat xd.1) Sprite.nil).x))))))),(List.getD pC (Int.toNat xd.1) Sprite.nil)))) 1003:=by
 have o1:0 ≤ xd.1 ∧ xd.1 < (((List.length pC):Nat):Int):=by first | decide | omega | (simp only [decide_eq_true_eq,decide_eq_false_iff_not,rng,IntKind.wrap_i64,IntKind.wrap_u8,IntKind.wrap_u16] at *;omega)
 have o2:Int.toNat xd.1 < (List.length pC):=by first | decide | omega | (simp only [decide_eq_true_eq,decide_eq_false_iff_not,rng,IntKind.wrap_i64,IntKind.wrap_u8,IntKind.wrap_u16] at *;omega)
 exact runs_of_x hG hM 400 [.yes,.sym,.row (Int.toNat xd.1) 0,.no,.no,.no,.no,.yes,.call [] [] 1000 (.int .u8 (two ((List.getD pC (Int.toNat xd.1) Sprite.nil).low) ((List.getD pC (Int.toNat xd.1) Sprite.nil).high) (i64.wrap (7 - (i64.wrap (x - (i64.wrap ((List.getD pC (Int.toNat xd.1) Sprite.nil).x)))))))) [],.yes] (J d1 (J o1 (J (Eq.refl ((Int.toNat xd.1 * 5):Nat)) (J o2 (J d2 (J d2 (J d2 (J d3 (J d4 (J (two_ok ((List.getD pC (Int.toNat xd.1) Sprite.nil).low) ((List.getD pC (Int.toNat xd.1) Sprite.nil).high) (i64.wrap (7 - (i64.wrap (x - (i64.wrap ((List.getD pC (Int.toNat xd.1) Sprite.nil).x)))))) w2d) (J d5 trivial))))))))))) (by kernel_rfl)
theorem qsL1nyn_p4 (p:Pic) (pC:List Sprite) (x:Int) (xd:Int × Int × Sprite) (d1:(decide (xd.1 < (((List.length pC):Nat):Int))) = true) (w1d:0 ≤ xd.1) (d2:(decide ((i64.wrap (x - (i64.wrap ((List.getD pC (Int.toNat xd.1) Sprite.nil).x)))) < 0)) = false) (d3:(decide ((i64.wrap (x - (i64.wrap ((List.getD pC (Int.toNat xd.1) Sprite.nil).x)))) ≥ 8)) = false) (d4:((bAnd .u8 ((List.getD pC (Int.toNat xd.1) Sprite.nil).look) 64) != 0) = true) (w2d:0 ≤ (i64.wrap (7 - (i64.wrap (x - (i64.wrap ((List.getD pC (Int.toNat xd.1) Sprite.nil).x))))))) (d5:((two ((List.getD pC (Int.toNat xd.1) Sprite.nil).low) ((List.getD pC (Int.toNat xd.1) Sprite.nil).high) (i64.wrap (7 - (i64.wrap (x - (i64.wrap ((List.getD pC (Int.toNat xd.1) Sprite.nil).x))))))) != 0) = false):Runs Try.prog 67 (bodyOf Try.f71 [1,1,0,1,0,0]) (qsL1nyn_T p pC x xd) (qsL1nyn_H p pC x xd) 1003 .normal (qsL1nyn_T p pC x ((i64.wrap (xd.1 + 1)),xd.2.1,xd.2.2)) (qsL1nyn_H p pC x ((i64.wrap (xd.1 + 1)),xd.2.1,xd.2.2)) 1003:=by
 have o1:0 ≤ xd.1 ∧ xd.1 < (((List.length pC):Nat):Int):=by first | decide | omega | (simp only [decide_eq_true_eq,decide_eq_false_iff_not,rng,IntKind.wrap_i64,IntKind.wrap_u8,IntKind.wrap_u16] at *;omega)
 have o2:Int.toNat xd.1 < (List.length pC):=by first | decide | omega | (simp only [decide_eq_true_eq,decide_eq_false_iff_not,rng,IntKind.wrap_i64,IntKind.wrap_u8,IntKind.wrap_u16] at *;omega)
 exact runs_of_x hG hM 400 [.yes,.sym,.row (Int.toNat xd.1) 0,.no,.no,.no,.no,.yes,.call [] [] 1000 (.int .u8 (two ((List.getD pC (Int.toNat xd.1) Sprite.nil).low) ((List.getD pC (Int.toNat xd.1) Sprite.nil).high) (i64.wrap (7 - (i64.wrap (x - (i64.wrap ((List.getD pC (Int.toNat xd.1) Sprite.nil).x)))))))) [],.no] (J d1 (J o1 (J (Eq.refl ((Int.toNat xd.1 * 5):Nat)) (J o2 (J d2 (J d2 (J d2 (J d3 (J d4 (J (two_ok ((List.getD pC (Int.toNat xd.1) Sprite.nil).low) ((List.getD pC (Int.toNat xd.1) Sprite.nil).high) (i64.wrap (7 - (i64.wrap (x - (i64.wrap ((List.getD pC (Int.toNat xd.1) Sprite.nil).x)))))) w2d) (J d5 trivial))))))))))) (by kernel_rfl)
theorem qsL1nyn_p5 (p:Pic) (pC:List Sprite) (x:Int) (xd:Int × Int × Sprite) (d1:(decide (xd.1 < (((List.length pC):Nat):Int))) = true) (w1d:0 ≤ xd.1) (d2:(decide ((i64.wrap (x - (i64.wrap ((List.getD pC (Int.toNat xd.1) Sprite.nil).x)))) < 0)) = false) (d3:(decide ((i64.wrap (x - (i64.wrap ((List.getD pC (Int.toNat xd.1) Sprite.nil).x)))) ≥ 8)) = false) (d4:((bAnd .u8 ((List.getD pC (Int.toNat xd.1) Sprite.nil).look) 64) != 0) = false) (w2d:0 ≤ (i64.wrap (x - (i64.wrap ((List.getD pC (Int.toNat xd.1) Sprite.nil).x))))) (d5:((two ((List.getD pC (Int.toNat xd.1) Sprite.nil).low) ((List.getD pC (Int.toNat xd.1) Sprite.nil).high) (i64.wrap (x - (i64.wrap ((List.getD pC (Int.toNat xd.1) Sprite.nil).x))))) != 0) = true):Runs Try.prog 67 (bodyOf Try.f71 [1,1,0,1,0,0]) (qsL1nyn_T p pC x xd) (qsL1nyn_H p pC x xd) 1003 .ret (qsL1nyn_T1 p pC x (.inr (xd.1,(two ((List.getD pC (Int.toNat xd.1) Sprite.nil).low) ((List.getD pC (Int.toNat xd.1) Sprite.nil).high) (i64.wrap (x - (i64.wrap ((List.getD pC (Int.toNat xd.1) Sprite.nil).x))))),(List.getD pC (Int.toNat xd.1) Sprite.nil)))) (qsL1nyn_H1 p pC x (.inr (xd.1,(two ((List.getD pC (Int.toNat xd.1) Sprite.nil).low) ((List.getD pC (Int.toNat xd.1) Sprite.nil).high) (i64.wrap (x - (i64.wrap ((List.getD pC (Int.toNat xd.1) Sprite.nil).x))))),(List.getD pC (Int.toNat xd.1) Sprite.nil)))) 1003:=by
 have o1:0 ≤ xd.1 ∧ xd.1 < (((List.length pC):Nat):Int):=by first | decide | omega | (simp only [decide_eq_true_eq,decide_eq_false_iff_not,rng,IntKind.wrap_i64,IntKind.wrap_u8,IntKind.wrap_u16] at *;omega)
 have o2:Int.toNat xd.1 < (List.length pC):=by first | decide | omega | (simp only [decide_eq_true_eq,decide_eq_false_iff_not,rng,IntKind.wrap_i64,IntKind.wrap_u8,IntKind.wrap_u16] at *;omega)
 exact runs_of_x hG hM 400 [.yes,.sym,.row (Int.toNat xd.1) 0,.no,.no,.no,.no,.no,.call [] [] 1000 (.int .u8 (two ((List.getD pC (Int.toNat xd.1) Sprite.nil).low) ((List.getD pC (Int.toNat xd.1) Sprite.nil).high) (i64.wrap (x - (i64.wrap ((List.getD pC (Int.toNat xd.1) Sprite.nil).x)))))) [],.yes] (J d1 (J o1 (J (Eq.refl ((Int.toNat xd.1 * 5):Nat)) (J o2 (J d2 (J d2 (J d2 (J d3 (J d4 (J (two_ok ((List.getD pC (Int.toNat xd.1) Sprite.nil).low) ((List.getD pC (Int.toNat xd.1) Sprite.nil).high) (i64.wrap (x - (i64.wrap ((List.getD pC (Int.toNat xd.1) Sprite.nil).x)))) w2d) (J d5 trivial))))))))))) (by kernel_rfl)
theorem qsL1nyn_p6 (p:Pic) (pC:List Sprite) (x:Int) (xd:Int × Int × Sprite) (d1:(decide (xd.1 < (((List.length pC):Nat):Int))) = true) (w1d:0 ≤ xd.1) (d2:(decide ((i64.wrap (x - (i64.wrap ((List.getD pC (Int.toNat xd.1) Sprite.nil).x)))) < 0)) = false) (d3:(decide ((i64.wrap (x - (i64.wrap ((List.getD pC (Int.toNat xd.1) Sprite.nil).x)))) ≥ 8)) = false) (d4:((bAnd .u8 ((List.getD pC (Int.toNat xd.1) Sprite.nil).look) 64) != 0) = false) (w2d:0 ≤ (i64.wrap (x - (i64.wrap ((List.getD pC (Int.toNat xd.1) Sprite.nil).x))))) (d5:((two ((List.getD pC (Int.toNat xd.1) Sprite.nil).low) ((List.getD pC (Int.toNat xd.1) Sprite.nil).high) (i64.wrap (x - (i64.wrap ((List.getD pC (Int.toNat xd.1) Sprite.nil).x))))) != 0) = false):Runs Try.prog 67 (bodyOf Try.f71 [1,1,0,1,0,0]) (qsL1nyn_T p pC x xd) (qsL1nyn_H p pC x xd) 1003 .normal (qsL1nyn_T p pC x ((i64.wrap (xd.1 + 1)),xd.2.1,xd.2.2)) (qsL1nyn_H p pC x ((i64.wrap (xd.1 + 1)),xd.2.1,xd.2.2)) 1003:=by
 have o1:0 ≤ xd.1 ∧ xd.1 < (((List.length pC):Nat):Int):=by first | decide | omega | (simp only [decide_eq_true_eq,decide_eq_false_iff_not,rng,IntKind.wrap_i64,IntKind.wrap_u8,IntKind.wrap_u16] at *;omega)
 have o2:Int.toNat xd.1 < (List.length pC):=by first | decide | omega | (simp only [decide_eq_true_eq,decide_eq_false_iff_not,rng,IntKind.wrap_i64,IntKind.wrap_u8,IntKind.wrap_u16] at *;omega)
 exact runs_of_x hG hM 400 [.yes,.sym,.row (Int.toNat xd.1) 0,.no,.no,.no,.no,.no,.call [] [] 1000 (.int .u8 (two ((List.getD pC (Int.toNat xd.1) Sprite.nil).low) ((List.getD pC (Int.toNat xd.1) Sprite.nil).high) (i64.wrap (x - (i64.wrap ((List.getD pC (Int.toNat xd.1) Sprite.nil).x)))))) [],.no] (J d1 (J o1 (J (Eq.refl ((Int.toNat xd.1 * 5):Nat)) (J o2 (J d2 (J d2 (J d2 (J d3 (J d4 (J (two_ok ((List.getD pC (Int.toNat xd.1) Sprite.nil).low) ((List.getD pC (Int.toNat xd.1) Sprite.nil).high) (i64.wrap (x - (i64.wrap ((List.getD pC (Int.toNat xd.1) Sprite.nil).x)))) w2d) (J d5 trivial))))))))))) (by kernel_rfl)
theorem qsL1nyn_p7 (p:Pic) (pC:List Sprite) (x:Int) (xd:Int × Int × Sprite) (d1:(decide (xd.1 < (((List.length pC):Nat):Int))) = false):Runs Try.prog 67 (bodyOf Try.f71 [1,1,0,1,0,0]) (qsL1nyn_T p pC x xd) (qsL1nyn_H p pC x xd) 1003 (.exit 0) (qsL1nyn_T1 p pC x (.inl (xd.1,xd.2.1,xd.2.2))) (qsL1nyn_H1 p pC x (.inl (xd.1,xd.2.1,xd.2.2))) 1003:=by
 exact runs_of_x hG hM 400 [.no] (J d1 trivial) (by kernel_rfl)
theorem qsL1nyn_runs (p:Pic) (pC:List Sprite) (x:Int) (x_:Int × Int × Sprite) (y_:(Int × Int × Sprite) ⊕ (Int × Int × Sprite)) (h_:LoopR (qsL1nyn p pC x) x_ y_):Runs Try.prog 67 (.block 0 (.loop (bodyOf Try.f71 [1,1,0,1,0,0]))) (qsL1nyn_T p pC x x_) (qsL1nyn_H p pC x x_) 1003 (outOf 0 (qsL1nyn_ex y_)) (qsL1nyn_T1 p pC x y_) (qsL1nyn_H1 p pC x y_) 1003:=by
 refine block_loop (qsL1nyn p pC x) (qsL1nyn_T p pC x) (qsL1nyn_H p pC x) qsL1nyn_ex (qsL1nyn_T1 p pC x) (qsL1nyn_H1 p pC x) ?_ ?_ ?_ x_ y_ h_
 ·intro r hr;cases r <;> cases hr
 ·intro xd y_ hx
  cases hx with
  | p1 d1 w1d d2 => exact qsL1nyn_p1 p pC x xd d1 w1d d2
  | p2 d1 w1d d2 d3 => exact qsL1nyn_p2 p pC x xd d1 w1d d2 d3
  | p4 d1 w1d d2 d3 d4 w2d d5 => exact qsL1nyn_p4 p pC x xd d1 w1d d2 d3 d4 w2d d5
  | p6 d1 w1d d2 d3 d4 w2d d5 => exact qsL1nyn_p6 p pC x xd d1 w1d d2 d3 d4 w2d d5
 ·intro xd y_ hx
  cases hx with
  | p3 d1 w1d d2 d3 d4 w2d d5 => exact qsL1nyn_p3 p pC x xd d1 w1d d2 d3 d4 w2d d5
  | p5 d1 w1d d2 d3 d4 w2d d5 => exact qsL1nyn_p5 p pC x xd d1 w1d d2 d3 d4 w2d d5
  | p7 d1 => exact qsL1nyn_p7 p pC x xd d1
abbrev PEk0 (x:Int):=({ low:=0,high:=0,look:=0,x:=0,first:=false }:Sprite)
abbrev PEk1 (p:Pic) (pC:List Sprite):=(Pic.bl p (sl 1001 (List.length pC) 5) false)
theorem wSprite_p1 (p:Pic) (pC:List Sprite) (x:Int) (hx:0 ≤ x) (hx2:x < 256) (c1:((bAnd .u8 p.mask 16) == 0) = true):FnSpec Try.prog 71 1002 [pt 1000,.int .i64 x] [(1000,(PEk1 p pC)),(1001,sB pC false)] (.tuple ⟨[.int .u8 ((0,(PEk0 x)).1),Sprite.enc ((0,(PEk0 x)).2)]⟩) [(1000,(PEk1 p pC)),(1001,sB pC false)]:=by
 exact fn_of_x hG hM Try.func71 (by kernel_rfl) (by kernel_rfl) 400 [.yes,.yes,.yes,.yes,.yes,.yes] (J c1 (J c1 (J c1 (J c1 (J c1 (J T1 trivial)))))) (by kernel_rfl)
theorem wSprite_p2 (p:Pic) (pC:List Sprite) (x:Int) (hx:0 ≤ x) (hx2:x < 256) (c1:((bAnd .u8 p.mask 16) == 0) = false) (c2:(decide (x < 8)) = true) (c3:((bAnd .u8 p.mask 4) == 0) = true):FnSpec Try.prog 71 1002 [pt 1000,.int .i64 x] [(1000,(PEk1 p pC)),(1001,sB pC false)] (.tuple ⟨[.int .u8 ((0,(PEk0 x)).1),Sprite.enc ((0,(PEk0 x)).2)]⟩) [(1000,(PEk1 p pC)),(1001,sB pC false)]:=by
 exact fn_of_x hG hM Try.func71 (by kernel_rfl) (by kernel_rfl) 400 [.no,.no,.no,.yes,.yes,.yes,.yes,.yes,.yes,.no,.yes,.no,.yes] (J c1 (J c1 (J c1 (J c2 (J c2 (J c2 (J c2 (J c2 (J c2 (J c1 (J c2 (J c1 (J c3 trivial))))))))))))) (by kernel_rfl)
theorem wSprite_p3 (p:Pic) (pC:List Sprite) (x:Int) (hx:0 ≤ x) (hx2:x < 256) (c1:((bAnd .u8 p.mask 16) == 0) = false) (c2:(decide (x < 8)) = true) (c3:((bAnd .u8 p.mask 4) == 0) = false) (r1:Int × Int × Sprite) (l1:LoopR (qsL1nyn p pC x) (0,0,(PEk0 x)) (.inl r1)):FnSpec Try.prog 71 1002 [pt 1000,.int .i64 x] [(1000,(PEk1 p pC)),(1001,sB pC false)] (.tuple ⟨[.int .u8 ((0,(PEk0 x)).1),Sprite.enc ((0,(PEk0 x)).2)]⟩) [(1000,(PEk1 p pC)),(1001,sB pC false)]:=by
 exact fn_of_x hG hM Try.func71 (by kernel_rfl) (by kernel_rfl) 400 [.no,.no,.no,.yes,.yes,.yes,.yes,.yes,.yes,.no,.yes,.no,.no,.segk 1 0 [1,4,5,32,33,34] [1001,1002] .normal (qsL1nyn_T1 p pC x (.inl r1)) (qsL1nyn_H1 p pC x (.inl r1)) 1003] (J c1 (J c1 (J c1 (J c2 (J c2 (J c2 (J c2 (J c2 (J c2 (J c1 (J c2 (J c1 (J c3 (J (qsL1nyn_runs p pC x (0,0,(PEk0 x)) (.inl r1) l1) trivial)))))))))))))) (by kernel_rfl)
theorem wSprite_p4 (p:Pic) (pC:List Sprite) (x:Int) (hx:0 ≤ x) (hx2:x < 256) (c1:((bAnd .u8 p.mask 16) == 0) = false) (c2:(decide (x < 8)) = true) (c3:((bAnd .u8 p.mask 4) == 0) = false) (r1:Int × Int × Sprite) (l1:LoopR (qsL1nyn p pC x) (0,0,(PEk0 x)) (.inr r1)):FnSpec Try.prog 71 1002 [pt 1000,.int .i64 x] [(1000,(PEk1 p pC)),(1001,sB pC false)] (.tuple ⟨[.int .u8 ((r1.2.1,r1.2.2).1),Sprite.enc ((r1.2.1,r1.2.2).2)]⟩) [(1000,(PEk1 p pC)),(1001,sB pC false)]:=by
 exact fn_of_x hG hM Try.func71 (by kernel_rfl) (by kernel_rfl) 400 [.no,.no,.no,.yes,.yes,.yes,.yes,.yes,.yes,.no,.yes,.no,.no,.segk 1 0 [1,4,5,32,33,34] [1001,1002] .ret (qsL1nyn_T1 p pC x (.inr r1)) (qsL1nyn_H1 p pC x (.inr r1)) 1003] (J c1 (J c1 (J c1 (J c2 (J c2 (J c2 (J c2 (J c2 (J c2 (J c1 (J c2 (J c1 (J c3 (J (qsL1nyn_runs p pC x (0,0,(PEk0 x)) (.inr r1) l1) trivial)))))))))))))) (by kernel_rfl)
theorem wSprite_p5 (p:Pic) (pC:List Sprite) (x:Int) (hx:0 ≤ x) (hx2:x < 256) (c1:((bAnd .u8 p.mask 16) == 0) = false) (c2:(decide (x < 8)) = false) (r1:Int × Int × Sprite) (l1:LoopR (qsL1nyn p pC x) (0,0,(PEk0 x)) (.inl r1)):FnSpec Try.prog 71 1002 [pt 1000,.int .i64 x] [(1000,(PEk1 p pC)),(1001,sB pC false)] (.tuple ⟨[.int .u8 ((0,(PEk0 x)).1),Sprite.enc ((0,(PEk0 x)).2)]⟩) [(1000,(PEk1 p pC)),(1001,sB pC false)]:=by
 exact fn_of_x hG hM Try.func71 (by kernel_rfl) (by kernel_rfl) 400 [.no,.no,.no,.no,.no,.no,.no,.no,.no,.no,.no,.no,.no,.segk 1 0 [1,4,5,32,33,34] [1001,1002] .normal (qsL1nyn_T1 p pC x (.inl r1)) (qsL1nyn_H1 p pC x (.inl r1)) 1003] (J c1 (J c1 (J c1 (J c2 (J c2 (J c2 (J c2 (J c2 (J c2 (J c1 (J c2 (J c1 (J T0 (J (qsL1nyn_runs p pC x (0,0,(PEk0 x)) (.inl r1) l1) trivial)))))))))))))) (by kernel_rfl)
theorem wSprite_p6 (p:Pic) (pC:List Sprite) (x:Int) (hx:0 ≤ x) (hx2:x < 256) (c1:((bAnd .u8 p.mask 16) == 0) = false) (c2:(decide (x < 8)) = false) (r1:Int × Int × Sprite) (l1:LoopR (qsL1nyn p pC x) (0,0,(PEk0 x)) (.inr r1)):FnSpec Try.prog 71 1002 [pt 1000,.int .i64 x] [(1000,(PEk1 p pC)),(1001,sB pC false)] (.tuple ⟨[.int .u8 ((r1.2.1,r1.2.2).1),Sprite.enc ((r1.2.1,r1.2.2).2)]⟩) [(1000,(PEk1 p pC)),(1001,sB pC false)]:=by
 exact fn_of_x hG hM Try.func71 (by kernel_rfl) (by kernel_rfl) 400 [.no,.no,.no,.no,.no,.no,.no,.no,.no,.no,.no,.no,.no,.segk 1 0 [1,4,5,32,33,34] [1001,1002] .ret (qsL1nyn_T1 p pC x (.inr r1)) (qsL1nyn_H1 p pC x (.inr r1)) 1003] (J c1 (J c1 (J c1 (J c2 (J c2 (J c2 (J c2 (J c2 (J c2 (J c1 (J c2 (J c1 (J T0 (J (qsL1nyn_runs p pC x (0,0,(PEk0 x)) (.inr r1) l1) trivial)))))))))))))) (by kernel_rfl)
inductive qoL1nn (p:Pic) (seen:Bool) (xd:(List Sprite) × Int × Pic):((List Sprite) × Int × Pic) ⊕ (((List Sprite) × Int × Pic) ⊕ ((List Sprite) × Int × Pic)) → Prop
 | p1 (d1:(decide (xd.2.1 < 256)) = true) (w1d:0 ≤ xd.2.1) (d2:(decide ((i64.wrap (xd.2.2.line - (i64.wrap (xd.2.2.men (Int.toNat xd.2.1))))) < 0)) = true):qoL1nn p seen xd (.inl (xd.1,(i64.wrap (xd.2.1 + 4)),xd.2.2))
 | p2 (d1:(decide (xd.2.1 < 256)) = true) (w1d:0 ≤ xd.2.1) (d2:(decide ((i64.wrap (xd.2.2.line - (i64.wrap (xd.2.2.men (Int.toNat xd.2.1))))) < 0)) = false) (d3:(decide ((i64.wrap (xd.2.2.line - (i64.wrap (xd.2.2.men (Int.toNat xd.2.1))))) ≥ (pHeight xd.2.2 xd.1))) = true):qoL1nn p seen xd (.inl (xd.1,(i64.wrap (xd.2.1 + 4)),xd.2.2))
 | p3 (d1:(decide (xd.2.1 < 256)) = true) (w1d:0 ≤ xd.2.1) (d2:(decide ((i64.wrap (xd.2.2.line - (i64.wrap (xd.2.2.men (Int.toNat xd.2.1))))) < 0)) = false) (d3:(decide ((i64.wrap (xd.2.2.line - (i64.wrap (xd.2.2.men (Int.toNat xd.2.1))))) ≥ (pHeight xd.2.2 xd.1))) = false) (d4:(((((List.length xd.1):Nat):Int):Int) == 8) = true):qoL1nn p seen xd (.inr (.inr (xd.1,xd.2.1,({ xd.2.2 with flags:=(bOr .u8 xd.2.2.flags 32) }:Pic))))
 | p4 (d1:(decide (xd.2.1 < 256)) = true) (w1d:0 ≤ xd.2.1) (d2:(decide ((i64.wrap (xd.2.2.line - (i64.wrap (xd.2.2.men (Int.toNat xd.2.1))))) < 0)) = false) (d3:(decide ((i64.wrap (xd.2.2.line - (i64.wrap (xd.2.2.men (Int.toNat xd.2.1))))) ≥ (pHeight xd.2.2 xd.1))) = false) (d4:(((((List.length xd.1):Nat):Int):Int) == 8) = false) (w2d:Pic.ok xd.2.2) (w3d:xd.2.1 < 253) (w4d:0 ≤ (i64.wrap (xd.2.2.line - (i64.wrap (xd.2.2.men (Int.toNat xd.2.1)))))) (w5d:(i64.wrap (xd.2.2.line - (i64.wrap (xd.2.2.men (Int.toNat xd.2.1))))) < pHeight xd.2.2 xd.1) (w6d:(List.length xd.1) + 1 ≤ 1048576):qoL1nn p seen xd (.inl ((xd.1 ++ [(pFetch xd.2.2 xd.1 xd.2.1 (i64.wrap (xd.2.2.line - (i64.wrap (xd.2.2.men (Int.toNat xd.2.1))))))]),(i64.wrap (xd.2.1 + 4)),xd.2.2))
 | p5 (d1:(decide (xd.2.1 < 256)) = false):qoL1nn p seen xd (.inr (.inl (xd.1,xd.2.1,xd.2.2)))
def qoL1nn_T (p:Pic) (seen:Bool) (xd:(List Sprite) × Int × Pic):Tm:=[(0,pt 1000),(4,.int .i64 xd.2.1)]
def qoL1nn_H (p:Pic) (seen:Bool) (xd:(List Sprite) × Int × Pic):Heap:=[(1000,(Pic.bl xd.2.2 (sl 1002 (List.length xd.1) 5) false)),(1002,⟨[rowsL Sprite.cells Sprite.nil 5 xd.1],92,false⟩)]
def qoL1nn_T1 (p:Pic) (seen:Bool):(((List Sprite) × Int × Pic) ⊕ ((List Sprite) × Int × Pic)) → Tm
 | .inl q_ => qoL1nn_T p seen q_
 | .inr q_ => qoL1nn_T p seen q_
def qoL1nn_H1 (p:Pic) (seen:Bool):(((List Sprite) × Int × Pic) ⊕ ((List Sprite) × Int × Pic)) → Heap
 | .inl q_ => qoL1nn_H p seen q_
 | .inr q_ => qoL1nn_H p seen q_
def qoL1nn_ex:(((List Sprite) × Int × Pic) ⊕ ((List Sprite) × Int × Pic)) → Ex
 | .inl _ => .exit 0
 | .inr _ => .ret
theorem qoL1nn_p1 (p:Pic) (seen:Bool) (xd:(List Sprite) × Int × Pic) (d1:(decide (xd.2.1 < 256)) = true) (w1d:0 ≤ xd.2.1) (d2:(decide ((i64.wrap (xd.2.2.line - (i64.wrap (xd.2.2.men (Int.toNat xd.2.1))))) < 0)) = true):RunsM Try.prog 66 (bodyOf Try.f52 [1,1,1,0,0]) 1002 (qoL1nn_T p seen xd) (qoL1nn_H p seen xd) 1003 .normal (qoL1nn_T p seen (xd.1,(i64.wrap (xd.2.1 + 4)),xd.2.2)) (qoL1nn_H p seen (xd.1,(i64.wrap (xd.2.1 + 4)),xd.2.2)) 1003:=by
 have o1:0 ≤ xd.2.1 ∧ xd.2.1 < ((256:Nat):Int):=by first | decide | omega | (simp only [decide_eq_true_eq,decide_eq_false_iff_not,rng,IntKind.wrap_i64,IntKind.wrap_u8,IntKind.wrap_u16] at *;omega)
 have o2:(Int.toNat xd.2.1) < 256:=by first | decide | omega | (simp only [decide_eq_true_eq,decide_eq_false_iff_not,rng,IntKind.wrap_i64,IntKind.wrap_u8,IntKind.wrap_u16] at *;omega)
 exact runsM_of_x hG hM 400 1002 [.yes,.sym,.yes,.yes,.yes,.yes,.yes,.yes] [(1000,1000),(1002,1002)] (J d1 (J o1 (J o2 (J d2 (J d2 (J d2 (J d2 (J d2 (J T1 trivial))))))))) (by kernel_rfl)
theorem qoL1nn_p2 (p:Pic) (seen:Bool) (xd:(List Sprite) × Int × Pic) (d1:(decide (xd.2.1 < 256)) = true) (w1d:0 ≤ xd.2.1) (d2:(decide ((i64.wrap (xd.2.2.line - (i64.wrap (xd.2.2.men (Int.toNat xd.2.1))))) < 0)) = false) (d3:(decide ((i64.wrap (xd.2.2.line - (i64.wrap (xd.2.2.men (Int.toNat xd.2.1))))) ≥ (pHeight xd.2.2 xd.1))) = true):RunsM Try.prog 66 (bodyOf Try.f52 [1,1,1,0,0]) 1002 (qoL1nn_T p seen xd) (qoL1nn_H p seen xd) 1003 .normal (qoL1nn_T p seen (xd.1,(i64.wrap (xd.2.1 + 4)),xd.2.2)) (qoL1nn_H p seen (xd.1,(i64.wrap (xd.2.1 + 4)),xd.2.2)) 1003:=by
 have o1:0 ≤ xd.2.1 ∧ xd.2.1 < ((256:Nat):Int):=by first | decide | omega | (simp only [decide_eq_true_eq,decide_eq_false_iff_not,rng,IntKind.wrap_i64,IntKind.wrap_u8,IntKind.wrap_u16] at *;omega)
 have o2:(Int.toNat xd.2.1) < 256:=by first | decide | omega | (simp only [decide_eq_true_eq,decide_eq_false_iff_not,rng,IntKind.wrap_i64,IntKind.wrap_u8,IntKind.wrap_u16] at *;omega)
 exact runsM_of_x hG hM 400 1002 [.yes,.sym,.no,.no,.no,.callr [(1000,1000),(1002,1001)] [1000,1002] [] 1002 (.int .i64 (pHeight xd.2.2 xd.1)) [],.no,.no,.yes] [(1000,1000),(1002,1002)] (J d1 (J o1 (J o2 (J d2 (J d2 (J d2 (J (pHeight_ok xd.2.2 xd.1) (J d2 (J d2 (J d3 trivial)))))))))) (by kernel_rfl)
theorem qoL1nn_p3 (p:Pic) (seen:Bool) (xd:(List Sprite) × Int × Pic) (d1:(decide (xd.2.1 < 256)) = true) (w1d:0 ≤ xd.2.1) (d2:(decide ((i64.wrap (xd.2.2.line - (i64.wrap (xd.2.2.men (Int.toNat xd.2.1))))) < 0)) = false) (d3:(decide ((i64.wrap (xd.2.2.line - (i64.wrap (xd.2.2.men (Int.toNat xd.2.1))))) ≥ (pHeight xd.2.2 xd.1))) = false) (d4:(((((List.length xd.1):Nat):Int):Int) == 8) = true):RunsM Try.prog 66 (bodyOf Try.f52 [1,1,1,0,0]) 1002 (qoL1nn_T p seen xd) (qoL1nn_H p seen xd) 1003 .ret (qoL1nn_T1 p seen (.inr (xd.1,xd.2.1,({ xd.2.2 with flags:=(bOr .u8 xd.2.2.flags 32) }:Pic)))) (qoL1nn_H1 p seen (.inr (xd.1,xd.2.1,({ xd.2.2 with flags:=(bOr .u8 xd.2.2.flags 32) }:Pic)))) 1003:=by
 have o1:0 ≤ xd.2.1 ∧ xd.2.1 < ((256:Nat):Int):=by first | decide | omega | (simp only [decide_eq_true_eq,decide_eq_false_iff_not,rng,IntKind.wrap_i64,IntKind.wrap_u8,IntKind.wrap_u16] at *;omega)
 have o2:(Int.toNat xd.2.1) < 256:=by first | decide | omega | (simp only [decide_eq_true_eq,decide_eq_false_iff_not,rng,IntKind.wrap_i64,IntKind.wrap_u8,IntKind.wrap_u16] at *;omega)
 exact runsM_of_x hG hM 400 1002 [.yes,.sym,.no,.no,.no,.callr [(1000,1000),(1002,1001)] [1000,1002] [] 1002 (.int .i64 (pHeight xd.2.2 xd.1)) [],.no,.no,.no,.yes] [(1000,1000),(1002,1002)] (J d1 (J o1 (J o2 (J d2 (J d2 (J d2 (J (pHeight_ok xd.2.2 xd.1) (J d2 (J d2 (J d3 (J d4 trivial))))))))))) (by kernel_rfl)
theorem qoL1nn_p4 (p:Pic) (seen:Bool) (xd:(List Sprite) × Int × Pic) (d1:(decide (xd.2.1 < 256)) = true) (w1d:0 ≤ xd.2.1) (d2:(decide ((i64.wrap (xd.2.2.line - (i64.wrap (xd.2.2.men (Int.toNat xd.2.1))))) < 0)) = false) (d3:(decide ((i64.wrap (xd.2.2.line - (i64.wrap (xd.2.2.men (Int.toNat xd.2.1))))) ≥ (pHeight xd.2.2 xd.1))) = false) (d4:(((((List.length xd.1):Nat):Int):Int) == 8) = false) (w2d:Pic.ok xd.2.2) (w3d:xd.2.1 < 253) (w4d:0 ≤ (i64.wrap (xd.2.2.line - (i64.wrap (xd.2.2.men (Int.toNat xd.2.1)))))) (w5d:(i64.wrap (xd.2.2.line - (i64.wrap (xd.2.2.men (Int.toNat xd.2.1))))) < pHeight xd.2.2 xd.1) (w6d:(List.length xd.1) + 1 ≤ 1048576):RunsM Try.prog 66 (bodyOf Try.f52 [1,1,1,0,0]) 1002 (qoL1nn_T p seen xd) (qoL1nn_H p seen xd) 1003 .normal (qoL1nn_T p seen ((xd.1 ++ [(pFetch xd.2.2 xd.1 xd.2.1 (i64.wrap (xd.2.2.line - (i64.wrap (xd.2.2.men (Int.toNat xd.2.1))))))]),(i64.wrap (xd.2.1 + 4)),xd.2.2)) (qoL1nn_H p seen ((xd.1 ++ [(pFetch xd.2.2 xd.1 xd.2.1 (i64.wrap (xd.2.2.line - (i64.wrap (xd.2.2.men (Int.toNat xd.2.1))))))]),(i64.wrap (xd.2.1 + 4)),xd.2.2)) 1003:=by
 have o1:0 ≤ xd.2.1 ∧ xd.2.1 < ((256:Nat):Int):=by first | decide | omega | (simp only [decide_eq_true_eq,decide_eq_false_iff_not,rng,IntKind.wrap_i64,IntKind.wrap_u8,IntKind.wrap_u16] at *;omega)
 have o2:(Int.toNat xd.2.1) < 256:=by first | decide | omega | (simp only [decide_eq_true_eq,decide_eq_false_iff_not,rng,IntKind.wrap_i64,IntKind.wrap_u8,IntKind.wrap_u16] at *;omega)
 exact runsM_of_x hG hM 400 1002 [.yes,.sym,.no,.no,.no,.callr [(1000,1000),(1002,1001)] [1000,1002] [] 1002 (.int .i64 (pHeight xd.2.2 xd.1)) [],.no,.no,.no,.no,.callr [(1000,1000),(1002,1001)] [1000,1002] [] 1002 (Sprite.enc (pFetch xd.2.2 xd.1 xd.2.1 (i64.wrap (xd.2.2.line - (i64.wrap (xd.2.2.men (Int.toNat xd.2.1))))))) [],.eq 63 (sl 1004 (List.length (xd.1 ++ [(pFetch xd.2.2 xd.1 xd.2.1 (i64.wrap (xd.2.2.line - (i64.wrap (xd.2.2.men (Int.toNat xd.2.1))))))])) 5),.list [rowsL Sprite.cells Sprite.nil 5 (xd.1 ++ [(pFetch xd.2.2 xd.1 xd.2.1 (i64.wrap (xd.2.2.line - (i64.wrap (xd.2.2.men (Int.toNat xd.2.1))))))])]] [(1000,1000),(1004,1002)] (J d1 (J o1 (J o2 (J d2 (J d2 (J d2 (J (pHeight_ok xd.2.2 xd.1) (J d2 (J d2 (J d3 (J d4 (J (pFetch_ok xd.2.2 xd.1 xd.2.1 (i64.wrap (xd.2.2.line - (i64.wrap (xd.2.2.men (Int.toNat xd.2.1))))) w2d w1d w3d w4d w5d) (J (sl_snoc 1004 5 xd.1 (pFetch xd.2.2 xd.1 xd.2.1 (i64.wrap (xd.2.2.line - (i64.wrap (xd.2.2.men (Int.toNat xd.2.1))))))) (J (Sprite_snoc xd.1 (pFetch xd.2.2 xd.1 xd.2.1 (i64.wrap (xd.2.2.line - (i64.wrap (xd.2.2.men (Int.toNat xd.2.1))))))) (J w6d (J (rows_size Sprite.cells Sprite.nil 5 92 false xd.1) trivial)))))))))))))))) (by kernel_rfl)
theorem qoL1nn_p5 (p:Pic) (seen:Bool) (xd:(List Sprite) × Int × Pic) (d1:(decide (xd.2.1 < 256)) = false):RunsM Try.prog 66 (bodyOf Try.f52 [1,1,1,0,0]) 1002 (qoL1nn_T p seen xd) (qoL1nn_H p seen xd) 1003 (.exit 0) (qoL1nn_T1 p seen (.inl (xd.1,xd.2.1,xd.2.2))) (qoL1nn_H1 p seen (.inl (xd.1,xd.2.1,xd.2.2))) 1003:=by
 exact runsM_of_x hG hM 400 1002 [.no] [(1000,1000),(1002,1002)] (J d1 trivial) (by kernel_rfl)
theorem qoL1nn_runs (p:Pic) (seen:Bool) (x_:(List Sprite) × Int × Pic) (y_:((List Sprite) × Int × Pic) ⊕ ((List Sprite) × Int × Pic)) (h_:LoopR (qoL1nn p seen) x_ y_):RunsM Try.prog 66 (.block 0 (.loop (bodyOf Try.f52 [1,1,1,0,0]))) 1002 (qoL1nn_T p seen x_) (qoL1nn_H p seen x_) 1003 (outOf 0 (qoL1nn_ex y_)) (qoL1nn_T1 p seen y_) (qoL1nn_H1 p seen y_) 1003:=by
 refine block_loopM hG (qoL1nn p seen) (qoL1nn_T p seen) (qoL1nn_H p seen) qoL1nn_ex (qoL1nn_T1 p seen) (qoL1nn_H1 p seen) ?_ ?_ ?_ x_ y_ h_
 ·intro s r _ hr;cases r <;> cases hr
 ·intro xd y_ hx
  cases hx with
  | p1 d1 w1d d2 => exact qoL1nn_p1 p seen xd d1 w1d d2
  | p2 d1 w1d d2 d3 => exact qoL1nn_p2 p seen xd d1 w1d d2 d3
  | p4 d1 w1d d2 d3 d4 w2d w3d w4d w5d w6d => exact qoL1nn_p4 p seen xd d1 w1d d2 d3 d4 w2d w3d w4d w5d w6d
 ·intro xd y_ hx
  cases hx with
  | p3 d1 w1d d2 d3 d4 => exact qoL1nn_p3 p seen xd d1 w1d d2 d3 d4
  | p5 d1 => exact qoL1nn_p5 p seen xd d1
theorem wChoose_p1 (p:Pic) (pC:List Sprite) (seen:Bool) (c1:(!seen) = true):FnSpec Try.prog 52 1002 [pt 1000,.bool seen] [(1000,(PEk1 p pC)),(1001,sB pC false)] (.tuple ⟨[]⟩) [(1000,(Pic.bl ((p,([]:List Sprite)).1) (sl 1002 (List.length ((p,([]:List Sprite)).2)) 5) false)),(1002,⟨[rowsL Sprite.cells Sprite.nil 5 ((p,([]:List Sprite)).2)],92,false⟩)]:=by
 exact fn_ren (v:=.tuple ⟨[]⟩) (H1:=[(1000,(Pic.bl p (.slice none 0 0) false))]) (fn_of_x hG hM Try.func52 (by kernel_rfl) (by kernel_rfl) 400 [.yes,.yes,.yes,.yes,.yes] (J c1 (J c1 (J c1 (J c1 (J T1 trivial))))) (by kernel_rfl)) [(1000,1000)] 1003 (by kernel_rfl)
theorem wChoose_p2 (p:Pic) (pC:List Sprite) (seen:Bool) (c1:(!seen) = false) (c2:(!(pShows p ([]:List Sprite))) = true):FnSpec Try.prog 52 1002 [pt 1000,.bool seen] [(1000,(PEk1 p pC)),(1001,sB pC false)] (.tuple ⟨[]⟩) [(1000,(Pic.bl ((p,([]:List Sprite)).1) (sl 1002 (List.length ((p,([]:List Sprite)).2)) 5) false)),(1002,⟨[rowsL Sprite.cells Sprite.nil 5 ((p,([]:List Sprite)).2)],92,false⟩)]:=by
 exact fn_ren (v:=.tuple ⟨[]⟩) (H1:=[(1000,(Pic.bl p (.slice none 0 0) false))]) (fn_of_x hG hM Try.func52 (by kernel_rfl) (by kernel_rfl) 400 [.no,.no,.callr [(1000,1000)] [1000] [] 1001 (.bool (pShows p ([]:List Sprite))) [],.no,.no,.yes] (J c1 (J c1 (J (fn_nil hG (pShows_ok p ([]:List Sprite)) [(1000,1000)] 1001 [pt 1000] [(1000,(Pic.bl p (.slice none 0 0) true))] (by kernel_rfl)) (J c1 (J c1 (J c2 trivial)))))) (by kernel_rfl)) [(1000,1000)] 1003 (by kernel_rfl)
theorem wChoose_p3 (p:Pic) (pC:List Sprite) (seen:Bool) (c1:(!seen) = false) (c2:(!(pShows p ([]:List Sprite))) = false) (r1:(List Sprite) × Int × Pic) (l1:LoopR (qoL1nn p seen) ([],0,p) (.inl r1)):FnSpec Try.prog 52 1002 [pt 1000,.bool seen] [(1000,(PEk1 p pC)),(1001,sB pC false)] (.tuple ⟨[]⟩) [(1000,(Pic.bl ((r1.2.2,r1.1).1) (sl 1002 (List.length ((r1.2.2,r1.1).2)) 5) false)),(1002,⟨[rowsL Sprite.cells Sprite.nil 5 ((r1.2.2,r1.1).2)],92,false⟩)]:=by
 exact fn_ren (v:=.tuple ⟨[]⟩) (H1:=[(1000,(Pic.bl r1.2.2 (sl 1002 (List.length r1.1) 5) false)),(1002,⟨[rowsL Sprite.cells Sprite.nil 5 r1.1],92,false⟩)]) (fn_of_x hG hM Try.func52 (by kernel_rfl) (by kernel_rfl) 400 [.no,.no,.callr [(1000,1000)] [1000] [] 1001 (.bool (pShows p ([]:List Sprite))) [],.no,.no,.no,.segk 1 0 [0,4] [1000] .normal (qoL1nn_T1 p seen (.inl r1)) (qoL1nn_H1 p seen (.inl r1)) 1003] (J c1 (J c1 (J (fn_nil hG (pShows_ok p ([]:List Sprite)) [(1000,1000)] 1001 [pt 1000] [(1000,(Pic.bl p (.slice none 0 0) true))] (by kernel_rfl)) (J c1 (J c1 (J c2 (J (runs_of_pre hG (qoL1nn_runs p seen ([],0,p) (.inl r1) l1) [(1000,1000)] (T:=[(0,pt 1000),(4,.int .i64 0)]) (H:=[(1000,(Pic.bl p (.slice none 0 0) false))]) (by kernel_rfl)) trivial))))))) (by kernel_rfl)) [(1000,1000),(1002,1002)] 1003 (by kernel_rfl)
theorem wChoose_p4 (p:Pic) (pC:List Sprite) (seen:Bool) (c1:(!seen) = false) (c2:(!(pShows p ([]:List Sprite))) = false) (r1:(List Sprite) × Int × Pic) (l1:LoopR (qoL1nn p seen) ([],0,p) (.inr r1)):FnSpec Try.prog 52 1002 [pt 1000,.bool seen] [(1000,(PEk1 p pC)),(1001,sB pC false)] (.tuple ⟨[]⟩) [(1000,(Pic.bl ((r1.2.2,r1.1).1) (sl 1002 (List.length ((r1.2.2,r1.1).2)) 5) false)),(1002,⟨[rowsL Sprite.cells Sprite.nil 5 ((r1.2.2,r1.1).2)],92,false⟩)]:=by
 exact fn_ren (v:=.tuple ⟨[]⟩) (H1:=[(1000,(Pic.bl r1.2.2 (sl 1002 (List.length r1.1) 5) false)),(1002,⟨[rowsL Sprite.cells Sprite.nil 5 r1.1],92,false⟩)]) (fn_of_x hG hM Try.func52 (by kernel_rfl) (by kernel_rfl) 400 [.no,.no,.callr [(1000,1000)] [1000] [] 1001 (.bool (pShows p ([]:List Sprite))) [],.no,.no,.no,.segk 1 0 [0,4] [1000] .ret (qoL1nn_T1 p seen (.inr r1)) (qoL1nn_H1 p seen (.inr r1)) 1003] (J c1 (J c1 (J (fn_nil hG (pShows_ok p ([]:List Sprite)) [(1000,1000)] 1001 [pt 1000] [(1000,(Pic.bl p (.slice none 0 0) true))] (by kernel_rfl)) (J c1 (J c1 (J c2 (J (runs_of_pre hG (qoL1nn_runs p seen ([],0,p) (.inr r1) l1) [(1000,1000)] (T:=[(0,pt 1000),(4,.int .i64 0)]) (H:=[(1000,(Pic.bl p (.slice none 0 0) false))]) (by kernel_rfl)) trivial))))))) (by kernel_rfl)) [(1000,1000),(1002,1002)] 1003 (by kernel_rfl)
end Go.Proofs.Ytgnhhnmpeklciaa
namespace Go.Proofs.Ytgnhhnmpeklciaa
open Go VX
open Go.IntKind (i64 u8 u16)
def manAt (s:Sprite) (x:Int):Int:=i64.wrap (x - i64.wrap s.x)
def manNo (s:Sprite) (x:Int):Int:=
 if manAt s x < 0 then 0
 else if manAt s x ≥ 8 then 0
 else if (((bAnd .u8 s.look 64):Int) != 0) = true then two s.low s.high (i64.wrap (7 - manAt s x))
 else two s.low s.high (manAt s x)
def noMan:Sprite:=⟨0,0,0,0,false⟩
def findMan (x:Int):List Sprite → Int × Sprite
 | [] => (0,noMan)
 | s :: r => if manNo s x = 0 then findMan x r else (manNo s x,s)
def pSpriteF (p:Pic) (L:List Sprite) (x:Int):Int × Sprite:=
 if (((bAnd .u8 p.mask 16):Int) == 0) = true then (0,noMan)
 else if (decide ((x:Int) < 8)) = true then (if (((bAnd .u8 p.mask 4):Int) == 0) = true then (0,noMan) else findMan x L)
 else findMan x L
theorem man_loop (p:Pic) (x:Int) (hx:0 ≤ x) (hx2:x < 256) (L:List Sprite) (hL:L.length ≤ 1048576):∀ (M pre:List Sprite),L = pre ++ M →
  (findMan x M = (0,noMan) ∧ ∃ i,LoopR (qsL1nyn p L x) ((pre.length:Int),0,noMan) (.inl (i,0,noMan))) ∨
  (∃ i,LoopR (qsL1nyn p L x) ((pre.length:Int),0,noMan) (.inr (i,(findMan x M).1,(findMan x M).2)))
 | [],pre,h => by
  refine .inl ⟨rfl,(pre.length:Int),.last (.p7 (decide_eq_false ?_))⟩
  rw [h];simp
 | s :: r,pre,h => by
  have hlen:L.length = pre.length + (r.length + 1):=by rw [h];simp
  have hg:List.getD L (Int.toNat (pre.length:Int)) Sprite.nil = s:=by rw [h,Int.toNat_natCast];simp
  have hd:(decide (((pre.length:Int):Int) < (((List.length L):Nat):Int))) = true:=decide_eq_true (by omega)
  have h0:0 ≤ (pre.length:Int):=by omega
  have hw:i64.wrap ((pre.length:Int) + 1) = (((pre ++ [s]).length:Nat):Int):=by rw [IntKind.wrap_i64,List.length_append];simp only [List.length_cons,List.length_nil];omega
  have ih:=man_loop p x hx hx2 L hL r (pre ++ [s]) (by rw [h];simp)
  have go:∀ (st:qsL1nyn p L x ((pre.length:Int),0,noMan) (.inl ((((pre ++ [s]).length:Nat):Int),0,noMan))),manNo s x = 0 →
    (findMan x (s :: r) = (0,noMan) ∧ ∃ i,LoopR (qsL1nyn p L x) ((pre.length:Int),0,noMan) (.inl (i,0,noMan))) ∨
    (∃ i,LoopR (qsL1nyn p L x) ((pre.length:Int),0,noMan) (.inr (i,(findMan x (s :: r)).1,(findMan x (s :: r)).2))):=by
   intro st hm
   simp only [findMan,if_pos hm]
   rcases ih with ⟨e,i,t⟩ | ⟨i,t⟩
   ·exact .inl ⟨e,i,.more st t⟩
   ·exact .inr ⟨i,.more st t⟩
  by_cases c1:manAt s x < 0
  ·refine go ?_ (by unfold manNo;rw [if_pos c1])
   have:=qsL1nyn.p1 (p:=p) (pC:=L) (x:=x) (xd:=((pre.length:Int),0,noMan)) hd h0 (by simp only [hg];exact decide_eq_true c1)
   simp only [hw] at this;exact this
  by_cases c2:manAt s x ≥ 8
  ·refine go ?_ (by unfold manNo;rw [if_neg c1,if_pos c2])
   have:=qsL1nyn.p2 (p:=p) (pC:=L) (x:=x) (xd:=((pre.length:Int),0,noMan)) hd h0 (by simp only [hg];exact decide_eq_false c1) (by simp only [hg];exact decide_eq_true c2)
   simp only [hw] at this;exact this
  cases c3:(((bAnd .u8 s.look 64):Int) != 0) with
  | true =>
   have e:manNo s x = two s.low s.high (i64.wrap (7 - manAt s x)):=by unfold manNo;rw [if_neg c1,if_neg c2,if_pos c3]
   have w2:0 ≤ i64.wrap (7 - manAt s x):=by rw [IntKind.wrap_i64];omega
   by_cases c4:manNo s x = 0
   ·refine go ?_ c4
    have:=qsL1nyn.p4 (p:=p) (pC:=L) (x:=x) (xd:=((pre.length:Int),0,noMan)) hd h0 (by simp only [hg];exact decide_eq_false c1) (by simp only [hg];exact decide_eq_false c2) (by simp only [hg];exact c3) (by simp only [hg];exact w2) (by simp only [hg];show (two s.low s.high (i64.wrap (7 - manAt s x)) != 0) = false;rw [← e,c4];rfl)
    simp only [hw] at this;exact this
   ·refine .inr ⟨(pre.length:Int),.last ?_⟩
    have:=qsL1nyn.p3 (p:=p) (pC:=L) (x:=x) (xd:=((pre.length:Int),0,noMan)) hd h0 (by simp only [hg];exact decide_eq_false c1) (by simp only [hg];exact decide_eq_false c2) (by simp only [hg];exact c3) (by simp only [hg];exact w2) (by simp only [hg];show (two s.low s.high (i64.wrap (7 - manAt s x)) != 0) = true;rw [← e];simpa using c4)
    simp only [hg] at this
    simp only [findMan,if_neg c4]
    rw [e];exact this
  | false =>
   have e:manNo s x = two s.low s.high (manAt s x):=by unfold manNo;rw [if_neg c1,if_neg c2,if_neg (by rw [c3];decide)]
   have w2:0 ≤ manAt s x:=by omega
   by_cases c4:manNo s x = 0
   ·refine go ?_ c4
    have:=qsL1nyn.p6 (p:=p) (pC:=L) (x:=x) (xd:=((pre.length:Int),0,noMan)) hd h0 (by simp only [hg];exact decide_eq_false c1) (by simp only [hg];exact decide_eq_false c2) (by simp only [hg];exact c3) (by simp only [hg];exact w2) (by simp only [hg];show (two s.low s.high (manAt s x) != 0) = false;rw [← e,c4];rfl)
    simp only [hw] at this;exact this
   ·refine .inr ⟨(pre.length:Int),.last ?_⟩
    have:=qsL1nyn.p5 (p:=p) (pC:=L) (x:=x) (xd:=((pre.length:Int),0,noMan)) hd h0 (by simp only [hg];exact decide_eq_false c1) (by simp only [hg];exact decide_eq_false c2) (by simp only [hg];exact c3) (by simp only [hg];exact w2) (by simp only [hg];show (two s.low s.high (manAt s x) != 0) = true;rw [← e];simpa using c4)
    simp only [hg] at this
    simp only [findMan,if_neg c4]
    rw [e];exact this
def chooseL (p:Pic):Nat → Nat → List Sprite → List Sprite × Pic
 | 0,_,L => (L,p)
 | n + 1,k,L =>
  if i64.wrap (p.line - i64.wrap (p.men k)) < 0 then chooseL p n (k + 4) L
  else if i64.wrap (p.line - i64.wrap (p.men k)) ≥ pHeight p L then chooseL p n (k + 4) L
  else if L.length = 8 then (L,{ p with flags:=(bOr .u8 p.flags 32) })
  else chooseL p n (k + 4) (L ++ [pFetch p L (k:Int) (i64.wrap (p.line - i64.wrap (p.men k)))])
def pChooseF (p:Pic) (L:List Sprite) (seen:Bool):Pic × List Sprite:=
 if (!seen) = true then (p,[])
 else if (!(pShows p ([]:List Sprite))) = true then (p,[])
 else ((chooseL p 64 0 []).2,(chooseL p 64 0 []).1)
theorem choose_loop (p:Pic) (seen:Bool) (wp:Pic.ok p):∀ (n k:Nat) (L:List Sprite),k + 4 * n = 256 → L.length ≤ 8 →
  ∃ i,LoopR (qoL1nn p seen) (L,(k:Int),p) (.inl ((chooseL p n k L).1,i,(chooseL p n k L).2)) ∨ LoopR (qoL1nn p seen) (L,(k:Int),p) (.inr ((chooseL p n k L).1,i,(chooseL p n k L).2))
 | 0,k,L,hk,hL => ⟨(k:Int),.inl (.last (.p5 (decide_eq_false (by show ¬ ((k:Int) < 256);omega))))⟩
 | n + 1,k,L,hk,hL => by
  have hd:(decide (((k:Int):Int) < 256)) = true:=decide_eq_true (by omega)
  have h0:0 ≤ (k:Int):=by omega
  have hw:i64.wrap ((k:Int) + 4) = ((k + 4:Nat):Int):=by rw [IntKind.wrap_i64];omega
  have hk':Int.toNat (k:Int) = k:=Int.toNat_natCast k
  have more:∀ (L':List Sprite),qoL1nn p seen (L,(k:Int),p) (.inl (L',((k + 4:Nat):Int),p)) → L'.length ≤ 8 →
    ∃ i,LoopR (qoL1nn p seen) (L,(k:Int),p) (.inl ((chooseL p n (k + 4) L').1,i,(chooseL p n (k + 4) L').2)) ∨ LoopR (qoL1nn p seen) (L,(k:Int),p) (.inr ((chooseL p n (k + 4) L').1,i,(chooseL p n (k + 4) L').2)):=by
   intro L' st hl
   obtain ⟨i,t | t⟩:=choose_loop p seen wp n (k + 4) L' (by omega) hl
   ·exact ⟨i,.inl (.more st t)⟩
   ·exact ⟨i,.inr (.more st t)⟩
  generalize hrow:i64.wrap (p.line - i64.wrap (p.men k)) = row
  by_cases c1:row < 0
  ·have e:chooseL p (n + 1) k L = chooseL p n (k + 4) L:=by simp only [chooseL,hrow,if_pos c1]
   rw [e]
   refine more L ?_ hL
   have:=qoL1nn.p1 (p:=p) (seen:=seen) (xd:=(L,(k:Int),p)) hd h0 (by simp only [hk',hrow];exact decide_eq_true c1)
   simp only [hw] at this;exact this
  by_cases c2:row ≥ pHeight p L
  ·have e:chooseL p (n + 1) k L = chooseL p n (k + 4) L:=by simp only [chooseL,hrow,if_neg c1,if_pos c2]
   rw [e]
   refine more L ?_ hL
   have:=qoL1nn.p2 (p:=p) (seen:=seen) (xd:=(L,(k:Int),p)) hd h0 (by simp only [hk',hrow];exact decide_eq_false c1) (by simp only [hk',hrow];exact decide_eq_true c2)
   simp only [hw] at this;exact this
  by_cases c3:L.length = 8
  ·have e:chooseL p (n + 1) k L = (L,{ p with flags:=(bOr .u8 p.flags 32) }):=by simp only [chooseL,hrow,if_neg c1,if_neg c2,if_pos c3]
   rw [e]
   exact ⟨(k:Int),.inr (.last (.p3 hd h0 (by simp only [hk',hrow];exact decide_eq_false c1) (by simp only [hk',hrow];exact decide_eq_false c2) (by simp only [c3];rfl)))⟩
  ·have e:chooseL p (n + 1) k L = chooseL p n (k + 4) (L ++ [pFetch p L (k:Int) row]):=by simp only [chooseL,hrow,if_neg c1,if_neg c2,if_neg c3]
   rw [e]
   refine more _ ?_ (by rw [List.length_append];simp only [List.length_cons,List.length_nil];omega)
   have:=qoL1nn.p4 (p:=p) (seen:=seen) (xd:=(L,(k:Int),p)) hd h0 (by simp only [hk',hrow];exact decide_eq_false c1) (by simp only [hk',hrow];exact decide_eq_false c2) (by simp only [beq_eq_false_iff_ne];omega) wp (by show (k:Int) < 253;omega) (by simp only [hk',hrow];omega) (by simp only [hk',hrow];omega) (by show L.length + 1 ≤ _;omega)
   simp only [hw,hk',hrow] at this;exact this
end Go.Proofs.Ytgnhhnmpeklciaa
namespace Go.Proofs.Ytgnhhnmpeklciaa
open Go VX
theorem pSpriteF_ok (p:Pic) (pC:List Sprite) (x:Int) (hx:0 ≤ x) (hx2:x < 256) (hL:(List.length pC) ≤ 8):FnSpec Try.prog 71 1002 [pt 1000,.int .i64 x] [(1000,(Pic.bl p (sl 1001 (List.length pC) 5) false)),(1001,sB pC false)] (.tuple ⟨[.int .u8 ((pSpriteF p pC x).1),Sprite.enc ((pSpriteF p pC x).2)]⟩) [(1000,(Pic.bl p (sl 1001 (List.length pC) 5) false)),(1001,sB pC false)]:=by
 have loop:=man_loop p x hx hx2 pC (by omega) pC [] rfl
 have e:∀ q:Int × Sprite,pSpriteF p pC x = q → q = pSpriteF p pC x:=fun q h => h.symm
 rcases bt ((((bAnd .u8 p.mask 16):Int) == 0)) with c1 | c1
 ·rw [show pSpriteF p pC x = (0,noMan) from by unfold pSpriteF;rw [if_pos c1]]
  exact wSprite_p1 p pC x hx hx2 c1
 ·rcases bt (decide ((x:Int) < 8)) with c2 | c2
  ·rcases bt ((((bAnd .u8 p.mask 4):Int) == 0)) with c3 | c3
   ·rw [show pSpriteF p pC x = (0,noMan) from by unfold pSpriteF;rw [if_neg (nt c1),if_pos c2,if_pos c3]]
    exact wSprite_p2 p pC x hx hx2 c1 c2 c3
   ·rw [show pSpriteF p pC x = findMan x pC from by unfold pSpriteF;rw [if_neg (nt c1),if_pos c2,if_neg (nt c3)]]
    rcases loop with ⟨h,i,t⟩ | ⟨i,t⟩
    ·rw [h];exact wSprite_p3 p pC x hx hx2 c1 c2 c3 _ t
    ·exact wSprite_p4 p pC x hx hx2 c1 c2 c3 _ t
  ·rw [show pSpriteF p pC x = findMan x pC from by unfold pSpriteF;rw [if_neg (nt c1),if_neg (nt c2)]]
   rcases loop with ⟨h,i,t⟩ | ⟨i,t⟩
   ·rw [h];exact wSprite_p5 p pC x hx hx2 c1 c2 _ t
   ·exact wSprite_p6 p pC x hx hx2 c1 c2 _ t
theorem pChooseF_ok (p:Pic) (pC:List Sprite) (seen:Bool) (wp:Pic.ok p):FnSpec Try.prog 52 1002 [pt 1000,.bool seen] [(1000,(Pic.bl p (sl 1001 (List.length pC) 5) false)),(1001,sB pC false)] (.tuple ⟨[]⟩) [(1000,(Pic.bl ((pChooseF p pC seen).1) (sl 1002 (List.length ((pChooseF p pC seen).2)) 5) false)),(1002,⟨[rowsL Sprite.cells Sprite.nil 5 ((pChooseF p pC seen).2)],92,false⟩)]:=by
 rcases bt (!seen) with c1 | c1
 ·rw [show pChooseF p pC seen = (p,[]) from by unfold pChooseF;rw [if_pos c1]]
  exact wChoose_p1 p pC seen c1
 ·rcases bt (!(pShows p ([]:List Sprite))) with c2 | c2
  ·rw [show pChooseF p pC seen = (p,[]) from by unfold pChooseF;rw [if_neg (nt c1),if_pos c2]]
   exact wChoose_p2 p pC seen c1 c2
  ·rw [show pChooseF p pC seen = ((chooseL p 64 0 []).2,(chooseL p 64 0 []).1) from by unfold pChooseF;rw [if_neg (nt c1),if_neg (nt c2)]]
   obtain ⟨i,t | t⟩:=choose_loop p seen wp 64 0 [] rfl (by decide)
   ·generalize chooseL p 64 0 [] = q at t
    exact wChoose_p3 p pC seen c1 c2 _ t
   ·generalize chooseL p 64 0 [] = q at t
    exact wChoose_p4 p pC seen c1 c2 _ t
theorem fetch_ok (p:Pic) (L:List Sprite) (a row:Int) (w:Pic.ok p):Sprite.ok (pFetch p L a row):=by
 unfold pFetch
 repeat' split
 all_goals exact ⟨by first | exact w.tiles _ | exact rng_wrap_u8 _,by first | exact w.tiles _ | exact rng_wrap_u8 _,by first | exact w.men _ | exact rng_wrap_u8 _,by first | exact w.men _ | exact rng_wrap_u8 _⟩
theorem choose_len (p:Pic):∀ (n k:Nat) (L:List Sprite),L.length ≤ 8 → (chooseL p n k L).1.length ≤ 8
 | 0,_,L,h => h
 | n + 1,k,L,h => by
  unfold chooseL
  split
  ·exact choose_len p n _ L h
  ·split
   ·exact choose_len p n _ L h
   ·split
    ·exact h
    ·rename_i h8
     refine choose_len p n _ _ ?_
     rw [List.length_append];simp only [List.length_cons,List.length_nil];omega
end Go.Proofs.Ytgnhhnmpeklciaa
namespace Go.Proofs.Ytgnhhnmpeklciaa
open Go VX
open Go.IntKind (i64 u8 u16)
def qdJ1 (p:Pic) (pC:List Sprite) (x:Int):Bool:=
 if (((pTile p pC x).1:Int) != 0) = true then
  if (((pSpriteF p pC x).1:Int) != 0) = true then
   if ((pSpriteF p pC x).2).first = true then
    (decide (x < 255))
   else
    false
  else
   false
 else
  false
def qdJ1_T (p:Pic) (pC:List Sprite) (x:Int):Tm:=[(0,pt 1000),(1,.int .i64 x),(4,.int .u8 ((pTile p pC x).1)),(5,.int .u8 ((pTile p pC x).2)),(6,.int .u8 ((pSpriteF p pC x).1)),(7,pt 1002)]
def qdJ1_H (p:Pic) (pC:List Sprite) (x:Int):Heap:=[(1002,⟨[.one (.int .u8 (((pSpriteF p pC x).2).low)),.one (.int .u8 (((pSpriteF p pC x).2).high)),.one (.int .u8 (((pSpriteF p pC x).2).look)),.one (.int .u8 (((pSpriteF p pC x).2).x)),.one (.bool (((pSpriteF p pC x).2).first))],92,false⟩)]
def qdJ1_T1 (p:Pic) (pC:List Sprite) (x:Int) (r_:Bool):Tm:=[(0,pt 1000),(1,.int .i64 x),(4,.int .u8 ((pTile p pC x).1)),(5,.int .u8 ((pTile p pC x).2)),(6,.int .u8 ((pSpriteF p pC x).1)),(7,pt 1002),(35,.bool r_)]
def qdJ1_H1 (p:Pic) (pC:List Sprite) (x:Int) (r_:Bool):Heap:=[(1002,⟨[.one (.int .u8 (((pSpriteF p pC x).2).low)),.one (.int .u8 (((pSpriteF p pC x).2).high)),.one (.int .u8 (((pSpriteF p pC x).2).look)),.one (.int .u8 (((pSpriteF p pC x).2).x)),.one (.bool (((pSpriteF p pC x).2).first))],92,false⟩)]
theorem qdJ1_p1 (p:Pic) (pC:List Sprite) (x:Int) (d1:(((pTile p pC x).1:Int) != 0) = true) (d2:(((pSpriteF p pC x).1:Int) != 0) = true) (d3:((pSpriteF p pC x).2).first = true):Runs Try.prog 95 (bodyOf Try.f49 [1,1,0,0]) (qdJ1_T p pC x) (qdJ1_H p pC x) 1003 .normal (qdJ1_T1 p pC x (decide (x < 255))) (qdJ1_H1 p pC x (decide (x < 255))) 1003:=by
 exact runs_of_x hG hM 400 [.yes,.yes,.yes,.yes,.yes,.yes,.yes,.yes,.yes] (J d1 (J d1 (J d1 (J d2 (J d2 (J d2 (J d3 (J d3 (J d3 trivial))))))))) (by kernel_rfl)
theorem qdJ1_p2 (p:Pic) (pC:List Sprite) (x:Int) (d1:(((pTile p pC x).1:Int) != 0) = true) (d2:(((pSpriteF p pC x).1:Int) != 0) = true) (d3:((pSpriteF p pC x).2).first = false):Runs Try.prog 95 (bodyOf Try.f49 [1,1,0,0]) (qdJ1_T p pC x) (qdJ1_H p pC x) 1003 .normal (qdJ1_T1 p pC x false) (qdJ1_H1 p pC x false) 1003:=by
 exact runs_of_x hG hM 400 [.yes,.yes,.yes,.yes,.yes,.yes,.no,.no,.no] (J d1 (J d1 (J d1 (J d2 (J d2 (J d2 (J d3 (J d3 (J d3 trivial))))))))) (by kernel_rfl)
theorem qdJ1_p3 (p:Pic) (pC:List Sprite) (x:Int) (d1:(((pTile p pC x).1:Int) != 0) = true) (d2:(((pSpriteF p pC x).1:Int) != 0) = false):Runs Try.prog 95 (bodyOf Try.f49 [1,1,0,0]) (qdJ1_T p pC x) (qdJ1_H p pC x) 1003 .normal (qdJ1_T1 p pC x false) (qdJ1_H1 p pC x false) 1003:=by
 exact runs_of_x hG hM 400 [.yes,.yes,.yes,.no,.no,.no,.no,.no,.no] (J d1 (J d1 (J d1 (J d2 (J d2 (J d2 (J T0 (J T0 (J T0 trivial))))))))) (by kernel_rfl)
theorem qdJ1_p4 (p:Pic) (pC:List Sprite) (x:Int) (d1:(((pTile p pC x).1:Int) != 0) = false):Runs Try.prog 95 (bodyOf Try.f49 [1,1,0,0]) (qdJ1_T p pC x) (qdJ1_H p pC x) 1003 .normal (qdJ1_T1 p pC x false) (qdJ1_H1 p pC x false) 1003:=by
 exact runs_of_x hG hM 400 [.no,.no,.no,.no,.no,.no,.no,.no,.no] (J d1 (J d1 (J d1 (J T0 (J T0 (J T0 (J T0 (J T0 (J T0 trivial))))))))) (by kernel_rfl)
theorem qdJ1_runs (p:Pic) (pC:List Sprite) (x:Int):Runs Try.prog 95 (bodyOf Try.f49 [1,1,0,0]) (qdJ1_T p pC x) (qdJ1_H p pC x) 1003 .normal (qdJ1_T1 p pC x (qdJ1 p pC x)) (qdJ1_H1 p pC x (qdJ1 p pC x)) 1003:=by
 rcases bt (((pTile p pC x).1:Int) != 0) with d1 | d1
 ·
  rcases bt (((pSpriteF p pC x).1:Int) != 0) with d2 | d2
  ·
   rcases bt (((pSpriteF p pC x).2).first) with d3 | d3
   ·
    rw [show qdJ1 p pC x = (decide (x < 255)) from by unfold qdJ1;rw [if_pos d1,if_pos d2,if_pos d3]]
    exact qdJ1_p1 p pC x d1 d2 d3
   ·
    rw [show qdJ1 p pC x = false from by unfold qdJ1;rw [if_pos d1,if_pos d2,if_neg (nt d3)]]
    exact qdJ1_p2 p pC x d1 d2 d3
  ·
   rw [show qdJ1 p pC x = false from by unfold qdJ1;rw [if_pos d1,if_neg (nt d2)]]
   exact qdJ1_p3 p pC x d1 d2
 ·
  rw [show qdJ1 p pC x = false from by unfold qdJ1;rw [if_neg (nt d1)]]
  exact qdJ1_p4 p pC x d1
def qdJ2 (p:Pic) (pC:List Sprite) (x:Int) (xd:Int):Int:=
 if (qdJ1 p pC x) = true then
  (bOr .u8 xd 64)
 else
  xd
def qdJ2_T (p:Pic) (pC:List Sprite) (x:Int) (xd:Int):Tm:=[(0,pt 1000),(1,.int .i64 x),(4,.int .u8 ((pTile p pC x).1)),(5,.int .u8 ((pTile p pC x).2)),(6,.int .u8 ((pSpriteF p pC x).1)),(7,pt 1002),(35,.bool (qdJ1 p pC x))]
def qdJ2_H (p:Pic) (pC:List Sprite) (x:Int) (xd:Int):Heap:=[(1000,⟨[.ints .u8 8192 p.tiles,.ints .u8 2048 p.names,.ints .u8 32 p.colours,.ints .u8 256 p.men,.one (.int .u8 p.man),.one (.int .u16 p.scroll.V),.one (.int .u16 p.scroll.T),.one (.int .u8 p.scroll.X),.one (.bool p.scroll.W),.one (.int .u8 p.control),.one (.int .u8 p.mask),.one (.int .u8 xd),.one (.int .u8 p.waits),.one (.int .u8 p.bus),.one (.bool p.upright),.one (.int .i64 p.line),.one (.int .i64 p.dot),.one (.bool p.odd),.one (.int .i64 p.frames),.one (sl 1001 (List.length pC) 5),.ints .u8 61440 p.screen],79,false⟩)]
def qdJ2_T1 (p:Pic) (pC:List Sprite) (x:Int) (xd:Int) (r_:Int):Tm:=[(0,pt 1000),(1,.int .i64 x),(4,.int .u8 ((pTile p pC x).1)),(5,.int .u8 ((pTile p pC x).2)),(6,.int .u8 ((pSpriteF p pC x).1)),(7,pt 1002)]
def qdJ2_H1 (p:Pic) (pC:List Sprite) (x:Int) (xd:Int) (r_:Int):Heap:=[(1000,⟨[.ints .u8 8192 p.tiles,.ints .u8 2048 p.names,.ints .u8 32 p.colours,.ints .u8 256 p.men,.one (.int .u8 p.man),.one (.int .u16 p.scroll.V),.one (.int .u16 p.scroll.T),.one (.int .u8 p.scroll.X),.one (.bool p.scroll.W),.one (.int .u8 p.control),.one (.int .u8 p.mask),.one (.int .u8 r_),.one (.int .u8 p.waits),.one (.int .u8 p.bus),.one (.bool p.upright),.one (.int .i64 p.line),.one (.int .i64 p.dot),.one (.bool p.odd),.one (.int .i64 p.frames),.one (sl 1001 (List.length pC) 5),.ints .u8 61440 p.screen],79,false⟩)]
theorem qdJ2_p1 (p:Pic) (pC:List Sprite) (x:Int) (xd:Int) (d1:(qdJ1 p pC x) = true):Runs Try.prog 95 (bodyOf Try.f49 [1,1,0,1]) (qdJ2_T p pC x xd) (qdJ2_H p pC x xd) 1003 .normal (qdJ2_T1 p pC x xd (bOr .u8 xd 64)) (qdJ2_H1 p pC x xd (bOr .u8 xd 64)) 1003:=by
 exact runs_of_x hG hM 400 [.yes] (J d1 trivial) (by kernel_rfl)
theorem qdJ2_p2 (p:Pic) (pC:List Sprite) (x:Int) (xd:Int) (d1:(qdJ1 p pC x) = false):Runs Try.prog 95 (bodyOf Try.f49 [1,1,0,1]) (qdJ2_T p pC x xd) (qdJ2_H p pC x xd) 1003 .normal (qdJ2_T1 p pC x xd xd) (qdJ2_H1 p pC x xd xd) 1003:=by
 exact runs_of_x hG hM 400 [.no] (J d1 trivial) (by kernel_rfl)
theorem qdJ2_runs (p:Pic) (pC:List Sprite) (x:Int) (xd:Int):Runs Try.prog 95 (bodyOf Try.f49 [1,1,0,1]) (qdJ2_T p pC x xd) (qdJ2_H p pC x xd) 1003 .normal (qdJ2_T1 p pC x xd (qdJ2 p pC x xd)) (qdJ2_H1 p pC x xd (qdJ2 p pC x xd)) 1003:=by
 rcases bt (qdJ1 p pC x) with d1 | d1
 ·
  rw [show qdJ2 p pC x xd = (bOr .u8 xd 64) from by unfold qdJ2;rw [if_pos d1]]
  exact qdJ2_p1 p pC x xd d1
 ·
  rw [show qdJ2 p pC x xd = xd from by unfold qdJ2;rw [if_neg (nt d1)]]
  exact qdJ2_p2 p pC x xd d1
theorem qdJ2_w (p:Pic) (pC:List Sprite) (x:Int) (xd:Int) (v1d:rng 256 xd):rng 256 (qdJ2 p pC x xd):=by
 rcases bt (qdJ1 p pC x) with d1 | d1
 ·
  rw [show qdJ2 p pC x xd = (bOr .u8 xd 64) from by unfold qdJ2;rw [if_pos d1]]
  exact (rng_bOr_u8 xd 64)
 ·
  rw [show qdJ2 p pC x xd = xd from by unfold qdJ2;rw [if_neg (nt d1)]]
  exact v1d
def qdJ3 (p:Pic) (pC:List Sprite) (x:Int):Bool:=
 if (((pSpriteF p pC x).1:Int) != 0) = true then
  if (((pTile p pC x).1:Int) == 0) = true then
   true
  else
   ((bAnd .u8 (((pSpriteF p pC x).2).look) 32) == 0)
 else
  false
def qdJ3_T (p:Pic) (pC:List Sprite) (x:Int):Tm:=[(0,pt 1000),(1,.int .i64 x),(4,.int .u8 ((pTile p pC x).1)),(5,.int .u8 ((pTile p pC x).2)),(6,.int .u8 ((pSpriteF p pC x).1)),(7,pt 1002),(8,.int .u16 0)]
def qdJ3_H (p:Pic) (pC:List Sprite) (x:Int):Heap:=[(1002,⟨[.one (.int .u8 (((pSpriteF p pC x).2).low)),.one (.int .u8 (((pSpriteF p pC x).2).high)),.one (.int .u8 (((pSpriteF p pC x).2).look)),.one (.int .u8 (((pSpriteF p pC x).2).x)),.one (.bool (((pSpriteF p pC x).2).first))],92,false⟩)]
def qdJ3_T1 (p:Pic) (pC:List Sprite) (x:Int) (r_:Bool):Tm:=[(0,pt 1000),(1,.int .i64 x),(4,.int .u8 ((pTile p pC x).1)),(5,.int .u8 ((pTile p pC x).2)),(6,.int .u8 ((pSpriteF p pC x).1)),(7,pt 1002),(8,.int .u16 0),(43,.bool r_)]
def qdJ3_H1 (p:Pic) (pC:List Sprite) (x:Int) (r_:Bool):Heap:=[(1002,⟨[.one (.int .u8 (((pSpriteF p pC x).2).low)),.one (.int .u8 (((pSpriteF p pC x).2).high)),.one (.int .u8 (((pSpriteF p pC x).2).look)),.one (.int .u8 (((pSpriteF p pC x).2).x)),.one (.bool (((pSpriteF p pC x).2).first))],92,false⟩)]
theorem qdJ3_p1 (p:Pic) (pC:List Sprite) (x:Int) (d1:(((pSpriteF p pC x).1:Int) != 0) = true) (d2:(((pTile p pC x).1:Int) == 0) = true):Runs Try.prog 95 (bodyOf Try.f49 [1,1,1,1,0,0,0]) (qdJ3_T p pC x) (qdJ3_H p pC x) 1003 .normal (qdJ3_T1 p pC x true) (qdJ3_H1 p pC x true) 1003:=by
 exact runs_of_x hG hM 400 [.yes,.yes,.yes,.yes,.yes,.yes,.yes,.yes,.yes,.yes] (J d1 (J d1 (J d1 (J d2 (J d2 (J d2 (J d2 (J d1 (J d2 (J d1 trivial)))))))))) (by kernel_rfl)
theorem qdJ3_p2 (p:Pic) (pC:List Sprite) (x:Int) (d1:(((pSpriteF p pC x).1:Int) != 0) = true) (d2:(((pTile p pC x).1:Int) == 0) = false):Runs Try.prog 95 (bodyOf Try.f49 [1,1,1,1,0,0,0]) (qdJ3_T p pC x) (qdJ3_H p pC x) 1003 .normal (qdJ3_T1 p pC x ((bAnd .u8 (((pSpriteF p pC x).2).look) 32) == 0)) (qdJ3_H1 p pC x ((bAnd .u8 (((pSpriteF p pC x).2).look) 32) == 0)) 1003:=by
 exact runs_of_x hG hM 400 [.yes,.yes,.yes,.no,.no,.no,.no,.yes,.no,.yes] (J d1 (J d1 (J d1 (J d2 (J d2 (J d2 (J d2 (J d1 (J d2 (J d1 trivial)))))))))) (by kernel_rfl)
theorem qdJ3_p3 (p:Pic) (pC:List Sprite) (x:Int) (d1:(((pSpriteF p pC x).1:Int) != 0) = false):Runs Try.prog 95 (bodyOf Try.f49 [1,1,1,1,0,0,0]) (qdJ3_T p pC x) (qdJ3_H p pC x) 1003 .normal (qdJ3_T1 p pC x false) (qdJ3_H1 p pC x false) 1003:=by
 exact runs_of_x hG hM 400 [.no,.no,.no,.no,.no] (J d1 (J d1 (J d1 (J d1 (J d1 trivial))))) (by kernel_rfl)
theorem qdJ3_runs (p:Pic) (pC:List Sprite) (x:Int):Runs Try.prog 95 (bodyOf Try.f49 [1,1,1,1,0,0,0]) (qdJ3_T p pC x) (qdJ3_H p pC x) 1003 .normal (qdJ3_T1 p pC x (qdJ3 p pC x)) (qdJ3_H1 p pC x (qdJ3 p pC x)) 1003:=by
 rcases bt (((pSpriteF p pC x).1:Int) != 0) with d1 | d1
 ·
  rcases bt (((pTile p pC x).1:Int) == 0) with d2 | d2
  ·
   rw [show qdJ3 p pC x = true from by unfold qdJ3;rw [if_pos d1,if_pos d2]]
   exact qdJ3_p1 p pC x d1 d2
  ·
   rw [show qdJ3 p pC x = ((bAnd .u8 (((pSpriteF p pC x).2).look) 32) == 0) from by unfold qdJ3;rw [if_pos d1,if_neg (nt d2)]]
   exact qdJ3_p2 p pC x d1 d2
 ·
  rw [show qdJ3 p pC x = false from by unfold qdJ3;rw [if_neg (nt d1)]]
  exact qdJ3_p3 p pC x d1
def qdJ5n (p:Pic) (pC:List Sprite) (x:Int):Int:=
 if (((pTile p pC x).1:Int) != 0) = true then
  (u16.wrap (bOr .u8 (bShl .u8 ((pTile p pC x).2) 2) ((pTile p pC x).1)))
 else
  0
def qdJ5n_T (p:Pic) (pC:List Sprite) (x:Int):Tm:=[(0,pt 1000),(1,.int .i64 x),(4,.int .u8 ((pTile p pC x).1)),(5,.int .u8 ((pTile p pC x).2)),(8,.int .u16 0),(64,.bool (((pTile p pC x).1:Int) != 0))]
def qdJ5n_H (p:Pic) (pC:List Sprite) (x:Int):Heap:=[]
def qdJ5n_T1 (p:Pic) (pC:List Sprite) (x:Int) (r_:Int):Tm:=[(0,pt 1000),(1,.int .i64 x),(8,.int .u16 r_)]
def qdJ5n_H1 (p:Pic) (pC:List Sprite) (x:Int) (r_:Int):Heap:=[]
theorem qdJ5n_p1 (p:Pic) (pC:List Sprite) (x:Int) (e1:(((pTile p pC x).1:Int) != 0) = true):Runs Try.prog 95 (bodyOf Try.f49 [1,1,1,1,0,0,1,1,1]) (qdJ5n_T p pC x) (qdJ5n_H p pC x) 1003 .normal (qdJ5n_T1 p pC x (u16.wrap (bOr .u8 (bShl .u8 ((pTile p pC x).2) 2) ((pTile p pC x).1)))) (qdJ5n_H1 p pC x (u16.wrap (bOr .u8 (bShl .u8 ((pTile p pC x).2) 2) ((pTile p pC x).1)))) 1003:=by
 exact runs_of_x hG hM 400 [.yes] (J e1 (J (by decide:(0:Int) ≤ 2) trivial)) (by kernel_rfl)
theorem qdJ5n_p2 (p:Pic) (pC:List Sprite) (x:Int) (e1:(((pTile p pC x).1:Int) != 0) = false):Runs Try.prog 95 (bodyOf Try.f49 [1,1,1,1,0,0,1,1,1]) (qdJ5n_T p pC x) (qdJ5n_H p pC x) 1003 .normal (qdJ5n_T1 p pC x 0) (qdJ5n_H1 p pC x 0) 1003:=by
 exact runs_of_x hG hM 400 [.no] (J e1 trivial) (by kernel_rfl)
theorem qdJ5n_runs (p:Pic) (pC:List Sprite) (x:Int):Runs Try.prog 95 (bodyOf Try.f49 [1,1,1,1,0,0,1,1,1]) (qdJ5n_T p pC x) (qdJ5n_H p pC x) 1003 .normal (qdJ5n_T1 p pC x (qdJ5n p pC x)) (qdJ5n_H1 p pC x (qdJ5n p pC x)) 1003:=by
 rcases bt (((pTile p pC x).1:Int) != 0) with e1 | e1
 ·
  rw [show qdJ5n p pC x = (u16.wrap (bOr .u8 (bShl .u8 ((pTile p pC x).2) 2) ((pTile p pC x).1))) from by unfold qdJ5n;rw [if_pos e1]]
  exact qdJ5n_p1 p pC x e1
 ·
  rw [show qdJ5n p pC x = 0 from by unfold qdJ5n;rw [if_neg (nt e1)]]
  exact qdJ5n_p2 p pC x e1
def qdJ4 (p:Pic) (pC:List Sprite) (x:Int):Int:=
 if (qdJ3 p pC x) = true then
  (u16.wrap (bOr .u8 (bOr .u8 16 (bShl .u8 (bAnd .u8 (((pSpriteF p pC x).2).look) 3) 2)) ((pSpriteF p pC x).1)))
 else
  (qdJ5n p pC x)
def qdJ4_T (p:Pic) (pC:List Sprite) (x:Int):Tm:=[(0,pt 1000),(1,.int .i64 x),(4,.int .u8 ((pTile p pC x).1)),(5,.int .u8 ((pTile p pC x).2)),(6,.int .u8 ((pSpriteF p pC x).1)),(7,pt 1002),(8,.int .u16 0),(43,.bool (qdJ3 p pC x))]
def qdJ4_H (p:Pic) (pC:List Sprite) (x:Int):Heap:=[(1002,⟨[.one (.int .u8 (((pSpriteF p pC x).2).low)),.one (.int .u8 (((pSpriteF p pC x).2).high)),.one (.int .u8 (((pSpriteF p pC x).2).look)),.one (.int .u8 (((pSpriteF p pC x).2).x)),.one (.bool (((pSpriteF p pC x).2).first))],92,false⟩)]
def qdJ4_T1 (p:Pic) (pC:List Sprite) (x:Int) (r_:Int):Tm:=[(0,pt 1000),(1,.int .i64 x),(8,.int .u16 r_)]
def qdJ4_H1 (p:Pic) (pC:List Sprite) (x:Int) (r_:Int):Heap:=[(1002,⟨[.one (.int .u8 (((pSpriteF p pC x).2).low)),.one (.int .u8 (((pSpriteF p pC x).2).high)),.one (.int .u8 (((pSpriteF p pC x).2).look)),.one (.int .u8 (((pSpriteF p pC x).2).x)),.one (.bool (((pSpriteF p pC x).2).first))],92,false⟩)]
theorem qdJ4_p1 (p:Pic) (pC:List Sprite) (x:Int) (d1:(qdJ3 p pC x) = true):Runs Try.prog 95 (bodyOf Try.f49 [1,1,1,1,0,0,1]) (qdJ4_T p pC x) (qdJ4_H p pC x) 1003 .normal (qdJ4_T1 p pC x (u16.wrap (bOr .u8 (bOr .u8 16 (bShl .u8 (bAnd .u8 (((pSpriteF p pC x).2).look) 3) 2)) ((pSpriteF p pC x).1)))) (qdJ4_H1 p pC x (u16.wrap (bOr .u8 (bOr .u8 16 (bShl .u8 (bAnd .u8 (((pSpriteF p pC x).2).look) 3) 2)) ((pSpriteF p pC x).1)))) 1003:=by
 exact runs_of_x hG hM 400 [.yes] (J d1 (J (by decide:(0:Int) ≤ 2) trivial)) (by kernel_rfl)
theorem qdJ4_p2 (p:Pic) (pC:List Sprite) (x:Int) (d1:(qdJ3 p pC x) = false):Runs Try.prog 95 (bodyOf Try.f49 [1,1,1,1,0,0,1]) (qdJ4_T p pC x) (qdJ4_H p pC x) 1003 .normal (qdJ4_T1 p pC x (qdJ5n p pC x)) (qdJ4_H1 p pC x (qdJ5n p pC x)) 1003:=by
 exact runs_of_x hG hM 400 [.no,.segk 2 0 [0,1,4,5,8,64] [] .normal (qdJ5n_T1 p pC x (qdJ5n p pC x)) (qdJ5n_H1 p pC x (qdJ5n p pC x)) 1003] (J d1 (J (qdJ5n_runs p pC x) trivial)) (by kernel_rfl)
theorem qdJ4_runs (p:Pic) (pC:List Sprite) (x:Int):Runs Try.prog 95 (bodyOf Try.f49 [1,1,1,1,0,0,1]) (qdJ4_T p pC x) (qdJ4_H p pC x) 1003 .normal (qdJ4_T1 p pC x (qdJ4 p pC x)) (qdJ4_H1 p pC x (qdJ4 p pC x)) 1003:=by
 rcases bt (qdJ3 p pC x) with d1 | d1
 ·
  rw [show qdJ4 p pC x = (u16.wrap (bOr .u8 (bOr .u8 16 (bShl .u8 (bAnd .u8 (((pSpriteF p pC x).2).look) 3) 2)) ((pSpriteF p pC x).1))) from by unfold qdJ4;rw [if_pos d1]]
  exact qdJ4_p1 p pC x d1
 ·
  rw [show qdJ4 p pC x = (qdJ5n p pC x) from by unfold qdJ4;rw [if_neg (nt d1)]]
  exact qdJ4_p2 p pC x d1
def qdJ6 (x:Int) (xd:Int × Bool):Int:=
 if xd.2 = true then
  (bAnd .u8 xd.1 48)
 else
  xd.1
def qdJ6_T (x:Int) (xd:Int × Bool):Tm:=[(0,pt 1000),(1,.int .i64 x),(9,.int .u8 xd.1),(81,.bool xd.2)]
def qdJ6_H (x:Int) (xd:Int × Bool):Heap:=[]
def qdJ6_T1 (x:Int) (xd:Int × Bool) (r_:Int):Tm:=[(0,pt 1000),(1,.int .i64 x),(9,.int .u8 r_)]
def qdJ6_H1 (x:Int) (xd:Int × Bool) (r_:Int):Heap:=[]
theorem qdJ6_p1 (x:Int) (xd:Int × Bool) (d1:xd.2 = true):Runs Try.prog 95 (bodyOf Try.f49 [1,1,1,1,1,1,0,1]) (qdJ6_T x xd) (qdJ6_H x xd) 1003 .normal (qdJ6_T1 x xd (bAnd .u8 xd.1 48)) (qdJ6_H1 x xd (bAnd .u8 xd.1 48)) 1003:=by
 exact runs_of_x hG hM 400 [.yes] (J d1 trivial) (by kernel_rfl)
theorem qdJ6_p2 (x:Int) (xd:Int × Bool) (d1:xd.2 = false):Runs Try.prog 95 (bodyOf Try.f49 [1,1,1,1,1,1,0,1]) (qdJ6_T x xd) (qdJ6_H x xd) 1003 .normal (qdJ6_T1 x xd xd.1) (qdJ6_H1 x xd xd.1) 1003:=by
 exact runs_of_x hG hM 400 [.no] (J d1 trivial) (by kernel_rfl)
theorem qdJ6_runs (x:Int) (xd:Int × Bool):Runs Try.prog 95 (bodyOf Try.f49 [1,1,1,1,1,1,0,1]) (qdJ6_T x xd) (qdJ6_H x xd) 1003 .normal (qdJ6_T1 x xd (qdJ6 x xd)) (qdJ6_H1 x xd (qdJ6 x xd)) 1003:=by
 rcases bt xd.2 with d1 | d1
 ·
  rw [show qdJ6 x xd = (bAnd .u8 xd.1 48) from by unfold qdJ6;rw [if_pos d1]]
  exact qdJ6_p1 x xd d1
 ·
  rw [show qdJ6 x xd = xd.1 from by unfold qdJ6;rw [if_neg (nt d1)]]
  exact qdJ6_p2 x xd d1
theorem qdJ6_w (x:Int) (xd:Int × Bool) (v1d:rng 256 xd.1):rng 256 (qdJ6 x xd):=by
 rcases bt xd.2 with d1 | d1
 ·
  rw [show qdJ6 x xd = (bAnd .u8 xd.1 48) from by unfold qdJ6;rw [if_pos d1]]
  exact (rng_bAnd_u8 xd.1 48)
 ·
  rw [show qdJ6 x xd = xd.1 from by unfold qdJ6;rw [if_neg (nt d1)]]
  exact v1d
def pDraw (p:Pic) (pC:List Sprite) (x:Int):Pic:=
 ({ ({ p with flags:=(qdJ2 p pC x p.flags) }:Pic) with screen:=(upd (({ p with flags:=(qdJ2 p pC x p.flags) }:Pic).screen) ((Int.toNat (({ p with flags:=(qdJ2 p pC x p.flags) }:Pic).line) * 256) + (Int.toNat x)) (qdJ6 x ((pPeek ({ p with flags:=(qdJ2 p pC x p.flags) }:Pic) pC (bOr .u16 16128 (qdJ4 p pC x))),((bAnd .u8 (({ p with flags:=(qdJ2 p pC x p.flags) }:Pic).mask) 1) != 0)))) }:Pic)
theorem pDraw_ok (p:Pic) (pC:List Sprite) (x:Int) (w_p:Pic.ok p) (hx:0 ≤ x) (hx2:x < 256) (hl:0 ≤ p.line) (hl2:p.line < 240) (hL:(List.length pC) ≤ 8):FnSpec Try.prog 49 1002 [pt 1000,.int .i64 x] [(1000,(Pic.bl p (sl 1001 (List.length pC) 5) false)),(1001,sB pC false)] (.tuple ⟨[]⟩) [(1000,(Pic.bl (pDraw p pC x) (sl 1001 (List.length pC) 5) false)),(1001,sB pC false)]:=by
 unfold pDraw
 have o1:0 ≤ ({ p with flags:=(qdJ2 p pC x p.flags) }:Pic).line ∧ ({ p with flags:=(qdJ2 p pC x p.flags) }:Pic).line < ((240:Nat):Int):=by first | decide | omega | (simp only [decide_eq_true_eq,decide_eq_false_iff_not,rng,IntKind.wrap_i64,IntKind.wrap_u8,IntKind.wrap_u16] at *;omega)
 have o2:0 ≤ x ∧ x < ((256:Nat):Int):=by first | decide | omega | (simp only [decide_eq_true_eq,decide_eq_false_iff_not,rng,IntKind.wrap_i64,IntKind.wrap_u8,IntKind.wrap_u16] at *;omega)
 have o3:((Int.toNat (({ p with flags:=(qdJ2 p pC x p.flags) }:Pic).line) * 256) + (Int.toNat x)) < 61440:=by first | decide | omega | (simp only [decide_eq_true_eq,decide_eq_false_iff_not,rng,IntKind.wrap_i64,IntKind.wrap_u8,IntKind.wrap_u16] at *;omega)
 exact fn_of_x hG hM Try.func49 (by kernel_rfl) (by kernel_rfl) 400 [.call [(1000,1000),(1001,1001)] [] 1002 (.tuple ⟨[.int .u8 ((pTile p pC x).1),.int .u8 ((pTile p pC x).2)]⟩) [(1000,(Pic.bl p (sl 1001 (List.length pC) 5) false)),(1001,sB pC false)],.call [(1000,1000),(1001,1001)] [] 1002 (.tuple ⟨[.int .u8 ((pSpriteF p pC x).1),Sprite.enc ((pSpriteF p pC x).2)]⟩) [(1000,(Pic.bl p (sl 1001 (List.length pC) 5) false)),(1001,sB pC false)],.segk 0 2 [0,1,4,5,6,7] [1002] .normal (qdJ1_T1 p pC x (qdJ1 p pC x)) (qdJ1_H1 p pC x (qdJ1 p pC x)) 1003,.segk 2 0 [0,1,4,5,6,7,35] [1000] .normal (qdJ2_T1 p pC x p.flags (qdJ2 p pC x p.flags)) (qdJ2_H1 p pC x p.flags (qdJ2 p pC x p.flags)) 1003,.segk 0 5 [0,1,4,5,6,7,8] [1002] .normal (qdJ3_T1 p pC x (qdJ3 p pC x)) (qdJ3_H1 p pC x (qdJ3 p pC x)) 1003,.segk 2 0 [0,1,4,5,6,7,8,43] [1002] .normal (qdJ4_T1 p pC x (qdJ4 p pC x)) (qdJ4_H1 p pC x (qdJ4 p pC x)) 1003,.call [(1000,1000),(1001,1001)] [] 1002 (.int .u8 (pPeek ({ p with flags:=(qdJ2 p pC x p.flags) }:Pic) pC (bOr .u16 16128 (qdJ4 p pC x)))) [(1000,(Pic.bl ({ p with flags:=(qdJ2 p pC x p.flags) }:Pic) (sl 1001 (List.length pC) 5) false)),(1001,sB pC false)],.segk 2 0 [0,1,9,81] [] .normal (qdJ6_T1 x ((pPeek ({ p with flags:=(qdJ2 p pC x p.flags) }:Pic) pC (bOr .u16 16128 (qdJ4 p pC x))),((bAnd .u8 (({ p with flags:=(qdJ2 p pC x p.flags) }:Pic).mask) 1) != 0)) (qdJ6 x ((pPeek ({ p with flags:=(qdJ2 p pC x p.flags) }:Pic) pC (bOr .u16 16128 (qdJ4 p pC x))),((bAnd .u8 (({ p with flags:=(qdJ2 p pC x p.flags) }:Pic).mask) 1) != 0)))) (qdJ6_H1 x ((pPeek ({ p with flags:=(qdJ2 p pC x p.flags) }:Pic) pC (bOr .u16 16128 (qdJ4 p pC x))),((bAnd .u8 (({ p with flags:=(qdJ2 p pC x p.flags) }:Pic).mask) 1) != 0)) (qdJ6 x ((pPeek ({ p with flags:=(qdJ2 p pC x p.flags) }:Pic) pC (bOr .u16 16128 (qdJ4 p pC x))),((bAnd .u8 (({ p with flags:=(qdJ2 p pC x p.flags) }:Pic).mask) 1) != 0)))) 1003,.sym,.eq 94 (.pointer (some ⟨1000,((Int.toNat (({ p with flags:=(qdJ2 p pC x p.flags) }:Pic).line) * 256) + (Int.toNat x)),(some 10544)⟩)),.sym] (J (pTile_ok p pC x w_p hx hx2) (J (pSpriteF_ok p pC x hx hx2 hL) (J (qdJ1_runs p pC x) (J (qdJ2_runs p pC x p.flags) (J (qdJ3_runs p pC x) (J (qdJ4_runs p pC x) (J (pPeek_ok ({ p with flags:=(qdJ2 p pC x p.flags) }:Pic) pC (bOr .u16 16128 (qdJ4 p pC x))) (J (qdJ6_runs x ((pPeek ({ p with flags:=(qdJ2 p pC x p.flags) }:Pic) pC (bOr .u16 16128 (qdJ4 p pC x))),((bAnd .u8 (({ p with flags:=(qdJ2 p pC x p.flags) }:Pic).mask) 1) != 0))) (J o1 (J (at2 1000 (Int.toNat (({ p with flags:=(qdJ2 p pC x p.flags) }:Pic).line) * 256) (Int.toNat x) (some 10544)) (J o2 (J o3 trivial)))))))))))) (by kernel_rfl)
theorem pDraw_w (p:Pic) (pC:List Sprite) (x:Int) (w_p:Pic.ok p):Pic.ok (pDraw p pC x):=by
 have wf:=qdJ2_w p pC x p.flags w_p.flags
 have w2:Pic.ok ({ p with flags:=(qdJ2 p pC x p.flags) }:Pic):=⟨w_p.tiles,w_p.names,w_p.colours,w_p.men,w_p.man,w_p.scroll,w_p.control,w_p.mask,wf,w_p.waits,w_p.bus,w_p.screen⟩
 refine ⟨w_p.tiles,w_p.names,w_p.colours,w_p.men,w_p.man,w_p.scroll,w_p.control,w_p.mask,wf,w_p.waits,w_p.bus,fun j => ?_⟩
 show rng 256 (upd _ _ _ j)
 unfold upd
 cases Nat.beq j _
 ·exact w_p.screen j
 ·exact qdJ6_w x _ (pPeek_w _ pC _ w2 (rng_bOr_u16 16128 (qdJ4 p pC x)))
theorem line_no241 {x:Int} (h:(x == 241) = true):(decide (x < 240)) = false:=by
 have:x = 241:=by simpa using h
 subst this;decide
theorem line_no261 {x:Int} (h:(x == 261) = true):(decide (x < 240)) = false:=by
 have:x = 261:=by simpa using h
 subst this;decide
end Go.Proofs.Ytgnhhnmpeklciaa
namespace Go.Proofs.Ytgnhhnmpeklciaa
open Go VX
open Go.IntKind (i64 u8 u16)
def pClock (p:Pic) (pC:List Sprite):Pic × (List Sprite):=
 if (p.line == 241) = true then
  if (p.dot == 1) = true then
   if (pShows ({ p with flags:=(bOr .u8 p.flags 128),frames:=(i64.wrap (p.frames + 1)) }:Pic) pC) = true then
    ((pNext ({ p with flags:=(bOr .u8 p.flags 128),frames:=(i64.wrap (p.frames + 1)) }:Pic) pC),pC)
   else
    ((pNext ({ p with flags:=(bOr .u8 p.flags 128),frames:=(i64.wrap (p.frames + 1)) }:Pic) pC),pC)
  else
   if (pShows p pC) = true then
    if (p.dot == 257) = true then
     ((pNext ((pChooseF p pC (decide (p.line < 240))).1) ((pChooseF p pC (decide (p.line < 240))).2)),((pChooseF p pC (decide (p.line < 240))).2))
    else
     ((pNext p pC),pC)
   else
    if (p.dot == 257) = true then
     ((pNext ((pChooseF p pC (decide (p.line < 240))).1) ((pChooseF p pC (decide (p.line < 240))).2)),((pChooseF p pC (decide (p.line < 240))).2))
    else
     ((pNext p pC),pC)
 else
  if (p.line == 261) = true then
   if (p.dot == 1) = true then
    if (pShows ({ p with flags:=0 }:Pic) pC) = true then
     if (((pMove ({ p with flags:=0 }:Pic) pC).dot:Int) == 257) = true then
      ((pNext ((pChooseF (pMove ({ p with flags:=0 }:Pic) pC) pC (decide (p.line < 240))).1) ((pChooseF (pMove ({ p with flags:=0 }:Pic) pC) pC (decide (p.line < 240))).2)),((pChooseF (pMove ({ p with flags:=0 }:Pic) pC) pC (decide (p.line < 240))).2))
     else
      ((pNext (pMove ({ p with flags:=0 }:Pic) pC) pC),pC)
    else
     ((pNext ({ p with flags:=0 }:Pic) pC),pC)
   else
    if (pShows p pC) = true then
     if (((pMove p pC).dot:Int) == 257) = true then
      ((pNext ((pChooseF (pMove p pC) pC (decide (p.line < 240))).1) ((pChooseF (pMove p pC) pC (decide (p.line < 240))).2)),((pChooseF (pMove p pC) pC (decide (p.line < 240))).2))
     else
      ((pNext (pMove p pC) pC),pC)
    else
     if (p.dot == 257) = true then
      ((pNext ((pChooseF p pC (decide (p.line < 240))).1) ((pChooseF p pC (decide (p.line < 240))).2)),((pChooseF p pC (decide (p.line < 240))).2))
     else
      ((pNext p pC),pC)
  else
   if (decide (p.line < 240)) = true then
    if (decide (p.dot ≥ 1)) = true then
     if (decide (p.dot ≤ 256)) = true then
      if (pShows (pDraw p pC (i64.wrap (p.dot - 1))) pC) = true then
       if (((pMove (pDraw p pC (i64.wrap (p.dot - 1))) pC).dot:Int) == 257) = true then
        ((pNext ((pChooseF (pMove (pDraw p pC (i64.wrap (p.dot - 1))) pC) pC (decide (p.line < 240))).1) ((pChooseF (pMove (pDraw p pC (i64.wrap (p.dot - 1))) pC) pC (decide (p.line < 240))).2)),((pChooseF (pMove (pDraw p pC (i64.wrap (p.dot - 1))) pC) pC (decide (p.line < 240))).2))
       else
        ((pNext (pMove (pDraw p pC (i64.wrap (p.dot - 1))) pC) pC),pC)
      else
       if (((pDraw p pC (i64.wrap (p.dot - 1))).dot:Int) == 257) = true then
        ((pNext ((pChooseF (pDraw p pC (i64.wrap (p.dot - 1))) pC (decide (p.line < 240))).1) ((pChooseF (pDraw p pC (i64.wrap (p.dot - 1))) pC (decide (p.line < 240))).2)),((pChooseF (pDraw p pC (i64.wrap (p.dot - 1))) pC (decide (p.line < 240))).2))
       else
        ((pNext (pDraw p pC (i64.wrap (p.dot - 1))) pC),pC)
     else
      if (pShows p pC) = true then
       if (((pMove p pC).dot:Int) == 257) = true then
        ((pNext ((pChooseF (pMove p pC) pC (decide (p.line < 240))).1) ((pChooseF (pMove p pC) pC (decide (p.line < 240))).2)),((pChooseF (pMove p pC) pC (decide (p.line < 240))).2))
       else
        ((pNext (pMove p pC) pC),pC)
      else
       if (p.dot == 257) = true then
        ((pNext ((pChooseF p pC (decide (p.line < 240))).1) ((pChooseF p pC (decide (p.line < 240))).2)),((pChooseF p pC (decide (p.line < 240))).2))
       else
        ((pNext p pC),pC)
    else
     if (pShows p pC) = true then
      if (((pMove p pC).dot:Int) == 257) = true then
       ((pNext ((pChooseF (pMove p pC) pC (decide (p.line < 240))).1) ((pChooseF (pMove p pC) pC (decide (p.line < 240))).2)),((pChooseF (pMove p pC) pC (decide (p.line < 240))).2))
      else
       ((pNext (pMove p pC) pC),pC)
     else
      if (p.dot == 257) = true then
       ((pNext ((pChooseF p pC (decide (p.line < 240))).1) ((pChooseF p pC (decide (p.line < 240))).2)),((pChooseF p pC (decide (p.line < 240))).2))
      else
       ((pNext p pC),pC)
   else
    if (pShows p pC) = true then
     if (p.dot == 257) = true then
      ((pNext ((pChooseF p pC (decide (p.line < 240))).1) ((pChooseF p pC (decide (p.line < 240))).2)),((pChooseF p pC (decide (p.line < 240))).2))
     else
      ((pNext p pC),pC)
    else
     if (p.dot == 257) = true then
      ((pNext ((pChooseF p pC (decide (p.line < 240))).1) ((pChooseF p pC (decide (p.line < 240))).2)),((pChooseF p pC (decide (p.line < 240))).2))
     else
      ((pNext p pC),pC)
abbrev PIk0 (p:Pic) (pC:List Sprite):=(pChooseF p pC (decide (p.line < 240)))
abbrev PIk1 (p:Pic) (pC:List Sprite):=(pChooseF (pMove p pC) pC (decide (p.line < 240)))
abbrev PIk2 (p:Pic) (pC:List Sprite):=(pDraw p pC (i64.wrap (p.dot - 1)))
abbrev PIk3 (pC:List Sprite):=(sl 1001 (List.length pC) 5)
abbrev PIk4 (p:Pic):=({ p with flags:=(bOr .u8 p.flags 128),frames:=(i64.wrap (p.frames + 1)) }:Pic)
abbrev PIk10 (p:Pic):=({ p with flags:=0 }:Pic)
abbrev PIk5 (p:Pic) (pC:List Sprite):=(pChooseF (pMove (PIk10 p) pC) pC (decide (p.line < 240)))
abbrev PIk6 (p:Pic) (pC:List Sprite):=(pChooseF (pMove (PIk2 p pC) pC) pC (decide (p.line < 240)))
abbrev PIk7 (p:Pic) (pC:List Sprite):=(Pic.bl (pNext ((PIk0 p pC).1) ((PIk0 p pC).2)) (sl 1002 (List.length ((PIk0 p pC).2)) 5) false)
abbrev PIk8 (p:Pic) (pC:List Sprite):=(Pic.bl (pNext ((PIk0 p pC).1) ((PIk0 p pC).2)) (sl 1001 (List.length ((PIk0 p pC).2)) 5) false)
abbrev PIk9 (p:Pic) (pC:List Sprite):=(pChooseF (PIk2 p pC) pC (decide (p.line < 240)))
abbrev PIk11 (p:Pic) (pC:List Sprite):=(Pic.bl ((PIk0 p pC).1) (sl 1002 (List.length ((PIk0 p pC).2)) 5) false)
abbrev PIk12 (p:Pic) (pC:List Sprite):=(Pic.bl (pNext p pC) (PIk3 pC) false)
theorem pClock_ok (p:Pic) (pC:List Sprite) (w_p:Pic.ok p) (hl:0 ≤ p.line) (hL:(List.length pC) ≤ 8):FnSpec Try.prog 23 1002 [pt 1000] [(1000,(Pic.bl p (PIk3 pC) false)),(1001,sB pC false)] (.tuple ⟨[]⟩) [(1000,(Pic.bl ((pClock p pC).1) (sl 1002 (List.length ((pClock p pC).2)) 5) false)),(1002,⟨[rowsL Sprite.cells Sprite.nil 5 ((pClock p pC).2)],92,false⟩)]:=by
 unfold pClock
 rcases bt (p.line == 241) with c1 | c1
 ·rw [if_pos c1]
  rcases bt (p.dot == 1) with c2 | c2
  ·rw [if_pos c2]
   rcases bt (pShows (PIk4 p) pC) with c3 | c3
   ·rw [if_pos c3]
    exact fn_ren (v:=.tuple ⟨[]⟩) (H1:=[(1000,(Pic.bl (pNext (PIk4 p) pC) (PIk3 pC) false)),(1001,sB pC false)]) (fn_of_x hG hM Try.func23 (by kernel_rfl) (by kernel_rfl) 400 [.no,.yes,.yes,.yes,.yes,.yes,.yes,.yes,.no,.no,.no,.no,.no,.no,.no,.no,.no,.no,.no,.no,.no,.callr [(1000,1000),(1001,1001)] [1000,1001] [] 1002 (.bool (pShows (PIk4 p) pC)) [],.yes,.yes,.no,.no,.no,.no,.no,.yes,.no,.yes,.no,.no,.call [(1000,1000),(1001,1001)] [] 1002 (.tuple ⟨[]⟩) [(1000,(Pic.bl (pNext (PIk4 p) pC) (PIk3 pC) false)),(1001,sB pC false)]] (J T0 (J c1 (J c1 (J c1 (J c1 (J c1 (J c1 (J c2 (J (line_no241 c1) (J (line_no241 c1) (J (line_no241 c1) (J (line_no241 c1) (J (line_no241 c1) (J (line_no241 c1) (J T0 (J T0 (J T0 (J T0 (J T0 (J T0 (J T0 (J (pShows_ok (PIk4 p) pC) (J c3 (J c3 (J (line_no241 c1) (J (line_no241 c1) (J (line_no241 c1) (J (line_no241 c1) (J (line_no241 c1) (J c3 (J (line_no241 c1) (J c3 (J (lit_e_e (b:=261) c1 (by decide)) (J (lit_e_e (b:=257) c2 (by decide)) (J (pNext_ok (PIk4 p) pC) trivial))))))))))))))))))))))))))))))))))) (by kernel_rfl)) [(1000,1000),(1001,1002)] 1003 (by kernel_rfl)
   ·rw [if_neg (nt c3)]
    exact fn_ren (v:=.tuple ⟨[]⟩) (H1:=[(1000,(Pic.bl (pNext (PIk4 p) pC) (PIk3 pC) false)),(1001,sB pC false)]) (fn_of_x hG hM Try.func23 (by kernel_rfl) (by kernel_rfl) 400 [.no,.yes,.yes,.yes,.yes,.yes,.yes,.yes,.no,.no,.no,.no,.no,.no,.no,.no,.no,.no,.no,.no,.no,.callr [(1000,1000),(1001,1001)] [1000,1001] [] 1002 (.bool (pShows (PIk4 p) pC)) [],.no,.no,.no,.no,.no,.no,.call [(1000,1000),(1001,1001)] [] 1002 (.tuple ⟨[]⟩) [(1000,(Pic.bl (pNext (PIk4 p) pC) (PIk3 pC) false)),(1001,sB pC false)]] (J T0 (J c1 (J c1 (J c1 (J c1 (J c1 (J c1 (J c2 (J (line_no241 c1) (J (line_no241 c1) (J (line_no241 c1) (J (line_no241 c1) (J (line_no241 c1) (J (line_no241 c1) (J T0 (J T0 (J T0 (J T0 (J T0 (J T0 (J T0 (J (pShows_ok (PIk4 p) pC) (J c3 (J c3 (J c3 (J c3 (J T0 (J (lit_e_e (b:=257) c2 (by decide)) (J (pNext_ok (PIk4 p) pC) trivial))))))))))))))))))))))))))))) (by kernel_rfl)) [(1000,1000),(1001,1002)] 1003 (by kernel_rfl)
  ·rw [if_neg (nt c2)]
   rcases bt (pShows p pC) with c3 | c3
   ·rw [if_pos c3]
    rcases bt (p.dot == 257) with c4 | c4
    ·rw [if_pos c4]
     exact fn_ren (v:=.tuple ⟨[]⟩) (H1:=[(1000,(PIk7 p pC)),(1002,⟨[rowsL Sprite.cells Sprite.nil 5 ((PIk0 p pC).2)],92,false⟩)]) (fn_of_x hG hM Try.func23 (by kernel_rfl) (by kernel_rfl) 400 [.no,.yes,.yes,.yes,.yes,.yes,.yes,.no,.no,.no,.no,.no,.no,.no,.no,.no,.no,.no,.no,.no,.no,.no,.no,.no,.no,.no,.no,.no,.callr [(1000,1000),(1001,1001)] [1000,1001] [] 1002 (.bool (pShows p pC)) [],.yes,.yes,.no,.no,.no,.no,.no,.yes,.no,.yes,.no,.yes,.call [(1000,1000),(1001,1001)] [(1002,1002)] 1002 (.tuple ⟨[]⟩) [(1000,(PIk11 p pC)),(1002,⟨[rowsL Sprite.cells Sprite.nil 5 ((PIk0 p pC).2)],92,false⟩)],.call [(1000,1000),(1002,1001)] [] 1002 (.tuple ⟨[]⟩) [(1000,(PIk8 p pC)),(1001,⟨[rowsL Sprite.cells Sprite.nil 5 ((PIk0 p pC).2)],92,false⟩)]] (J T0 (J c1 (J c1 (J c1 (J c1 (J c1 (J c1 (J c2 (J (lit_e_e (b:=261) c1 (by decide)) (J (lit_e_e (b:=261) c1 (by decide)) (J (lit_e_e (b:=261) c1 (by decide)) (J (lit_e_e (b:=261) c1 (by decide)) (J (lit_e_e (b:=261) c1 (by decide)) (J (lit_e_e (b:=261) c1 (by decide)) (J T0 (J (line_no241 c1) (J (line_no241 c1) (J (line_no241 c1) (J (line_no241 c1) (J (line_no241 c1) (J (line_no241 c1) (J T0 (J T0 (J T0 (J T0 (J T0 (J T0 (J T0 (J (pShows_ok p pC) (J c3 (J c3 (J (line_no241 c1) (J (line_no241 c1) (J (line_no241 c1) (J (line_no241 c1) (J (line_no241 c1) (J c3 (J (line_no241 c1) (J c3 (J (lit_e_e (b:=261) c1 (by decide)) (J c4 (J (pChooseF_ok p pC (decide (p.line < 240)) w_p) (J (pNext_ok ((PIk0 p pC).1) ((PIk0 p pC).2)) trivial))))))))))))))))))))))))))))))))))))))))))) (by kernel_rfl)) [(1000,1000),(1002,1002)] 1003 (by kernel_rfl)
    ·rw [if_neg (nt c4)]
     exact fn_ren (v:=.tuple ⟨[]⟩) (H1:=[(1000,(PIk12 p pC)),(1001,sB pC false)]) (fn_of_x hG hM Try.func23 (by kernel_rfl) (by kernel_rfl) 400 [.no,.yes,.yes,.yes,.yes,.yes,.yes,.no,.no,.no,.no,.no,.no,.no,.no,.no,.no,.no,.no,.no,.no,.no,.no,.no,.no,.no,.no,.no,.callr [(1000,1000),(1001,1001)] [1000,1001] [] 1002 (.bool (pShows p pC)) [],.yes,.yes,.no,.no,.no,.no,.no,.yes,.no,.yes,.no,.no,.call [(1000,1000),(1001,1001)] [] 1002 (.tuple ⟨[]⟩) [(1000,(PIk12 p pC)),(1001,sB pC false)]] (J T0 (J c1 (J c1 (J c1 (J c1 (J c1 (J c1 (J c2 (J (lit_e_e (b:=261) c1 (by decide)) (J (lit_e_e (b:=261) c1 (by decide)) (J (lit_e_e (b:=261) c1 (by decide)) (J (lit_e_e (b:=261) c1 (by decide)) (J (lit_e_e (b:=261) c1 (by decide)) (J (lit_e_e (b:=261) c1 (by decide)) (J T0 (J (line_no241 c1) (J (line_no241 c1) (J (line_no241 c1) (J (line_no241 c1) (J (line_no241 c1) (J (line_no241 c1) (J T0 (J T0 (J T0 (J T0 (J T0 (J T0 (J T0 (J (pShows_ok p pC) (J c3 (J c3 (J (line_no241 c1) (J (line_no241 c1) (J (line_no241 c1) (J (line_no241 c1) (J (line_no241 c1) (J c3 (J (line_no241 c1) (J c3 (J (lit_e_e (b:=261) c1 (by decide)) (J c4 (J (pNext_ok p pC) trivial)))))))))))))))))))))))))))))))))))))))))) (by kernel_rfl)) [(1000,1000),(1001,1002)] 1003 (by kernel_rfl)
   ·rw [if_neg (nt c3)]
    rcases bt (p.dot == 257) with c4 | c4
    ·rw [if_pos c4]
     exact fn_ren (v:=.tuple ⟨[]⟩) (H1:=[(1000,(PIk7 p pC)),(1002,⟨[rowsL Sprite.cells Sprite.nil 5 ((PIk0 p pC).2)],92,false⟩)]) (fn_of_x hG hM Try.func23 (by kernel_rfl) (by kernel_rfl) 400 [.no,.yes,.yes,.yes,.yes,.yes,.yes,.no,.no,.no,.no,.no,.no,.no,.no,.no,.no,.no,.no,.no,.no,.no,.no,.no,.no,.no,.no,.no,.callr [(1000,1000),(1001,1001)] [1000,1001] [] 1002 (.bool (pShows p pC)) [],.no,.no,.no,.no,.no,.yes,.call [(1000,1000),(1001,1001)] [(1002,1002)] 1002 (.tuple ⟨[]⟩) [(1000,(PIk11 p pC)),(1002,⟨[rowsL Sprite.cells Sprite.nil 5 ((PIk0 p pC).2)],92,false⟩)],.call [(1000,1000),(1002,1001)] [] 1002 (.tuple ⟨[]⟩) [(1000,(PIk8 p pC)),(1001,⟨[rowsL Sprite.cells Sprite.nil 5 ((PIk0 p pC).2)],92,false⟩)]] (J T0 (J c1 (J c1 (J c1 (J c1 (J c1 (J c1 (J c2 (J (lit_e_e (b:=261) c1 (by decide)) (J (lit_e_e (b:=261) c1 (by decide)) (J (lit_e_e (b:=261) c1 (by decide)) (J (lit_e_e (b:=261) c1 (by decide)) (J (lit_e_e (b:=261) c1 (by decide)) (J (lit_e_e (b:=261) c1 (by decide)) (J T0 (J (line_no241 c1) (J (line_no241 c1) (J (line_no241 c1) (J (line_no241 c1) (J (line_no241 c1) (J (line_no241 c1) (J T0 (J T0 (J T0 (J T0 (J T0 (J T0 (J T0 (J (pShows_ok p pC) (J c3 (J c3 (J c3 (J c3 (J T0 (J c4 (J (pChooseF_ok p pC (decide (p.line < 240)) w_p) (J (pNext_ok ((PIk0 p pC).1) ((PIk0 p pC).2)) trivial))))))))))))))))))))))))))))))))))))) (by kernel_rfl)) [(1000,1000),(1002,1002)] 1003 (by kernel_rfl)
    ·rw [if_neg (nt c4)]
     exact fn_ren (v:=.tuple ⟨[]⟩) (H1:=[(1000,(PIk12 p pC)),(1001,sB pC false)]) (fn_of_x hG hM Try.func23 (by kernel_rfl) (by kernel_rfl) 400 [.no,.yes,.yes,.yes,.yes,.yes,.yes,.no,.no,.no,.no,.no,.no,.no,.no,.no,.no,.no,.no,.no,.no,.no,.no,.no,.no,.no,.no,.no,.callr [(1000,1000),(1001,1001)] [1000,1001] [] 1002 (.bool (pShows p pC)) [],.no,.no,.no,.no,.no,.no,.call [(1000,1000),(1001,1001)] [] 1002 (.tuple ⟨[]⟩) [(1000,(PIk12 p pC)),(1001,sB pC false)]] (J T0 (J c1 (J c1 (J c1 (J c1 (J c1 (J c1 (J c2 (J (lit_e_e (b:=261) c1 (by decide)) (J (lit_e_e (b:=261) c1 (by decide)) (J (lit_e_e (b:=261) c1 (by decide)) (J (lit_e_e (b:=261) c1 (by decide)) (J (lit_e_e (b:=261) c1 (by decide)) (J (lit_e_e (b:=261) c1 (by decide)) (J T0 (J (line_no241 c1) (J (line_no241 c1) (J (line_no241 c1) (J (line_no241 c1) (J (line_no241 c1) (J (line_no241 c1) (J T0 (J T0 (J T0 (J T0 (J T0 (J T0 (J T0 (J (pShows_ok p pC) (J c3 (J c3 (J c3 (J c3 (J T0 (J c4 (J (pNext_ok p pC) trivial)))))))))))))))))))))))))))))))))))) (by kernel_rfl)) [(1000,1000),(1001,1002)] 1003 (by kernel_rfl)
 ·rw [if_neg (nt c1)]
  rcases bt (p.line == 261) with c2 | c2
  ·rw [if_pos c2]
   rcases bt (p.dot == 1) with c3 | c3
   ·rw [if_pos c3]
    rcases bt (pShows (PIk10 p) pC) with c4 | c4
    ·rw [if_pos c4]
     rcases bt (((pMove (PIk10 p) pC).dot:Int) == 257) with c5 | c5
     ·rw [if_pos c5]
      exact fn_ren (v:=.tuple ⟨[]⟩) (H1:=[(1000,(Pic.bl (pNext ((PIk5 p pC).1) ((PIk5 p pC).2)) (sl 1002 (List.length ((PIk5 p pC).2)) 5) false)),(1002,⟨[rowsL Sprite.cells Sprite.nil 5 ((PIk5 p pC).2)],92,false⟩)]) (fn_of_x hG hM Try.func23 (by kernel_rfl) (by kernel_rfl) 400 [.no,.no,.no,.no,.no,.no,.no,.no,.yes,.yes,.yes,.yes,.yes,.yes,.yes,.no,.no,.no,.no,.no,.no,.no,.no,.no,.no,.no,.no,.no,.callr [(1000,1000),(1001,1001)] [1000,1001] [] 1002 (.bool (pShows (PIk10 p) pC)) [],.yes,.yes,.no,.no,.no,.no,.no,.yes,.no,.yes,.yes,.call [(1000,1000),(1001,1001)] [] 1002 (.tuple ⟨[]⟩) [(1000,(Pic.bl (pMove (PIk10 p) pC) (PIk3 pC) false)),(1001,sB pC false)],.yes,.call [(1000,1000),(1001,1001)] [(1002,1002)] 1002 (.tuple ⟨[]⟩) [(1000,(Pic.bl ((PIk5 p pC).1) (sl 1002 (List.length ((PIk5 p pC).2)) 5) false)),(1002,⟨[rowsL Sprite.cells Sprite.nil 5 ((PIk5 p pC).2)],92,false⟩)],.call [(1000,1000),(1002,1001)] [] 1002 (.tuple ⟨[]⟩) [(1000,(Pic.bl (pNext ((PIk5 p pC).1) ((PIk5 p pC).2)) (sl 1001 (List.length ((PIk5 p pC).2)) 5) false)),(1001,⟨[rowsL Sprite.cells Sprite.nil 5 ((PIk5 p pC).2)],92,false⟩)]] (J T0 (J c1 (J c1 (J c1 (J c1 (J c1 (J c1 (J T0 (J c2 (J c2 (J c2 (J c2 (J c2 (J c2 (J c3 (J (line_no261 c2) (J (line_no261 c2) (J (line_no261 c2) (J (line_no261 c2) (J (line_no261 c2) (J (line_no261 c2) (J T0 (J T0 (J T0 (J T0 (J T0 (J T0 (J T0 (J (pShows_ok (PIk10 p) pC) (J c4 (J c4 (J (line_no261 c2) (J (line_no261 c2) (J (line_no261 c2) (J (line_no261 c2) (J (line_no261 c2) (J c4 (J (line_no261 c2) (J c4 (J c2 (J (pMove_ok (PIk10 p) pC) (J c5 (J (pChooseF_ok (pMove (PIk10 p) pC) pC (decide (p.line < 240)) (pMove_w (PIk10 p) pC (⟨w_p.tiles,w_p.names,w_p.colours,w_p.men,w_p.man,w_p.scroll,w_p.control,w_p.mask,(by decide:rng 256 0),w_p.waits,w_p.bus,w_p.screen⟩:Pic.ok (PIk10 p)))) (J (pNext_ok ((PIk5 p pC).1) ((PIk5 p pC).2)) trivial)))))))))))))))))))))))))))))))))))))))))))) (by kernel_rfl)) [(1000,1000),(1002,1002)] 1003 (by kernel_rfl)
     ·rw [if_neg (nt c5)]
      exact fn_ren (v:=.tuple ⟨[]⟩) (H1:=[(1000,(Pic.bl (pNext (pMove (PIk10 p) pC) pC) (PIk3 pC) false)),(1001,sB pC false)]) (fn_of_x hG hM Try.func23 (by kernel_rfl) (by kernel_rfl) 400 [.no,.no,.no,.no,.no,.no,.no,.no,.yes,.yes,.yes,.yes,.yes,.yes,.yes,.no,.no,.no,.no,.no,.no,.no,.no,.no,.no,.no,.no,.no,.callr [(1000,1000),(1001,1001)] [1000,1001] [] 1002 (.bool (pShows (PIk10 p) pC)) [],.yes,.yes,.no,.no,.no,.no,.no,.yes,.no,.yes,.yes,.call [(1000,1000),(1001,1001)] [] 1002 (.tuple ⟨[]⟩) [(1000,(Pic.bl (pMove (PIk10 p) pC) (PIk3 pC) false)),(1001,sB pC false)],.no,.call [(1000,1000),(1001,1001)] [] 1002 (.tuple ⟨[]⟩) [(1000,(Pic.bl (pNext (pMove (PIk10 p) pC) pC) (PIk3 pC) false)),(1001,sB pC false)]] (J T0 (J c1 (J c1 (J c1 (J c1 (J c1 (J c1 (J T0 (J c2 (J c2 (J c2 (J c2 (J c2 (J c2 (J c3 (J (line_no261 c2) (J (line_no261 c2) (J (line_no261 c2) (J (line_no261 c2) (J (line_no261 c2) (J (line_no261 c2) (J T0 (J T0 (J T0 (J T0 (J T0 (J T0 (J T0 (J (pShows_ok (PIk10 p) pC) (J c4 (J c4 (J (line_no261 c2) (J (line_no261 c2) (J (line_no261 c2) (J (line_no261 c2) (J (line_no261 c2) (J c4 (J (line_no261 c2) (J c4 (J c2 (J (pMove_ok (PIk10 p) pC) (J c5 (J (pNext_ok (pMove (PIk10 p) pC) pC) trivial))))))))))))))))))))))))))))))))))))))))))) (by kernel_rfl)) [(1000,1000),(1001,1002)] 1003 (by kernel_rfl)
    ·rw [if_neg (nt c4)]
     exact fn_ren (v:=.tuple ⟨[]⟩) (H1:=[(1000,(Pic.bl (pNext (PIk10 p) pC) (PIk3 pC) false)),(1001,sB pC false)]) (fn_of_x hG hM Try.func23 (by kernel_rfl) (by kernel_rfl) 400 [.no,.no,.no,.no,.no,.no,.no,.no,.yes,.yes,.yes,.yes,.yes,.yes,.yes,.no,.no,.no,.no,.no,.no,.no,.no,.no,.no,.no,.no,.no,.callr [(1000,1000),(1001,1001)] [1000,1001] [] 1002 (.bool (pShows (PIk10 p) pC)) [],.no,.no,.no,.no,.no,.no,.call [(1000,1000),(1001,1001)] [] 1002 (.tuple ⟨[]⟩) [(1000,(Pic.bl (pNext (PIk10 p) pC) (PIk3 pC) false)),(1001,sB pC false)]] (J T0 (J c1 (J c1 (J c1 (J c1 (J c1 (J c1 (J T0 (J c2 (J c2 (J c2 (J c2 (J c2 (J c2 (J c3 (J (line_no261 c2) (J (line_no261 c2) (J (line_no261 c2) (J (line_no261 c2) (J (line_no261 c2) (J (line_no261 c2) (J T0 (J T0 (J T0 (J T0 (J T0 (J T0 (J T0 (J (pShows_ok (PIk10 p) pC) (J c4 (J c4 (J c4 (J c4 (J T0 (J (lit_e_e (b:=257) c3 (by decide)) (J (pNext_ok (PIk10 p) pC) trivial)))))))))))))))))))))))))))))))))))) (by kernel_rfl)) [(1000,1000),(1001,1002)] 1003 (by kernel_rfl)
   ·rw [if_neg (nt c3)]
    rcases bt (pShows p pC) with c4 | c4
    ·rw [if_pos c4]
     rcases bt (((pMove p pC).dot:Int) == 257) with c5 | c5
     ·rw [if_pos c5]
      exact fn_ren (v:=.tuple ⟨[]⟩) (H1:=[(1000,(Pic.bl (pNext ((PIk1 p pC).1) ((PIk1 p pC).2)) (sl 1002 (List.length ((PIk1 p pC).2)) 5) false)),(1002,⟨[rowsL Sprite.cells Sprite.nil 5 ((PIk1 p pC).2)],92,false⟩)]) (fn_of_x hG hM Try.func23 (by kernel_rfl) (by kernel_rfl) 400 [.no,.no,.no,.no,.no,.no,.no,.no,.yes,.yes,.yes,.yes,.yes,.yes,.no,.no,.no,.no,.no,.no,.no,.no,.no,.no,.no,.no,.no,.no,.callr [(1000,1000),(1001,1001)] [1000,1001] [] 1002 (.bool (pShows p pC)) [],.yes,.yes,.no,.no,.no,.no,.no,.yes,.no,.yes,.yes,.call [(1000,1000),(1001,1001)] [] 1002 (.tuple ⟨[]⟩) [(1000,(Pic.bl (pMove p pC) (PIk3 pC) false)),(1001,sB pC false)],.yes,.call [(1000,1000),(1001,1001)] [(1002,1002)] 1002 (.tuple ⟨[]⟩) [(1000,(Pic.bl ((PIk1 p pC).1) (sl 1002 (List.length ((PIk1 p pC).2)) 5) false)),(1002,⟨[rowsL Sprite.cells Sprite.nil 5 ((PIk1 p pC).2)],92,false⟩)],.call [(1000,1000),(1002,1001)] [] 1002 (.tuple ⟨[]⟩) [(1000,(Pic.bl (pNext ((PIk1 p pC).1) ((PIk1 p pC).2)) (sl 1001 (List.length ((PIk1 p pC).2)) 5) false)),(1001,⟨[rowsL Sprite.cells Sprite.nil 5 ((PIk1 p pC).2)],92,false⟩)]] (J T0 (J c1 (J c1 (J c1 (J c1 (J c1 (J c1 (J T0 (J c2 (J c2 (J c2 (J c2 (J c2 (J c2 (J c3 (J (line_no261 c2) (J (line_no261 c2) (J (line_no261 c2) (J (line_no261 c2) (J (line_no261 c2) (J (line_no261 c2) (J T0 (J T0 (J T0 (J T0 (J T0 (J T0 (J T0 (J (pShows_ok p pC) (J c4 (J c4 (J (line_no261 c2) (J (line_no261 c2) (J (line_no261 c2) (J (line_no261 c2) (J (line_no261 c2) (J c4 (J (line_no261 c2) (J c4 (J c2 (J (pMove_ok p pC) (J c5 (J (pChooseF_ok (pMove p pC) pC (decide (p.line < 240)) (pMove_w p pC w_p)) (J (pNext_ok ((PIk1 p pC).1) ((PIk1 p pC).2)) trivial)))))))))))))))))))))))))))))))))))))))))))) (by kernel_rfl)) [(1000,1000),(1002,1002)] 1003 (by kernel_rfl)
     ·rw [if_neg (nt c5)]
      exact fn_ren (v:=.tuple ⟨[]⟩) (H1:=[(1000,(Pic.bl (pNext (pMove p pC) pC) (PIk3 pC) false)),(1001,sB pC false)]) (fn_of_x hG hM Try.func23 (by kernel_rfl) (by kernel_rfl) 400 [.no,.no,.no,.no,.no,.no,.no,.no,.yes,.yes,.yes,.yes,.yes,.yes,.no,.no,.no,.no,.no,.no,.no,.no,.no,.no,.no,.no,.no,.no,.callr [(1000,1000),(1001,1001)] [1000,1001] [] 1002 (.bool (pShows p pC)) [],.yes,.yes,.no,.no,.no,.no,.no,.yes,.no,.yes,.yes,.call [(1000,1000),(1001,1001)] [] 1002 (.tuple ⟨[]⟩) [(1000,(Pic.bl (pMove p pC) (PIk3 pC) false)),(1001,sB pC false)],.no,.call [(1000,1000),(1001,1001)] [] 1002 (.tuple ⟨[]⟩) [(1000,(Pic.bl (pNext (pMove p pC) pC) (PIk3 pC) false)),(1001,sB pC false)]] (J T0 (J c1 (J c1 (J c1 (J c1 (J c1 (J c1 (J T0 (J c2 (J c2 (J c2 (J c2 (J c2 (J c2 (J c3 (J (line_no261 c2) (J (line_no261 c2) (J (line_no261 c2) (J (line_no261 c2) (J (line_no261 c2) (J (line_no261 c2) (J T0 (J T0 (J T0 (J T0 (J T0 (J T0 (J T0 (J (pShows_ok p pC) (J c4 (J c4 (J (line_no261 c2) (J (line_no261 c2) (J (line_no261 c2) (J (line_no261 c2) (J (line_no261 c2) (J c4 (J (line_no261 c2) (J c4 (J c2 (J (pMove_ok p pC) (J c5 (J (pNext_ok (pMove p pC) pC) trivial))))))))))))))))))))))))))))))))))))))))))) (by kernel_rfl)) [(1000,1000),(1001,1002)] 1003 (by kernel_rfl)
    ·rw [if_neg (nt c4)]
     rcases bt (p.dot == 257) with c5 | c5
     ·rw [if_pos c5]
      exact fn_ren (v:=.tuple ⟨[]⟩) (H1:=[(1000,(PIk7 p pC)),(1002,⟨[rowsL Sprite.cells Sprite.nil 5 ((PIk0 p pC).2)],92,false⟩)]) (fn_of_x hG hM Try.func23 (by kernel_rfl) (by kernel_rfl) 400 [.no,.no,.no,.no,.no,.no,.no,.no,.yes,.yes,.yes,.yes,.yes,.yes,.no,.no,.no,.no,.no,.no,.no,.no,.no,.no,.no,.no,.no,.no,.callr [(1000,1000),(1001,1001)] [1000,1001] [] 1002 (.bool (pShows p pC)) [],.no,.no,.no,.no,.no,.yes,.call [(1000,1000),(1001,1001)] [(1002,1002)] 1002 (.tuple ⟨[]⟩) [(1000,(PIk11 p pC)),(1002,⟨[rowsL Sprite.cells Sprite.nil 5 ((PIk0 p pC).2)],92,false⟩)],.call [(1000,1000),(1002,1001)] [] 1002 (.tuple ⟨[]⟩) [(1000,(PIk8 p pC)),(1001,⟨[rowsL Sprite.cells Sprite.nil 5 ((PIk0 p pC).2)],92,false⟩)]] (J T0 (J c1 (J c1 (J c1 (J c1 (J c1 (J c1 (J T0 (J c2 (J c2 (J c2 (J c2 (J c2 (J c2 (J c3 (J (line_no261 c2) (J (line_no261 c2) (J (line_no261 c2) (J (line_no261 c2) (J (line_no261 c2) (J (line_no261 c2) (J T0 (J T0 (J T0 (J T0 (J T0 (J T0 (J T0 (J (pShows_ok p pC) (J c4 (J c4 (J c4 (J c4 (J T0 (J c5 (J (pChooseF_ok p pC (decide (p.line < 240)) w_p) (J (pNext_ok ((PIk0 p pC).1) ((PIk0 p pC).2)) trivial))))))))))))))))))))))))))))))))))))) (by kernel_rfl)) [(1000,1000),(1002,1002)] 1003 (by kernel_rfl)
     ·rw [if_neg (nt c5)]
      exact fn_ren (v:=.tuple ⟨[]⟩) (H1:=[(1000,(PIk12 p pC)),(1001,sB pC false)]) (fn_of_x hG hM Try.func23 (by kernel_rfl) (by kernel_rfl) 400 [.no,.no,.no,.no,.no,.no,.no,.no,.yes,.yes,.yes,.yes,.yes,.yes,.no,.no,.no,.no,.no,.no,.no,.no,.no,.no,.no,.no,.no,.no,.callr [(1000,1000),(1001,1001)] [1000,1001] [] 1002 (.bool (pShows p pC)) [],.no,.no,.no,.no,.no,.no,.call [(1000,1000),(1001,1001)] [] 1002 (.tuple ⟨[]⟩) [(1000,(PIk12 p pC)),(1001,sB pC false)]] (J T0 (J c1 (J c1 (J c1 (J c1 (J c1 (J c1 (J T0 (J c2 (J c2 (J c2 (J c2 (J c2 (J c2 (J c3 (J (line_no261 c2) (J (line_no261 c2) (J (line_no261 c2) (J (line_no261 c2) (J (line_no261 c2) (J (line_no261 c2) (J T0 (J T0 (J T0 (J T0 (J T0 (J T0 (J T0 (J (pShows_ok p pC) (J c4 (J c4 (J c4 (J c4 (J T0 (J c5 (J (pNext_ok p pC) trivial)))))))))))))))))))))))))))))))))))) (by kernel_rfl)) [(1000,1000),(1001,1002)] 1003 (by kernel_rfl)
  ·rw [if_neg (nt c2)]
   rcases bt (decide (p.line < 240)) with c3 | c3
   ·rw [if_pos c3]
    rcases bt (decide (p.dot ≥ 1)) with c4 | c4
    ·rw [if_pos c4]
     rcases bt (decide (p.dot ≤ 256)) with c5 | c5
     ·rw [if_pos c5]
      rcases bt (pShows (PIk2 p pC) pC) with c6 | c6
      ·rw [if_pos c6]
       rcases bt (((pMove (PIk2 p pC) pC).dot:Int) == 257) with c7 | c7
       ·rw [if_pos c7]
        exact fn_ren (v:=.tuple ⟨[]⟩) (H1:=[(1000,(Pic.bl (pNext ((PIk6 p pC).1) ((PIk6 p pC).2)) (sl 1002 (List.length ((PIk6 p pC).2)) 5) false)),(1002,⟨[rowsL Sprite.cells Sprite.nil 5 ((PIk6 p pC).2)],92,false⟩)]) (fn_of_x hG hM Try.func23 (by kernel_rfl) (by kernel_rfl) 400 [.no,.no,.no,.no,.no,.no,.no,.no,.no,.no,.no,.no,.no,.no,.no,.yes,.yes,.yes,.yes,.yes,.yes,.yes,.yes,.yes,.yes,.yes,.yes,.yes,.call [(1000,1000),(1001,1001)] [] 1002 (.tuple ⟨[]⟩) [(1000,(Pic.bl (PIk2 p pC) (PIk3 pC) false)),(1001,sB pC false)],.callr [(1000,1000),(1001,1001)] [1000,1001] [] 1002 (.bool (pShows (PIk2 p pC) pC)) [],.yes,.yes,.yes,.yes,.yes,.yes,.yes,.yes,.yes,.yes,.yes,.call [(1000,1000),(1001,1001)] [] 1002 (.tuple ⟨[]⟩) [(1000,(Pic.bl (pMove (PIk2 p pC) pC) (PIk3 pC) false)),(1001,sB pC false)],.yes,.call [(1000,1000),(1001,1001)] [(1002,1002)] 1002 (.tuple ⟨[]⟩) [(1000,(Pic.bl ((PIk6 p pC).1) (sl 1002 (List.length ((PIk6 p pC).2)) 5) false)),(1002,⟨[rowsL Sprite.cells Sprite.nil 5 ((PIk6 p pC).2)],92,false⟩)],.call [(1000,1000),(1002,1001)] [] 1002 (.tuple ⟨[]⟩) [(1000,(Pic.bl (pNext ((PIk6 p pC).1) ((PIk6 p pC).2)) (sl 1001 (List.length ((PIk6 p pC).2)) 5) false)),(1001,⟨[rowsL Sprite.cells Sprite.nil 5 ((PIk6 p pC).2)],92,false⟩)]] (J T0 (J c1 (J c1 (J c1 (J c1 (J c1 (J c1 (J T0 (J c2 (J c2 (J c2 (J c2 (J c2 (J c2 (J T0 (J c3 (J c3 (J c3 (J c3 (J c3 (J c3 (J c4 (J c4 (J c4 (J c4 (J c4 (J c4 (J c5 (J (pDraw_ok p pC (i64.wrap (p.dot - 1)) w_p (show 0 ≤ (i64.wrap (p.dot - 1)) from by (simp only [decide_eq_true_eq,decide_eq_false_iff_not,IntKind.wrap_i64] at *;omega)) (show (i64.wrap (p.dot - 1)) < 256 from by (simp only [decide_eq_true_eq,decide_eq_false_iff_not,IntKind.wrap_i64] at *;omega)) hl (show p.line < 240 from by (simp only [decide_eq_true_eq,decide_eq_false_iff_not,IntKind.wrap_i64] at *;omega)) hL) (J (pShows_ok (PIk2 p pC) pC) (J c6 (J c6 (J c3 (J c3 (J c3 (J c3 (J c3 (J c6 (J c3 (J c6 (J T1 (J (pMove_ok (PIk2 p pC) pC) (J c7 (J (pChooseF_ok (pMove (PIk2 p pC) pC) pC (decide (p.line < 240)) (pMove_w (PIk2 p pC) pC (pDraw_w p pC (i64.wrap (p.dot - 1)) w_p))) (J (pNext_ok ((PIk6 p pC).1) ((PIk6 p pC).2)) trivial))))))))))))))))))))))))))))))))))))))))))))) (by kernel_rfl)) [(1000,1000),(1002,1002)] 1003 (by kernel_rfl)
       ·rw [if_neg (nt c7)]
        exact fn_ren (v:=.tuple ⟨[]⟩) (H1:=[(1000,(Pic.bl (pNext (pMove (PIk2 p pC) pC) pC) (PIk3 pC) false)),(1001,sB pC false)]) (fn_of_x hG hM Try.func23 (by kernel_rfl) (by kernel_rfl) 400 [.no,.no,.no,.no,.no,.no,.no,.no,.no,.no,.no,.no,.no,.no,.no,.yes,.yes,.yes,.yes,.yes,.yes,.yes,.yes,.yes,.yes,.yes,.yes,.yes,.call [(1000,1000),(1001,1001)] [] 1002 (.tuple ⟨[]⟩) [(1000,(Pic.bl (PIk2 p pC) (PIk3 pC) false)),(1001,sB pC false)],.callr [(1000,1000),(1001,1001)] [1000,1001] [] 1002 (.bool (pShows (PIk2 p pC) pC)) [],.yes,.yes,.yes,.yes,.yes,.yes,.yes,.yes,.yes,.yes,.yes,.call [(1000,1000),(1001,1001)] [] 1002 (.tuple ⟨[]⟩) [(1000,(Pic.bl (pMove (PIk2 p pC) pC) (PIk3 pC) false)),(1001,sB pC false)],.no,.call [(1000,1000),(1001,1001)] [] 1002 (.tuple ⟨[]⟩) [(1000,(Pic.bl (pNext (pMove (PIk2 p pC) pC) pC) (PIk3 pC) false)),(1001,sB pC false)]] (J T0 (J c1 (J c1 (J c1 (J c1 (J c1 (J c1 (J T0 (J c2 (J c2 (J c2 (J c2 (J c2 (J c2 (J T0 (J c3 (J c3 (J c3 (J c3 (J c3 (J c3 (J c4 (J c4 (J c4 (J c4 (J c4 (J c4 (J c5 (J (pDraw_ok p pC (i64.wrap (p.dot - 1)) w_p (show 0 ≤ (i64.wrap (p.dot - 1)) from by (simp only [decide_eq_true_eq,decide_eq_false_iff_not,IntKind.wrap_i64] at *;omega)) (show (i64.wrap (p.dot - 1)) < 256 from by (simp only [decide_eq_true_eq,decide_eq_false_iff_not,IntKind.wrap_i64] at *;omega)) hl (show p.line < 240 from by (simp only [decide_eq_true_eq,decide_eq_false_iff_not,IntKind.wrap_i64] at *;omega)) hL) (J (pShows_ok (PIk2 p pC) pC) (J c6 (J c6 (J c3 (J c3 (J c3 (J c3 (J c3 (J c6 (J c3 (J c6 (J T1 (J (pMove_ok (PIk2 p pC) pC) (J c7 (J (pNext_ok (pMove (PIk2 p pC) pC) pC) trivial)))))))))))))))))))))))))))))))))))))))))))) (by kernel_rfl)) [(1000,1000),(1001,1002)] 1003 (by kernel_rfl)
      ·rw [if_neg (nt c6)]
       rcases bt (((PIk2 p pC).dot:Int) == 257) with c7 | c7
       ·rw [if_pos c7]
        exact fn_ren (v:=.tuple ⟨[]⟩) (H1:=[(1000,(Pic.bl (pNext ((PIk9 p pC).1) ((PIk9 p pC).2)) (sl 1002 (List.length ((PIk9 p pC).2)) 5) false)),(1002,⟨[rowsL Sprite.cells Sprite.nil 5 ((PIk9 p pC).2)],92,false⟩)]) (fn_of_x hG hM Try.func23 (by kernel_rfl) (by kernel_rfl) 400 [.no,.no,.no,.no,.no,.no,.no,.no,.no,.no,.no,.no,.no,.no,.no,.yes,.yes,.yes,.yes,.yes,.yes,.yes,.yes,.yes,.yes,.yes,.yes,.yes,.call [(1000,1000),(1001,1001)] [] 1002 (.tuple ⟨[]⟩) [(1000,(Pic.bl (PIk2 p pC) (PIk3 pC) false)),(1001,sB pC false)],.callr [(1000,1000),(1001,1001)] [1000,1001] [] 1002 (.bool (pShows (PIk2 p pC) pC)) [],.no,.no,.no,.no,.no,.yes,.call [(1000,1000),(1001,1001)] [(1002,1002)] 1002 (.tuple ⟨[]⟩) [(1000,(Pic.bl ((PIk9 p pC).1) (sl 1002 (List.length ((PIk9 p pC).2)) 5) false)),(1002,⟨[rowsL Sprite.cells Sprite.nil 5 ((PIk9 p pC).2)],92,false⟩)],.call [(1000,1000),(1002,1001)] [] 1002 (.tuple ⟨[]⟩) [(1000,(Pic.bl (pNext ((PIk9 p pC).1) ((PIk9 p pC).2)) (sl 1001 (List.length ((PIk9 p pC).2)) 5) false)),(1001,⟨[rowsL Sprite.cells Sprite.nil 5 ((PIk9 p pC).2)],92,false⟩)]] (J T0 (J c1 (J c1 (J c1 (J c1 (J c1 (J c1 (J T0 (J c2 (J c2 (J c2 (J c2 (J c2 (J c2 (J T0 (J c3 (J c3 (J c3 (J c3 (J c3 (J c3 (J c4 (J c4 (J c4 (J c4 (J c4 (J c4 (J c5 (J (pDraw_ok p pC (i64.wrap (p.dot - 1)) w_p (show 0 ≤ (i64.wrap (p.dot - 1)) from by (simp only [decide_eq_true_eq,decide_eq_false_iff_not,IntKind.wrap_i64] at *;omega)) (show (i64.wrap (p.dot - 1)) < 256 from by (simp only [decide_eq_true_eq,decide_eq_false_iff_not,IntKind.wrap_i64] at *;omega)) hl (show p.line < 240 from by (simp only [decide_eq_true_eq,decide_eq_false_iff_not,IntKind.wrap_i64] at *;omega)) hL) (J (pShows_ok (PIk2 p pC) pC) (J c6 (J c6 (J c6 (J c6 (J T0 (J c7 (J (pChooseF_ok (PIk2 p pC) pC (decide (p.line < 240)) (pDraw_w p pC (i64.wrap (p.dot - 1)) w_p)) (J (pNext_ok ((PIk9 p pC).1) ((PIk9 p pC).2)) trivial)))))))))))))))))))))))))))))))))))))) (by kernel_rfl)) [(1000,1000),(1002,1002)] 1003 (by kernel_rfl)
       ·rw [if_neg (nt c7)]
        exact fn_ren (v:=.tuple ⟨[]⟩) (H1:=[(1000,(Pic.bl (pNext (PIk2 p pC) pC) (PIk3 pC) false)),(1001,sB pC false)]) (fn_of_x hG hM Try.func23 (by kernel_rfl) (by kernel_rfl) 400 [.no,.no,.no,.no,.no,.no,.no,.no,.no,.no,.no,.no,.no,.no,.no,.yes,.yes,.yes,.yes,.yes,.yes,.yes,.yes,.yes,.yes,.yes,.yes,.yes,.call [(1000,1000),(1001,1001)] [] 1002 (.tuple ⟨[]⟩) [(1000,(Pic.bl (PIk2 p pC) (PIk3 pC) false)),(1001,sB pC false)],.callr [(1000,1000),(1001,1001)] [1000,1001] [] 1002 (.bool (pShows (PIk2 p pC) pC)) [],.no,.no,.no,.no,.no,.no,.call [(1000,1000),(1001,1001)] [] 1002 (.tuple ⟨[]⟩) [(1000,(Pic.bl (pNext (PIk2 p pC) pC) (PIk3 pC) false)),(1001,sB pC false)]] (J T0 (J c1 (J c1 (J c1 (J c1 (J c1 (J c1 (J T0 (J c2 (J c2 (J c2 (J c2 (J c2 (J c2 (J T0 (J c3 (J c3 (J c3 (J c3 (J c3 (J c3 (J c4 (J c4 (J c4 (J c4 (J c4 (J c4 (J c5 (J (pDraw_ok p pC (i64.wrap (p.dot - 1)) w_p (show 0 ≤ (i64.wrap (p.dot - 1)) from by (simp only [decide_eq_true_eq,decide_eq_false_iff_not,IntKind.wrap_i64] at *;omega)) (show (i64.wrap (p.dot - 1)) < 256 from by (simp only [decide_eq_true_eq,decide_eq_false_iff_not,IntKind.wrap_i64] at *;omega)) hl (show p.line < 240 from by (simp only [decide_eq_true_eq,decide_eq_false_iff_not,IntKind.wrap_i64] at *;omega)) hL) (J (pShows_ok (PIk2 p pC) pC) (J c6 (J c6 (J c6 (J c6 (J T0 (J c7 (J (pNext_ok (PIk2 p pC) pC) trivial))))))))))))))))))))))))))))))))))))) (by kernel_rfl)) [(1000,1000),(1001,1002)] 1003 (by kernel_rfl)
     ·rw [if_neg (nt c5)]
      rcases bt (pShows p pC) with c6 | c6
      ·rw [if_pos c6]
       rcases bt (((pMove p pC).dot:Int) == 257) with c7 | c7
       ·rw [if_pos c7]
        exact fn_ren (v:=.tuple ⟨[]⟩) (H1:=[(1000,(Pic.bl (pNext ((PIk1 p pC).1) ((PIk1 p pC).2)) (sl 1002 (List.length ((PIk1 p pC).2)) 5) false)),(1002,⟨[rowsL Sprite.cells Sprite.nil 5 ((PIk1 p pC).2)],92,false⟩)]) (fn_of_x hG hM Try.func23 (by kernel_rfl) (by kernel_rfl) 400 [.no,.no,.no,.no,.no,.no,.no,.no,.no,.no,.no,.no,.no,.no,.no,.yes,.yes,.yes,.yes,.yes,.yes,.yes,.yes,.yes,.yes,.yes,.yes,.no,.callr [(1000,1000),(1001,1001)] [1000,1001] [] 1002 (.bool (pShows p pC)) [],.yes,.yes,.yes,.yes,.yes,.yes,.yes,.yes,.yes,.yes,.yes,.call [(1000,1000),(1001,1001)] [] 1002 (.tuple ⟨[]⟩) [(1000,(Pic.bl (pMove p pC) (PIk3 pC) false)),(1001,sB pC false)],.yes,.call [(1000,1000),(1001,1001)] [(1002,1002)] 1002 (.tuple ⟨[]⟩) [(1000,(Pic.bl ((PIk1 p pC).1) (sl 1002 (List.length ((PIk1 p pC).2)) 5) false)),(1002,⟨[rowsL Sprite.cells Sprite.nil 5 ((PIk1 p pC).2)],92,false⟩)],.call [(1000,1000),(1002,1001)] [] 1002 (.tuple ⟨[]⟩) [(1000,(Pic.bl (pNext ((PIk1 p pC).1) ((PIk1 p pC).2)) (sl 1001 (List.length ((PIk1 p pC).2)) 5) false)),(1001,⟨[rowsL Sprite.cells Sprite.nil 5 ((PIk1 p pC).2)],92,false⟩)]] (J T0 (J c1 (J c1 (J c1 (J c1 (J c1 (J c1 (J T0 (J c2 (J c2 (J c2 (J c2 (J c2 (J c2 (J T0 (J c3 (J c3 (J c3 (J c3 (J c3 (J c3 (J c4 (J c4 (J c4 (J c4 (J c4 (J c4 (J c5 (J (pShows_ok p pC) (J c6 (J c6 (J c3 (J c3 (J c3 (J c3 (J c3 (J c6 (J c3 (J c6 (J T1 (J (pMove_ok p pC) (J c7 (J (pChooseF_ok (pMove p pC) pC (decide (p.line < 240)) (pMove_w p pC w_p)) (J (pNext_ok ((PIk1 p pC).1) ((PIk1 p pC).2)) trivial)))))))))))))))))))))))))))))))))))))))))))) (by kernel_rfl)) [(1000,1000),(1002,1002)] 1003 (by kernel_rfl)
       ·rw [if_neg (nt c7)]
        exact fn_ren (v:=.tuple ⟨[]⟩) (H1:=[(1000,(Pic.bl (pNext (pMove p pC) pC) (PIk3 pC) false)),(1001,sB pC false)]) (fn_of_x hG hM Try.func23 (by kernel_rfl) (by kernel_rfl) 400 [.no,.no,.no,.no,.no,.no,.no,.no,.no,.no,.no,.no,.no,.no,.no,.yes,.yes,.yes,.yes,.yes,.yes,.yes,.yes,.yes,.yes,.yes,.yes,.no,.callr [(1000,1000),(1001,1001)] [1000,1001] [] 1002 (.bool (pShows p pC)) [],.yes,.yes,.yes,.yes,.yes,.yes,.yes,.yes,.yes,.yes,.yes,.call [(1000,1000),(1001,1001)] [] 1002 (.tuple ⟨[]⟩) [(1000,(Pic.bl (pMove p pC) (PIk3 pC) false)),(1001,sB pC false)],.no,.call [(1000,1000),(1001,1001)] [] 1002 (.tuple ⟨[]⟩) [(1000,(Pic.bl (pNext (pMove p pC) pC) (PIk3 pC) false)),(1001,sB pC false)]] (J T0 (J c1 (J c1 (J c1 (J c1 (J c1 (J c1 (J T0 (J c2 (J c2 (J c2 (J c2 (J c2 (J c2 (J T0 (J c3 (J c3 (J c3 (J c3 (J c3 (J c3 (J c4 (J c4 (J c4 (J c4 (J c4 (J c4 (J c5 (J (pShows_ok p pC) (J c6 (J c6 (J c3 (J c3 (J c3 (J c3 (J c3 (J c6 (J c3 (J c6 (J T1 (J (pMove_ok p pC) (J c7 (J (pNext_ok (pMove p pC) pC) trivial))))))))))))))))))))))))))))))))))))))))))) (by kernel_rfl)) [(1000,1000),(1001,1002)] 1003 (by kernel_rfl)
      ·rw [if_neg (nt c6)]
       rcases bt (p.dot == 257) with c7 | c7
       ·rw [if_pos c7]
        exact fn_ren (v:=.tuple ⟨[]⟩) (H1:=[(1000,(PIk7 p pC)),(1002,⟨[rowsL Sprite.cells Sprite.nil 5 ((PIk0 p pC).2)],92,false⟩)]) (fn_of_x hG hM Try.func23 (by kernel_rfl) (by kernel_rfl) 400 [.no,.no,.no,.no,.no,.no,.no,.no,.no,.no,.no,.no,.no,.no,.no,.yes,.yes,.yes,.yes,.yes,.yes,.yes,.yes,.yes,.yes,.yes,.yes,.no,.callr [(1000,1000),(1001,1001)] [1000,1001] [] 1002 (.bool (pShows p pC)) [],.no,.no,.no,.no,.no,.yes,.call [(1000,1000),(1001,1001)] [(1002,1002)] 1002 (.tuple ⟨[]⟩) [(1000,(PIk11 p pC)),(1002,⟨[rowsL Sprite.cells Sprite.nil 5 ((PIk0 p pC).2)],92,false⟩)],.call [(1000,1000),(1002,1001)] [] 1002 (.tuple ⟨[]⟩) [(1000,(PIk8 p pC)),(1001,⟨[rowsL Sprite.cells Sprite.nil 5 ((PIk0 p pC).2)],92,false⟩)]] (J T0 (J c1 (J c1 (J c1 (J c1 (J c1 (J c1 (J T0 (J c2 (J c2 (J c2 (J c2 (J c2 (J c2 (J T0 (J c3 (J c3 (J c3 (J c3 (J c3 (J c3 (J c4 (J c4 (J c4 (J c4 (J c4 (J c4 (J c5 (J (pShows_ok p pC) (J c6 (J c6 (J c6 (J c6 (J T0 (J c7 (J (pChooseF_ok p pC (decide (p.line < 240)) w_p) (J (pNext_ok ((PIk0 p pC).1) ((PIk0 p pC).2)) trivial))))))))))))))))))))))))))))))))))))) (by kernel_rfl)) [(1000,1000),(1002,1002)] 1003 (by kernel_rfl)
       ·rw [if_neg (nt c7)]
        exact fn_ren (v:=.tuple ⟨[]⟩) (H1:=[(1000,(PIk12 p pC)),(1001,sB pC false)]) (fn_of_x hG hM Try.func23 (by kernel_rfl) (by kernel_rfl) 400 [.no,.no,.no,.no,.no,.no,.no,.no,.no,.no,.no,.no,.no,.no,.no,.yes,.yes,.yes,.yes,.yes,.yes,.yes,.yes,.yes,.yes,.yes,.yes,.no,.callr [(1000,1000),(1001,1001)] [1000,1001] [] 1002 (.bool (pShows p pC)) [],.no,.no,.no,.no,.no,.no,.call [(1000,1000),(1001,1001)] [] 1002 (.tuple ⟨[]⟩) [(1000,(PIk12 p pC)),(1001,sB pC false)]] (J T0 (J c1 (J c1 (J c1 (J c1 (J c1 (J c1 (J T0 (J c2 (J c2 (J c2 (J c2 (J c2 (J c2 (J T0 (J c3 (J c3 (J c3 (J c3 (J c3 (J c3 (J c4 (J c4 (J c4 (J c4 (J c4 (J c4 (J c5 (J (pShows_ok p pC) (J c6 (J c6 (J c6 (J c6 (J T0 (J c7 (J (pNext_ok p pC) trivial)))))))))))))))))))))))))))))))))))) (by kernel_rfl)) [(1000,1000),(1001,1002)] 1003 (by kernel_rfl)
    ·rw [if_neg (nt c4)]
     rcases bt (pShows p pC) with c5 | c5
     ·rw [if_pos c5]
      rcases bt (((pMove p pC).dot:Int) == 257) with c6 | c6
      ·rw [if_pos c6]
       exact fn_ren (v:=.tuple ⟨[]⟩) (H1:=[(1000,(Pic.bl (pNext ((PIk1 p pC).1) ((PIk1 p pC).2)) (sl 1002 (List.length ((PIk1 p pC).2)) 5) false)),(1002,⟨[rowsL Sprite.cells Sprite.nil 5 ((PIk1 p pC).2)],92,false⟩)]) (fn_of_x hG hM Try.func23 (by kernel_rfl) (by kernel_rfl) 400 [.no,.no,.no,.no,.no,.no,.no,.no,.no,.no,.no,.no,.no,.no,.no,.yes,.yes,.yes,.yes,.yes,.yes,.no,.no,.no,.no,.no,.no,.no,.callr [(1000,1000),(1001,1001)] [1000,1001] [] 1002 (.bool (pShows p pC)) [],.yes,.yes,.yes,.yes,.yes,.yes,.yes,.yes,.yes,.yes,.yes,.call [(1000,1000),(1001,1001)] [] 1002 (.tuple ⟨[]⟩) [(1000,(Pic.bl (pMove p pC) (PIk3 pC) false)),(1001,sB pC false)],.yes,.call [(1000,1000),(1001,1001)] [(1002,1002)] 1002 (.tuple ⟨[]⟩) [(1000,(Pic.bl ((PIk1 p pC).1) (sl 1002 (List.length ((PIk1 p pC).2)) 5) false)),(1002,⟨[rowsL Sprite.cells Sprite.nil 5 ((PIk1 p pC).2)],92,false⟩)],.call [(1000,1000),(1002,1001)] [] 1002 (.tuple ⟨[]⟩) [(1000,(Pic.bl (pNext ((PIk1 p pC).1) ((PIk1 p pC).2)) (sl 1001 (List.length ((PIk1 p pC).2)) 5) false)),(1001,⟨[rowsL Sprite.cells Sprite.nil 5 ((PIk1 p pC).2)],92,false⟩)]] (J T0 (J c1 (J c1 (J c1 (J c1 (J c1 (J c1 (J T0 (J c2 (J c2 (J c2 (J c2 (J c2 (J c2 (J T0 (J c3 (J c3 (J c3 (J c3 (J c3 (J c3 (J c4 (J c4 (J c4 (J c4 (J c4 (J c4 (J T0 (J (pShows_ok p pC) (J c5 (J c5 (J c3 (J c3 (J c3 (J c3 (J c3 (J c5 (J c3 (J c5 (J T1 (J (pMove_ok p pC) (J c6 (J (pChooseF_ok (pMove p pC) pC (decide (p.line < 240)) (pMove_w p pC w_p)) (J (pNext_ok ((PIk1 p pC).1) ((PIk1 p pC).2)) trivial)))))))))))))))))))))))))))))))))))))))))))) (by kernel_rfl)) [(1000,1000),(1002,1002)] 1003 (by kernel_rfl)
      ·rw [if_neg (nt c6)]
       exact fn_ren (v:=.tuple ⟨[]⟩) (H1:=[(1000,(Pic.bl (pNext (pMove p pC) pC) (PIk3 pC) false)),(1001,sB pC false)]) (fn_of_x hG hM Try.func23 (by kernel_rfl) (by kernel_rfl) 400 [.no,.no,.no,.no,.no,.no,.no,.no,.no,.no,.no,.no,.no,.no,.no,.yes,.yes,.yes,.yes,.yes,.yes,.no,.no,.no,.no,.no,.no,.no,.callr [(1000,1000),(1001,1001)] [1000,1001] [] 1002 (.bool (pShows p pC)) [],.yes,.yes,.yes,.yes,.yes,.yes,.yes,.yes,.yes,.yes,.yes,.call [(1000,1000),(1001,1001)] [] 1002 (.tuple ⟨[]⟩) [(1000,(Pic.bl (pMove p pC) (PIk3 pC) false)),(1001,sB pC false)],.no,.call [(1000,1000),(1001,1001)] [] 1002 (.tuple ⟨[]⟩) [(1000,(Pic.bl (pNext (pMove p pC) pC) (PIk3 pC) false)),(1001,sB pC false)]] (J T0 (J c1 (J c1 (J c1 (J c1 (J c1 (J c1 (J T0 (J c2 (J c2 (J c2 (J c2 (J c2 (J c2 (J T0 (J c3 (J c3 (J c3 (J c3 (J c3 (J c3 (J c4 (J c4 (J c4 (J c4 (J c4 (J c4 (J T0 (J (pShows_ok p pC) (J c5 (J c5 (J c3 (J c3 (J c3 (J c3 (J c3 (J c5 (J c3 (J c5 (J T1 (J (pMove_ok p pC) (J c6 (J (pNext_ok (pMove p pC) pC) trivial))))))))))))))))))))))))))))))))))))))))))) (by kernel_rfl)) [(1000,1000),(1001,1002)] 1003 (by kernel_rfl)
     ·rw [if_neg (nt c5)]
      rcases bt (p.dot == 257) with c6 | c6
      ·rw [if_pos c6]
       exact fn_ren (v:=.tuple ⟨[]⟩) (H1:=[(1000,(PIk7 p pC)),(1002,⟨[rowsL Sprite.cells Sprite.nil 5 ((PIk0 p pC).2)],92,false⟩)]) (fn_of_x hG hM Try.func23 (by kernel_rfl) (by kernel_rfl) 400 [.no,.no,.no,.no,.no,.no,.no,.no,.no,.no,.no,.no,.no,.no,.no,.yes,.yes,.yes,.yes,.yes,.yes,.no,.no,.no,.no,.no,.no,.no,.callr [(1000,1000),(1001,1001)] [1000,1001] [] 1002 (.bool (pShows p pC)) [],.no,.no,.no,.no,.no,.yes,.call [(1000,1000),(1001,1001)] [(1002,1002)] 1002 (.tuple ⟨[]⟩) [(1000,(PIk11 p pC)),(1002,⟨[rowsL Sprite.cells Sprite.nil 5 ((PIk0 p pC).2)],92,false⟩)],.call [(1000,1000),(1002,1001)] [] 1002 (.tuple ⟨[]⟩) [(1000,(PIk8 p pC)),(1001,⟨[rowsL Sprite.cells Sprite.nil 5 ((PIk0 p pC).2)],92,false⟩)]] (J T0 (J c1 (J c1 (J c1 (J c1 (J c1 (J c1 (J T0 (J c2 (J c2 (J c2 (J c2 (J c2 (J c2 (J T0 (J c3 (J c3 (J c3 (J c3 (J c3 (J c3 (J c4 (J c4 (J c4 (J c4 (J c4 (J c4 (J T0 (J (pShows_ok p pC) (J c5 (J c5 (J c5 (J c5 (J T0 (J c6 (J (pChooseF_ok p pC (decide (p.line < 240)) w_p) (J (pNext_ok ((PIk0 p pC).1) ((PIk0 p pC).2)) trivial))))))))))))))))))))))))))))))))))))) (by kernel_rfl)) [(1000,1000),(1002,1002)] 1003 (by kernel_rfl)
      ·rw [if_neg (nt c6)]
       exact fn_ren (v:=.tuple ⟨[]⟩) (H1:=[(1000,(PIk12 p pC)),(1001,sB pC false)]) (fn_of_x hG hM Try.func23 (by kernel_rfl) (by kernel_rfl) 400 [.no,.no,.no,.no,.no,.no,.no,.no,.no,.no,.no,.no,.no,.no,.no,.yes,.yes,.yes,.yes,.yes,.yes,.no,.no,.no,.no,.no,.no,.no,.callr [(1000,1000),(1001,1001)] [1000,1001] [] 1002 (.bool (pShows p pC)) [],.no,.no,.no,.no,.no,.no,.call [(1000,1000),(1001,1001)] [] 1002 (.tuple ⟨[]⟩) [(1000,(PIk12 p pC)),(1001,sB pC false)]] (J T0 (J c1 (J c1 (J c1 (J c1 (J c1 (J c1 (J T0 (J c2 (J c2 (J c2 (J c2 (J c2 (J c2 (J T0 (J c3 (J c3 (J c3 (J c3 (J c3 (J c3 (J c4 (J c4 (J c4 (J c4 (J c4 (J c4 (J T0 (J (pShows_ok p pC) (J c5 (J c5 (J c5 (J c5 (J T0 (J c6 (J (pNext_ok p pC) trivial)))))))))))))))))))))))))))))))))))) (by kernel_rfl)) [(1000,1000),(1001,1002)] 1003 (by kernel_rfl)
   ·rw [if_neg (nt c3)]
    rcases bt (pShows p pC) with c4 | c4
    ·rw [if_pos c4]
     rcases bt (p.dot == 257) with c5 | c5
     ·rw [if_pos c5]
      exact fn_ren (v:=.tuple ⟨[]⟩) (H1:=[(1000,(PIk7 p pC)),(1002,⟨[rowsL Sprite.cells Sprite.nil 5 ((PIk0 p pC).2)],92,false⟩)]) (fn_of_x hG hM Try.func23 (by kernel_rfl) (by kernel_rfl) 400 [.no,.no,.no,.no,.no,.no,.no,.no,.no,.no,.no,.no,.no,.no,.no,.no,.no,.no,.no,.no,.no,.no,.no,.no,.no,.no,.no,.no,.callr [(1000,1000),(1001,1001)] [1000,1001] [] 1002 (.bool (pShows p pC)) [],.yes,.yes,.no,.no,.no,.no,.no,.yes,.no,.yes,.no,.yes,.call [(1000,1000),(1001,1001)] [(1002,1002)] 1002 (.tuple ⟨[]⟩) [(1000,(PIk11 p pC)),(1002,⟨[rowsL Sprite.cells Sprite.nil 5 ((PIk0 p pC).2)],92,false⟩)],.call [(1000,1000),(1002,1001)] [] 1002 (.tuple ⟨[]⟩) [(1000,(PIk8 p pC)),(1001,⟨[rowsL Sprite.cells Sprite.nil 5 ((PIk0 p pC).2)],92,false⟩)]] (J T0 (J c1 (J c1 (J c1 (J c1 (J c1 (J c1 (J T0 (J c2 (J c2 (J c2 (J c2 (J c2 (J c2 (J T0 (J c3 (J c3 (J c3 (J c3 (J c3 (J c3 (J T0 (J T0 (J T0 (J T0 (J T0 (J T0 (J T0 (J (pShows_ok p pC) (J c4 (J c4 (J c3 (J c3 (J c3 (J c3 (J c3 (J c4 (J c3 (J c4 (J c2 (J c5 (J (pChooseF_ok p pC (decide (p.line < 240)) w_p) (J (pNext_ok ((PIk0 p pC).1) ((PIk0 p pC).2)) trivial))))))))))))))))))))))))))))))))))))))))))) (by kernel_rfl)) [(1000,1000),(1002,1002)] 1003 (by kernel_rfl)
     ·rw [if_neg (nt c5)]
      exact fn_ren (v:=.tuple ⟨[]⟩) (H1:=[(1000,(PIk12 p pC)),(1001,sB pC false)]) (fn_of_x hG hM Try.func23 (by kernel_rfl) (by kernel_rfl) 400 [.no,.no,.no,.no,.no,.no,.no,.no,.no,.no,.no,.no,.no,.no,.no,.no,.no,.no,.no,.no,.no,.no,.no,.no,.no,.no,.no,.no,.callr [(1000,1000),(1001,1001)] [1000,1001] [] 1002 (.bool (pShows p pC)) [],.yes,.yes,.no,.no,.no,.no,.no,.yes,.no,.yes,.no,.no,.call [(1000,1000),(1001,1001)] [] 1002 (.tuple ⟨[]⟩) [(1000,(PIk12 p pC)),(1001,sB pC false)]] (J T0 (J c1 (J c1 (J c1 (J c1 (J c1 (J c1 (J T0 (J c2 (J c2 (J c2 (J c2 (J c2 (J c2 (J T0 (J c3 (J c3 (J c3 (J c3 (J c3 (J c3 (J T0 (J T0 (J T0 (J T0 (J T0 (J T0 (J T0 (J (pShows_ok p pC) (J c4 (J c4 (J c3 (J c3 (J c3 (J c3 (J c3 (J c4 (J c3 (J c4 (J c2 (J c5 (J (pNext_ok p pC) trivial)))))))))))))))))))))))))))))))))))))))))) (by kernel_rfl)) [(1000,1000),(1001,1002)] 1003 (by kernel_rfl)
    ·rw [if_neg (nt c4)]
     rcases bt (p.dot == 257) with c5 | c5
     ·rw [if_pos c5]
      exact fn_ren (v:=.tuple ⟨[]⟩) (H1:=[(1000,(PIk7 p pC)),(1002,⟨[rowsL Sprite.cells Sprite.nil 5 ((PIk0 p pC).2)],92,false⟩)]) (fn_of_x hG hM Try.func23 (by kernel_rfl) (by kernel_rfl) 400 [.no,.no,.no,.no,.no,.no,.no,.no,.no,.no,.no,.no,.no,.no,.no,.no,.no,.no,.no,.no,.no,.no,.no,.no,.no,.no,.no,.no,.callr [(1000,1000),(1001,1001)] [1000,1001] [] 1002 (.bool (pShows p pC)) [],.no,.no,.no,.no,.no,.yes,.call [(1000,1000),(1001,1001)] [(1002,1002)] 1002 (.tuple ⟨[]⟩) [(1000,(PIk11 p pC)),(1002,⟨[rowsL Sprite.cells Sprite.nil 5 ((PIk0 p pC).2)],92,false⟩)],.call [(1000,1000),(1002,1001)] [] 1002 (.tuple ⟨[]⟩) [(1000,(PIk8 p pC)),(1001,⟨[rowsL Sprite.cells Sprite.nil 5 ((PIk0 p pC).2)],92,false⟩)]] (J T0 (J c1 (J c1 (J c1 (J c1 (J c1 (J c1 (J T0 (J c2 (J c2 (J c2 (J c2 (J c2 (J c2 (J T0 (J c3 (J c3 (J c3 (J c3 (J c3 (J c3 (J T0 (J T0 (J T0 (J T0 (J T0 (J T0 (J T0 (J (pShows_ok p pC) (J c4 (J c4 (J c4 (J c4 (J T0 (J c5 (J (pChooseF_ok p pC (decide (p.line < 240)) w_p) (J (pNext_ok ((PIk0 p pC).1) ((PIk0 p pC).2)) trivial))))))))))))))))))))))))))))))))))))) (by kernel_rfl)) [(1000,1000),(1002,1002)] 1003 (by kernel_rfl)
     ·rw [if_neg (nt c5)]
      exact fn_ren (v:=.tuple ⟨[]⟩) (H1:=[(1000,(PIk12 p pC)),(1001,sB pC false)]) (fn_of_x hG hM Try.func23 (by kernel_rfl) (by kernel_rfl) 400 [.no,.no,.no,.no,.no,.no,.no,.no,.no,.no,.no,.no,.no,.no,.no,.no,.no,.no,.no,.no,.no,.no,.no,.no,.no,.no,.no,.no,.callr [(1000,1000),(1001,1001)] [1000,1001] [] 1002 (.bool (pShows p pC)) [],.no,.no,.no,.no,.no,.no,.call [(1000,1000),(1001,1001)] [] 1002 (.tuple ⟨[]⟩) [(1000,(PIk12 p pC)),(1001,sB pC false)]] (J T0 (J c1 (J c1 (J c1 (J c1 (J c1 (J c1 (J T0 (J c2 (J c2 (J c2 (J c2 (J c2 (J c2 (J T0 (J c3 (J c3 (J c3 (J c3 (J c3 (J c3 (J T0 (J T0 (J T0 (J T0 (J T0 (J T0 (J T0 (J (pShows_ok p pC) (J c4 (J c4 (J c4 (J c4 (J T0 (J c5 (J (pNext_ok p pC) trivial)))))))))))))))))))))))))))))))))))) (by kernel_rfl)) [(1000,1000),(1001,1002)] 1003 (by kernel_rfl)
end Go.Proofs.Ytgnhhnmpeklciaa
