/- Plain facts about doubles: what each function of the package comes to, as numbers. -/
import Derived.Test.YtgchjlbhmfbgaaaGreatDoorSuXD
import Derived.IntWalk
import Derived.Laws.Bits64
import Derived.Test.YtgchjlbhmfbgaaaGreatDoorSuXJ
import Derived.KernelRfl
namespace Go.Proofs.Dbl
open Go Go.TX Go.Proofs
set_option maxRecDepth 100000
set_option maxHeartbeats 0
set_option linter.unusedVariables false
set_option linter.unusedSimpArgs false
def W (x:Int):Int:=(x+9223372036854775808)%18446744073709551616-9223372036854775808
def Cell (x:Int):Prop:= -9223372036854775808≤x∧x≤9223372036854775807
def S (lo hi:Int):Int:=lo%18446744073709551616+18446744073709551616*hi
def Pd (v:Int):Int×Int:=(W v,W (v/18446744073709551616))
theorem wi (n:Int):IntKind.wrap .i64 n=W n:=by
 have:=IntWalk.i64_left n
 unfold RowKit.wrap64 at this
 unfold W
 omega
theorem wu (n:Int):IntKind.wrap .u64 n=n%18446744073709551616:=IntKind.wrap_u64 n
theorem W_cell (x:Int):Cell (W x):=by unfold Cell W;omega
theorem W_of {x:Int}(h:Cell x):W x=x:=by unfold Cell at h;unfold W;omega
theorem W_mod (x:Int):W (x%18446744073709551616)=W x:=by unfold W;omega
theorem mod_W (x:Int):W x%18446744073709551616=x%18446744073709551616:=by unfold W;omega
theorem W_eq {x y:Int}:W x=W y↔(x-y)%18446744073709551616=0:=by unfold W;omega
theorem Pd_S {lo hi:Int}(h1:Cell lo)(h2:Cell hi):Pd (S lo hi)=(lo,hi):=by
 unfold Cell at h1 h2
 unfold Pd S W
 refine Prod.ext ?_ ?_<;>simp only<;>omega
theorem S_Pd (v:Int):S (W v) (W (v/18446744073709551616))=(v+170141183460469231731687303715884105728)%340282366920938463463374607431768211456-170141183460469231731687303715884105728:=by
 unfold S W;omega
theorem S_range {lo hi:Int}(h1:Cell lo)(h2:Cell hi): -170141183460469231731687303715884105728≤S lo hi∧S lo hi<170141183460469231731687303715884105728:=by
 unfold Cell at h1 h2;unfold S;omega
theorem fdiv_lit {n m:Int}(h:0≤m):Int.fdiv n m=n/m:=Int.fdiv_eq_ediv_of_nonneg _ h
theorem Of_eq {n:Int}(h:Cell n):dbl_Of n=Pd n:=by
 unfold dbl_Of Pd W
 unfold Cell at h
 rw[fdiv_lit (by decide)]
 refine Prod.ext ?_ ?_<;>simp only<;>omega
theorem Add_eq (v w:Int):dbl_Add (W v) (W (v/18446744073709551616)) (W w) (W (w/18446744073709551616))=some (Pd (v+w)):=by
 unfold dbl_Add dbl_Add_t
 simp only[wu,wi]
 rw[decide_eq_true (by omega),decide_eq_true (by omega)]
 simp only[cond_true]
 unfold Pd W
 congr 2<;>omega
theorem Add_S {a b c d:Int}(ha:Cell a)(hb:Cell b)(hc:Cell c)(hd:Cell d):dbl_Add a b c d=some (Pd (S a b+S c d)):=by
 have h:=Add_eq (S a b) (S c d)
 have e1:=Pd_S ha hb
 have e2:=Pd_S hc hd
 unfold Pd at e1 e2
 simp only[Prod.mk.injEq] at e1 e2
 rw[e1.1,e1.2,e2.1,e2.2] at h
 exact h
theorem xor_m1 {n:Int}(h:Cell n):ibits .xor .i64 (-1) n= -1-n:=by
 have e:(BitVec.ofInt 64 (-1)^^^BitVec.ofInt 64 n)= ~~~ (BitVec.ofInt 64 n):=by
  rw[show BitVec.ofInt 64 (-1)=BitVec.allOnes 64 from by decide,BitVec.allOnes_xor]
 rw[ibits_def]
 show IntKind.wrap .i64 (((BitVec.ofInt 64 (-1)^^^BitVec.ofInt 64 n).toNat:Nat):Int)=_
 rw[e,wi,BitVec.toNat_not,BitVec.toNat_ofInt]
 unfold Cell at h
 unfold W
 omega
theorem Neg_eq (v:Int):dbl_Neg (W v) (W (v/18446744073709551616))=some (Pd (-v)):=by
 unfold dbl_Neg dbl_Neg_t
 rw[xor_m1 (W_cell _),xor_m1 (W_cell _)]
 have h:=Add_eq (-1-v) 1
 rw[show W (-1-v)= -1-W v from by unfold W;omega,show W ((-1-v)/18446744073709551616)= -1-W (v/18446744073709551616) from by unfold W;omega,show W 1=1 from by decide,show W (1/18446744073709551616)=0 from by decide] at h
 rw[h]
 show some _=some _
 rw[show -1-v+1= -v from by omega]
end Go.Proofs.Dbl
/- Plain facts about doubles: products. -/
namespace Go.Proofs.Dbl
open Go Go.TX Go.Proofs
set_option maxRecDepth 100000
set_option maxHeartbeats 0
set_option linter.unusedVariables false
set_option linter.unusedSimpArgs false
theorem and_u64 {n m:Int}(h1:0≤n)(h2:n<18446744073709551616)(k:Nat)(hm:m=2^k-1)(hk:k<64):ibits .and .u64 n m=n%2^k:=by
 rw[ibits_def]
 show IntKind.wrap .u64 (((BitVec.ofInt 64 n&&&BitVec.ofInt 64 m).toNat:Nat):Int)=_
 have hk2:(2:Int)^k=((2^k:Nat):Int):=by norm_cast
 have hp:0<2^k:=Nat.two_pow_pos k
 have hlt:2^k<2^64:=Nat.pow_lt_pow_right (by decide) hk
 have e1:(BitVec.ofInt 64 m).toNat=2^k-1:=by
  rw[BitVec.toNat_ofInt,hm,hk2]
  have:((2:Nat)^64:Nat)=18446744073709551616:=by decide
  rw[this] at hlt⊢
  omega
 have e2:(BitVec.ofInt 64 n).toNat=n.toNat:=by
  rw[BitVec.toNat_ofInt]
  have:((2:Nat)^64:Nat)=18446744073709551616:=by decide
  rw[this]
  omega
 rw[BitVec.toNat_and,e1,e2,Nat.and_two_pow_sub_one_eq_mod,wu,hk2]
 have e3:((n.toNat%2^k:Nat):Int)=n%((2^k:Nat):Int):=by
  rw[Int.natCast_emod,Int.toNat_of_nonneg h1]
 rw[e3]
 have:=Int.emod_nonneg n (b:=((2^k:Nat):Int)) (by omega)
 have:=Int.emod_lt_of_pos n (b:=((2^k:Nat):Int)) (by omega)
 have h64:((2:Nat)^64:Nat)=18446744073709551616:=by decide
 omega
theorem mul64_eq {a b:Int}(ha:0≤a)(ha':a<18446744073709551616)(hb:0≤b)(hb':b<18446744073709551616):
  mul64 a b=((a*b)/18446744073709551616,(a*b)%18446744073709551616):=by
 unfold mul64
 simp only[wu,fdiv_lit (show(0:Int)≤4294967296 by decide)]
 have m0: ∀n:Int,0≤n→n<18446744073709551616→ibits .and .u64 n 4294967295=n%4294967296:=fun n h1 h2=>and_u64 h1 h2 32 (by decide) (by decide)
 rw[m0 a ha ha',m0 b hb hb']
 have ea:a=4294967296*(a/4294967296)+a%4294967296:=by omega
 have eb:b=4294967296*(b/4294967296)+b%4294967296:=by omega
 have ra0:0≤a%4294967296:=by omega
 have ra1:a%4294967296≤4294967295:=by omega
 have rb0:0≤b%4294967296:=by omega
 have rb1:b%4294967296≤4294967295:=by omega
 have qa0:0≤a/4294967296:=by omega
 have qa1:a/4294967296≤4294967295:=by omega
 have qb0:0≤b/4294967296:=by omega
 have qb1:b/4294967296≤4294967295:=by omega
 generalize hA1:a/4294967296=a1 at*
 generalize hA0:a%4294967296=a0 at*
 generalize hB1:b/4294967296=b1 at*
 generalize hB0:b%4294967296=b0 at*
 have bound: ∀{x y:Int},0≤x→x≤4294967295→0≤y→y≤4294967295→0≤x*y∧x*y≤18446744065119617025:=fun {x y} h1 h2 h3 h4=>
  ⟨Int.mul_nonneg h1 h3,by
   have:=Int.mul_le_mul h2 h4 h3 (by decide:(0:Int)≤4294967295)
   omega⟩
 have eab:a*b=18446744073709551616*(a1*b1)+4294967296*(a1*b0)+4294967296*(a0*b1)+a0*b0:=by
  rw[ea,eb,Int.mul_add,Int.add_mul,Int.add_mul]
  have e1:4294967296*a1*(4294967296*b1)=18446744073709551616*(a1*b1):=by
   rw[Int.mul_assoc,Int.mul_left_comm a1,← Int.mul_assoc];rfl
  have e2:4294967296*a1*b0=4294967296*(a1*b0):=Int.mul_assoc _ _ _
  have e3:a0*(4294967296*b1)=4294967296*(a0*b1):=Int.mul_left_comm _ _ _
  rw[e1,e2,e3]
  omega
 rw[eab]
 have p1:=bound qa0 qa1 qb0 qb1
 have p2:=bound qa0 qa1 rb0 rb1
 have p3:=bound ra0 ra1 qb0 qb1
 have p4:=bound ra0 ra1 rb0 rb1
 generalize a1*b1=x at*
 generalize a1*b0=y at*
 generalize a0*b1=z at*
 generalize a0*b0=w at*
 clear eab ea eb hA1 hA0 hB1 hB0 bound
 rw[m0 _ (by omega) (by omega)]
 refine Prod.ext ?_ ?_<;>simp only<;>omega
theorem UMul_eq (a b:Int):dbl_UMul a b=Pd (a%18446744073709551616*(b%18446744073709551616)):=by
 unfold dbl_UMul
 simp only[wu]
 rw[mul64_eq (by omega) (by omega) (by omega) (by omega)]
 unfold Pd
 simp only[wi,W_mod]
theorem Mul_eq {a b:Int}(ha:Cell a)(hb:Cell b):dbl_Mul a b=some (Pd (a*b)):=by
 unfold dbl_Mul dbl_Mul_t
 simp only[UMul_eq,wi]
 unfold Cell at ha hb
 have key: ∀(sa sb:Int),(sa=0∨sa=1)→(sb=0∨sb=1)→a%18446744073709551616=a+18446744073709551616*sa→b%18446744073709551616=b+18446744073709551616*sb→
   a%18446744073709551616*(b%18446744073709551616)=a*b+18446744073709551616*(sa*b+sb*a+18446744073709551616*(sa*sb)):=by
  intro sa sb h1 h2 e1 e2
  rw[e1,e2]
  rcases h1 with rfl|rfl<;>rcases h2 with rfl|rfl<;>simp only[Int.mul_zero,Int.zero_mul,Int.mul_one,Int.one_mul,Int.add_zero,Int.zero_add,Int.add_mul,Int.mul_add,Int.mul_comm b]<;>omega
 generalize hU:a%18446744073709551616*(b%18446744073709551616)=U at*
 generalize hP:a*b=p at*
 by_cases h1:a<0
 ·by_cases h2:b<0
  ·have:=key 1 1 (.inr rfl) (.inr rfl) (by omega) (by omega)
   simp only[decide_eq_true h1,decide_eq_true h2,cond_true]
   unfold Pd W;try simp only
   refine congrArg some (Prod.ext ?_ ?_)<;>(try simp only)<;>omega
  ·have:=key 1 0 (.inr rfl) (.inl rfl) (by omega) (by omega)
   simp only[decide_eq_true h1,decide_eq_false h2,cond_true,cond_false]
   unfold Pd W;try simp only
   refine congrArg some (Prod.ext ?_ ?_)<;>(try simp only)<;>omega
 ·by_cases h2:b<0
  ·have:=key 0 1 (.inl rfl) (.inr rfl) (by omega) (by omega)
   simp only[decide_eq_false h1,decide_eq_true h2,cond_true,cond_false]
   unfold Pd W;try simp only
   refine congrArg some (Prod.ext ?_ ?_)<;>(try simp only)<;>omega
  ·have:=key 0 0 (.inl rfl) (.inl rfl) (by omega) (by omega)
   simp only[decide_eq_false h1,decide_eq_false h2,cond_false]
   unfold Pd W;try simp only
   refine congrArg some (Prod.ext ?_ ?_)<;>(try simp only)<;>omega
end Go.Proofs.Dbl
/- Plain facts about doubles: long division. -/
namespace Go.Proofs.Dbl
open Go Go.TX Go.Proofs
set_option maxRecDepth 100000
set_option maxHeartbeats 0
set_option linter.unusedVariables false
set_option linter.unusedSimpArgs false
theorem or_bit_nat (x b:Nat)(hx:x%2=0)(hb:b<2):x|||b=x+b:=by
 have h:=Nat.two_pow_add_eq_or_of_lt (i:=1) (b:=b) (by omega) (x/2)
 have e:2^1*(x/2)=x:=by omega
 rw[e] at h
 exact h.symm
theorem or_u64 {x b:Int}(h0:0≤x)(h1:x<18446744073709551616)(hx:x%2=0)(hb:b=0∨b=1):ibits .or .u64 x b=x+b:=by
 rw[ibits_def]
 show IntKind.wrap .u64 (((BitVec.ofInt 64 x|||BitVec.ofInt 64 b).toNat:Nat):Int)=_
 rw[BitVec.toNat_or,BitVec.toNat_ofInt,BitVec.toNat_ofInt,show((2:Nat)^64:Nat)=18446744073709551616 from by decide,or_bit_nat _ _ (by omega) (by omega),wu]
 omega
theorem or_i64 {x b:Int}(hx:x%2=0)(hb:b%18446744073709551616=0∨b%18446744073709551616=1):ibits .or .i64 x b=W (x+b):=by
 rw[ibits_def]
 show IntKind.wrap .i64 (((BitVec.ofInt 64 x|||BitVec.ofInt 64 b).toNat:Nat):Int)=_
 rw[BitVec.toNat_or,BitVec.toNat_ofInt,BitVec.toNat_ofInt,show((2:Nat)^64:Nat)=18446744073709551616 from by decide,or_bit_nat _ _ (by omega) (by omega),wi]
 unfold W
 omega
theorem and1 {n:Int}(h1:0≤n)(h2:n<18446744073709551616):ibits .and .u64 n 1=n%2:=and_u64 h1 h2 1 (by decide) (by decide)
def D (lo hi:Int):Int:=lo%18446744073709551616+18446744073709551616*(hi%18446744073709551616)
theorem D_range (lo hi:Int):0≤D lo hi∧D lo hi<340282366920938463463374607431768211456:=by unfold D;omega
theorem p64:(2:Int)^64=18446744073709551616:=by decide
theorem bit_lo (lo hi:Int)(n:Nat)(hn:n<64):(lo%18446744073709551616/2^n)%2=(D lo hi/2^n)%2:=by
 unfold D
 have hp:(0:Int)<2^n:=Int.pow_pos (by decide)
 have e:(18446744073709551616:Int)=2^n*(2*2^(63-n)):=by
  rw[← p64,show(64:Nat)=n+(1+(63-n)) from by omega,Int.pow_add,Int.pow_add];rfl
 generalize hl:lo%18446744073709551616=l
 generalize hh:hi%18446744073709551616=h
 rw[e,Int.mul_assoc,Int.add_mul_ediv_left _ _ (by omega),Int.mul_assoc]
 omega
theorem bit_hi (lo hi:Int)(n:Nat)(hn:64≤n):hi%18446744073709551616/2^(n-64)=D lo hi/2^n:=by
 unfold D
 have e:(2:Int)^n=18446744073709551616*2^(n-64):=by
  rw[← p64,← Int.pow_add,show 64+(n-64)=n from by omega]
 rw[e,← Int.ediv_ediv_of_nonneg (by decide)]
 have:(lo%18446744073709551616+18446744073709551616*(hi%18446744073709551616))/18446744073709551616=hi%18446744073709551616:=by omega
 rw[this]
theorem bit_eq (lo hi:Int)(n:Nat)(hn:n<128):
  ibits .and .u64 (Int.fdiv ((if (n:Int)≥64 then hi else lo)%18446744073709551616) ((2:Int)^min (Int.toNat ((Int.tmod (n:Int) 64)%18446744073709551616)) 64)) 1=(D lo hi/2^n)%2:=by
 rw[Int.tmod_eq_emod_of_nonneg (by omega)]
 have e:min (Int.toNat (((n:Int)%64)%18446744073709551616)) 64=n%64:=by omega
 rw[e,Int.fdiv_eq_ediv_of_nonneg _ (Int.le_of_lt (Int.pow_pos (by decide)))]
 have hp:(0:Int)<2^(n%64):=Int.pow_pos (by decide)
 have r: ∀x:Int,0≤x%18446744073709551616/2^(n%64)∧x%18446744073709551616/2^(n%64)<18446744073709551616:=fun x=>by
  have h0:0≤x%18446744073709551616:=by omega
  exact⟨Int.ediv_nonneg h0 (by omega),Int.lt_of_le_of_lt (Int.ediv_le_self _ h0) (by omega)⟩
 by_cases h:(n:Int)≥64
 ·rw[if_pos h,and1 (r hi).1 (r hi).2,show n%64=n-64 from by omega,bit_hi lo hi n (by omega)]
 ·rw[if_neg h,and1 (r lo).1 (r lo).2,show n%64=n from by omega,bit_lo lo hi n (by omega)]
theorem M2_eq (s lo hi:Int):dbl_long_M2 s lo hi=some (if s≥64 then hi else lo):=by
 unfold dbl_long_M2 dbl_long_M2_t
 by_cases h:s≥64<;>simp[h]
theorem step_div {X B b:Int}(hB:0<B)(hX:0≤X)(hb:b=0∨b=1):
  (2*(X%B)+b≥B→(2*X+b)%B=2*(X%B)+b-B∧(2*X+b)/B=2*(X/B)+1)∧
  (2*(X%B)+b<B→(2*X+b)%B=2*(X%B)+b∧(2*X+b)/B=2*(X/B)):=by
 have h1:=Int.emod_nonneg X (b:=B) (by omega)
 have h2:=Int.emod_lt_of_pos X hB
 have e:X=B*(X/B)+X%B:=(Int.mul_ediv_add_emod X B).symm
 generalize hr:X%B=r at*
 generalize hq:X/B=q at*
 have u: ∀{y k:Int},2*X+b=y+B*k→0≤y→y<B→(2*X+b)%B=y∧(2*X+b)/B=k:=by
  intro y k hy h3 h4
  rw[hy]
  exact⟨by rw[Int.add_mul_emod_self_left,Int.emod_eq_of_lt h3 h4],by rw[Int.add_mul_ediv_left _ _ (by omega),Int.ediv_eq_zero_of_lt h3 h4,Int.zero_add]⟩
 have e2:B*(2*q+1)=2*(B*q)+B:=by rw[Int.mul_add,Int.mul_left_comm];omega
 have e3:B*(2*q)=2*(B*q):=Int.mul_left_comm _ _ _
 constructor
 ·intro h
  exact u (by omega) (by omega) (by omega)
 ·intro h
  exact u (by omega) (by omega) (by omega)
theorem long_pass {lo hi B p0 p1:Int}(hB:0<B)(hB':B<18446744073709551616)(n:Nat)(hn:n<127):
  dbl_long_L1_pass (D lo hi/2^(n+1)%B,B,(n:Int),lo,hi,p0,p1,W (D lo hi/2^(n+1)/B),W (D lo hi/2^(n+1)/B/18446744073709551616))=
   if n=0 then some (.inr (W (D lo hi/2^n%B),W (D lo hi/2^n/B),W (D lo hi/2^n/B/18446744073709551616)))
   else some (.inl (D lo hi/2^n%B,B,(n:Int)-1,lo,hi,p0,p1,W (D lo hi/2^n/B),W (D lo hi/2^n/B/18446744073709551616))):=by
 have hb:=bit_eq lo hi n (by omega)
 have hY:D lo hi/2^n=2*(D lo hi/2^(n+1))+(D lo hi/2^n)%2:=by
  have:D lo hi/2^(n+1)=D lo hi/2^n/2:=by rw[Int.ediv_ediv_of_nonneg (Int.le_of_lt (Int.pow_pos (by decide))),Int.pow_succ]
  rw[this];omega
 have hX0:0≤D lo hi/2^(n+1):=Int.ediv_nonneg (D_range lo hi).1 (Int.le_of_lt (Int.pow_pos (by decide)))
 have hX1:D lo hi/2^(n+1)<170141183460469231731687303715884105728:=by
  have h1:D lo hi/2^(n+1)=D lo hi/2/2^n:=by rw[Int.ediv_ediv_of_nonneg (by decide),Int.pow_succ,Int.mul_comm]
  rw[h1]
  have h2:=(D_range lo hi)
  exact Int.lt_of_le_of_lt (Int.ediv_le_self _ (by omega)) (by omega)
 generalize D lo hi/2^(n+1)=X at*
 generalize hb':D lo hi/2^n%2=b at*
 have hb01:b=0∨b=1:=by omega
 rw[hY]
 clear hY hb'
 have hR0:=Int.emod_nonneg X (b:=B) (by omega)
 have hR1:=Int.emod_lt_of_pos X hB
 have hQ0:0≤X/B:=Int.ediv_nonneg hX0 (by omega)
 have hQ1:X/B<170141183460469231731687303715884105728:=Int.lt_of_le_of_lt (Int.ediv_le_self _ hX0) hX1
 obtain⟨s1,s2⟩:=step_div hB hX0 hb01
 generalize X%B=R at*
 generalize X/B=Q at*
 unfold dbl_long_L1_pass dbl_long_L1_t
 simp only[M2_eq,outOf_some,wi,wu]
 have z: ¬(Int.tmod (n:Int) 64%18446744073709551616<0):=by omega
 rw[decide_eq_false z]
 simp only[cond_false,hb]
 rw[or_u64 (x:=R*2%18446744073709551616) (by omega) (by omega) (by omega) hb01,fdiv_lit (by decide:(0:Int)≤9223372036854775808),fdiv_lit (by decide:(0:Int)≤9223372036854775808)]
 rw[or_i64 (x:=W (W Q*2)) (b:=1) (by unfold W;omega) (by decide),or_i64 (x:=W (W (Q/18446744073709551616)*2)) (by unfold W;omega) (by unfold W;omega)]
 have eAt:W ((n:Int)-1)=(n:Int)-1:=by unfold W;omega
 rw[eAt]
 have qlo0:W (W Q*2)=W (2*Q):=by unfold W;omega
 have qlo1:W (W (W Q*2)+1)=W (2*Q+1):=by unfold W;omega
 have qhi0:W (W (W (Q/18446744073709551616)*2)+W (W Q%18446744073709551616/9223372036854775808))=W (2*Q/18446744073709551616):=by unfold W;omega
 have qhi1:W (2*Q/18446744073709551616)=W ((2*Q+1)/18446744073709551616):=by unfold W;omega
 rw[qlo0,qhi0,show W (W (2*Q)+1)=W (2*Q+1) from by unfold W;omega]
 by_cases hn0:n=0
 ·have hn1: ¬((n:Int)-1≥0):=by omega
  rw[if_pos hn0,decide_eq_false hn1]
  simp only[cond_false]
  by_cases hge:2*R+b≥B
  ·obtain⟨g1,g2⟩:=s1 hge
   rw[g1,g2,← qhi1]
   by_cases ht:R/9223372036854775808=1
   ·rw[show(R/9223372036854775808==1)=true from by rw[ht];rfl]
    simp only[cond_true]
    congr 3
    unfold W;omega
   ·rw[show(R/9223372036854775808==1)=false from beq_eq_false_iff_ne.2 ht,decide_eq_true (by omega)]
    simp only[cond_true,cond_false]
    congr 3
    unfold W;omega
  ·obtain⟨g1,g2⟩:=s2 (by omega)
   rw[g1,g2,show(R/9223372036854775808==1)=false from beq_eq_false_iff_ne.2 (by omega),decide_eq_false (by omega)]
   simp only[cond_false]
   congr 3
   unfold W;omega
 ·have hn1:((n:Int)-1≥0):=by omega
  rw[if_neg hn0,decide_eq_true hn1]
  simp only[cond_true]
  by_cases hge:2*R+b≥B
  ·obtain⟨g1,g2⟩:=s1 hge
   rw[g1,g2,← qhi1]
   by_cases ht:R/9223372036854775808=1
   ·rw[show(R/9223372036854775808==1)=true from by rw[ht];rfl]
    simp only[cond_true]
    congr 3
    omega
   ·rw[show(R/9223372036854775808==1)=false from beq_eq_false_iff_ne.2 ht,decide_eq_true (by omega)]
    simp only[cond_true,cond_false]
    congr 3
    omega
  ·obtain⟨g1,g2⟩:=s2 (by omega)
   rw[g1,g2,show(R/9223372036854775808==1)=false from beq_eq_false_iff_ne.2 (by omega),decide_eq_false (by omega)]
   simp only[cond_false]
   congr 3
   omega
theorem long_iter {lo hi B p0 p1:Int}(hB:0<B)(hB':B<18446744073709551616): ∀(n:Nat),n<127→
  iter dbl_long_L1_pass (n+1) (D lo hi/2^(n+1)%B,B,(n:Int),lo,hi,p0,p1,W (D lo hi/2^(n+1)/B),W (D lo hi/2^(n+1)/B/18446744073709551616))=
   some (W (D lo hi%B),W (D lo hi/B),W (D lo hi/B/18446744073709551616))
 |0,hn=>by
  unfold iter
  rw[long_pass hB hB' 0 hn,if_pos rfl]
  simp only[Int.pow_zero,Int.ediv_one]
 |n+1,hn=>by
  unfold iter
  rw[long_pass hB hB' (n+1) hn,if_neg (by omega)]
  have:=long_iter hB hB' (lo:=lo) (hi:=hi) (p0:=p0) (p1:=p1) n (by omega)
  simp only
  rw[show((n+1:Nat):Int)-1=(n:Int) from by omega]
  exact this
theorem long_eq {lo hi u:Int}(hu:u%18446744073709551616≠0):
  dbl_long lo hi u=some (W (D lo hi%(u%18446744073709551616)),W (D lo hi/(u%18446744073709551616)),W (D lo hi/(u%18446744073709551616)/18446744073709551616)):=by
 have hB:0<u%18446744073709551616:=by omega
 have hB':u%18446744073709551616<18446744073709551616:=by omega
 have hb:=bit_eq lo hi 127 (by decide)
 have hb2:(D lo hi/2^127)%2=D lo hi/2^127:=by have:=D_range lo hi;omega
 rw[if_pos (by decide),hb2] at hb
 have hb3:ibits .and .u64 (Int.fdiv (hi%18446744073709551616) 9223372036854775808) 1=D lo hi/2^127:=hb
 have hb4:ibits .and .u64 (Int.fdiv (hi%18446744073709551616) ((2:Int)^min (Int.toNat (Int.tmod 127 64%18446744073709551616)) 64)) 1=D lo hi/2^127:=hb
 have hb01:D lo hi/2^127=0∨D lo hi/2^127=1:=by omega
 have hi_:=fun(p0 p1:Int)=>runs_of (long_iter (lo:=lo) (hi:=hi) (p0:=p0) (p1:=p1) hB hB' 126 (by decide))
 unfold dbl_long dbl_long_t dbl_long_L1
 simp only[wu,hb3,hb4]
 generalize u%18446744073709551616=B at*
 rw[or_u64 (by decide) (by decide) (by decide) hb01,Int.zero_add]
 have e126:((126:Nat):Int)=126:=rfl
 simp only[show 126+1=127 from rfl,e126] at hi_
 generalize hbb:D lo hi/2^127=b at*
 by_cases hge:b≥B
 ·have hB1:B=1:=by omega
  have hb1:b=1:=by omega
  subst hB1
  rw[decide_eq_true hge]
  simp only[cond_true]
  have h:=hi_ 0 0
  rw[hb1,show(1:Int)%1=0 from rfl,show(1:Int)/1=1 from rfl,show W 1=1 from by decide,show W (1/18446744073709551616)=0 from by decide] at h
  rw[hb1,show((1:Int)-1)%18446744073709551616=0 from by decide,show ibits BinOp.or IntKind.i64 0 1=1 from by rw[ibits_def];decide,show ibits BinOp.or IntKind.i64 0 0=0 from by rw[ibits_def];decide]
  exact(congrArg (fun r=>outOf r _) h).trans rfl
 ·rw[decide_eq_false hge]
  simp only[cond_false]
  have h:=hi_ 0 0
  have h1:b%B=b:=Int.emod_eq_of_lt (by omega) (by omega)
  have h2:b/B=0:=Int.ediv_eq_zero_of_lt (by omega) (by omega)
  rw[h1,h2,show W 0=0 from by decide,show W (0/18446744073709551616)=0 from by decide] at h
  rw[show ibits BinOp.or IntKind.i64 0 0=0 from by rw[ibits_def];decide]
  exact(congrArg (fun r=>outOf r _) h).trans rfl
end Go.Proofs.Dbl
/- Plain facts about doubles: quotients. -/
namespace Go.Proofs.Dbl
open Go Go.TX Go.Proofs
set_option maxRecDepth 100000
set_option maxHeartbeats 0
set_option linter.unusedVariables false
set_option linter.unusedSimpArgs false
theorem xor_neg {a b:Int}(ha:Cell a)(hb:Cell b):ibits .xor .i64 a b<0↔((a<0)≠(b<0)):=by
 rw[ibits_def]
 show IntKind.wrap .i64 (((BitVec.ofInt 64 a^^^BitVec.ofInt 64 b).toNat:Nat):Int)<0↔_
 have m: ∀x:Int,Cell x→(BitVec.ofInt 64 x).msb=decide (x<0):=fun x hx=>by
  rw[BitVec.msb_eq_decide,BitVec.toNat_ofInt,show((2:Nat)^64:Nat)=18446744073709551616 from by decide,show(2:Nat)^(64-1)=9223372036854775808 from by decide]
  unfold Cell at hx
  by_cases h:x<0
  ·rw[decide_eq_true h,decide_eq_true (by omega)]
  ·rw[decide_eq_false h,decide_eq_false (by omega)]
 have h:=BitVec.msb_xor (x:=BitVec.ofInt 64 a) (y:=BitVec.ofInt 64 b)
 rw[m a ha,m b hb,BitVec.msb_eq_decide,show(2:Nat)^(64-1)=9223372036854775808 from by decide] at h
 have hlt:=(BitVec.ofInt 64 a^^^BitVec.ofInt 64 b).isLt
 rw[show((2:Nat)^64:Nat)=18446744073709551616 from by decide] at hlt
 generalize (BitVec.ofInt 64 a^^^BitVec.ofInt 64 b).toNat=x at*
 rw[wi]
 have e:W (x:Int)<0↔9223372036854775808≤x:=by unfold W;omega
 rw[e]
 have h2:decide (9223372036854775808≤x)=true↔((decide (a<0)) ^^ (decide (b<0)))=true:=by rw[h]
 simp only[decide_eq_true_eq] at h2
 rw[h2]
 by_cases h3:a<0<;>by_cases h4:b<0<;>simp[h3,h4]
instance (x:Int):Decidable (Cell x):=by unfold Cell;infer_instance
theorem D_Pd {v:Int}(h0:0≤v)(h1:v<340282366920938463463374607431768211456):D (W v) (W (v/18446744073709551616))=v:=by
 unfold D W;omega
theorem abs_eq {lo hi:Int}(h1:Cell lo)(h2:Cell hi):dbl_abs lo hi=some (Pd (if hi<0 then -S lo hi else S lo hi)):=by
 have e:=Pd_S h1 h2
 have e':=e
 unfold Pd at e'
 simp only[Prod.mk.injEq] at e'
 have hn:=Neg_eq (S lo hi)
 rw[e'.1,e'.2] at hn
 unfold dbl_abs dbl_abs_t
 by_cases h:hi<0
 ·rw[decide_eq_true h,if_pos h]
  simp only[cond_true,hn,outOf_some]
 ·rw[decide_eq_false h,if_neg h]
  simp only[cond_false,e]
theorem split_eq {lo hi n:Int}(h1:Cell lo)(h2:Cell hi)(hn:Cell n)(h0:n≠0):
  dbl_split lo hi n=some ((S lo hi).tmod n,W ((S lo hi).tdiv n),W ((S lo hi).tdiv n/18446744073709551616),
   decide ((hi<0)≠(n<0))||decide ((S lo hi).tdiv n<170141183460469231731687303715884105728)):=by
 have hS:=S_range h1 h2
 have hSs:S lo hi<0↔hi<0:=by unfold S;omega
 have hn':=hn
 unfold Cell at hn'
 
 generalize hA:(if hi<0 then -S lo hi else S lo hi)=A
 generalize hB:(if n<0 then -n else n)=B
 have hA0:0≤A:=by subst hA;split<;>omega
 have hA1:A≤170141183460469231731687303715884105728:=by subst hA;split<;>omega
 have hB0:0<B:=by subst hB;split<;>omega
 have hB1:B≤9223372036854775808:=by subst hB;split<;>omega
 have hr0:=Int.emod_nonneg A (b:=B) (by omega)
 have hr1:=Int.emod_lt_of_pos A hB0
 have hq0:0≤A/B:=Int.ediv_nonneg hA0 (by omega)
 have hq1:A/B≤170141183460469231731687303715884105728:=Int.le_trans (Int.ediv_le_self _ hA0) hA1
 have qd:(S lo hi).tdiv n=if (hi<0)≠(n<0) then -(A/B) else A/B:=by
  subst hA hB
  by_cases g1:hi<0<;>by_cases g2:n<0<;>simp only[g1,g2,if_true,if_false,ne_eq,not_true_eq_false,not_false_eq_true,true_iff,false_iff,eq_self_iff_true,eq_iff_iff,iff_self,iff_true,iff_false]<;>
   rw[← Int.tdiv_eq_ediv_of_nonneg (by omega)]<;>simp only[Int.neg_tdiv,Int.tdiv_neg,Int.neg_neg]
 have rd:(S lo hi).tmod n=if hi<0 then -(A%B) else A%B:=by
  subst hA hB
  by_cases g1:hi<0<;>by_cases g2:n<0<;>simp only[g1,g2,if_true,if_false]<;>
   rw[← Int.tmod_eq_emod_of_nonneg (by omega)]<;>simp only[Int.neg_tmod,Int.tmod_neg,Int.neg_neg]
 have eU:(if n<0 then W (0-n) else n)%18446744073709551616=B:=by
  subst hB;unfold W;split<;>omega
 unfold dbl_split dbl_split_t
 have m1:dbl_split_M1 n n=some (if n<0 then W (0-n) else n):=by
  unfold dbl_split_M1 dbl_split_M1_t
  rw[wi]
  by_cases h:n<0<;>simp[h]
 have m2: ∀x,dbl_split_M2 x hi=some (if hi<0 then W (0-x) else x):=fun x=>by
  unfold dbl_split_M2 dbl_split_M2_t
  rw[wi]
  by_cases h:hi<0<;>simp[h]
 rw[m1,abs_eq h1 h2,hA]
 simp only[outOf_some]
 rw[long_eq (by rw[eU];omega),eU]
 simp only[outOf_some,m2]
 rw[show D (Pd A).fst (Pd A).snd=A from D_Pd hA0 (by omega),Neg_eq]
 have er:(if hi<0 then W (0-W (A%B)) else W (A%B))=(S lo hi).tmod n:=by
  rw[rd];unfold W;split<;>omega
 rw[er,qd]
 by_cases g:(hi<0)≠(n<0)
 ·rw[decide_eq_true ((xor_neg h2 hn).2 g),if_pos g,decide_eq_true g]
  simp only[cond_true,outOf_some,Bool.true_or]
  rfl
 ·rw[decide_eq_false (fun h=>g ((xor_neg h2 hn).1 h)),if_neg g,decide_eq_false g]
  simp only[cond_false,Bool.false_or]
  congr 4
  rw[decide_eq_decide]
  unfold W;omega
theorem fits_eq {r v:Int}{ok:Bool}(hv: -170141183460469231731687303715884105729≤v∧v≤170141183460469231731687303715884105728)(hok:Cell v→ok=true):
  dbl_fits r (W v) (W (v/18446744073709551616)) ok=some (if Cell v then (r,v,0) else (0,0, -11)):=by
 unfold dbl_fits dbl_fits_t
 rw[Of_eq (W_cell v)]
 by_cases h:Cell v
 ·rw[hok h,if_pos h,W_of h,show(Pd v).fst=v from W_of h,show(Pd v).snd=W (v/18446744073709551616) from rfl]
  simp
 ·rw[if_neg h]
  cases ok
  ·rfl
  ·have: ¬(W (v/18446744073709551616)=(Pd (W v)).snd):=by
    unfold Cell at h
    unfold Pd W;try simp only
    omega
   simp[beq_eq_false_iff_ne.2 this]
theorem tdiv_range {v n:Int}(h1: -170141183460469231731687303715884105728≤v∧v≤170141183460469231731687303715884105728): -170141183460469231731687303715884105728≤v.tdiv n∧v.tdiv n≤170141183460469231731687303715884105728:=by
 have h:=Int.natAbs_tdiv_le_natAbs v n
 omega
theorem Symm_eq {lo hi n:Int}(h1:Cell lo)(h2:Cell hi)(hn:Cell n):
  dbl_Symm lo hi n=some (if n=0 then (0,0, -10) else if Cell ((S lo hi).tdiv n) then ((S lo hi).tmod n,(S lo hi).tdiv n,0) else (0,0, -11)):=by
 unfold dbl_Symm dbl_Symm_t
 by_cases h0:n=0
 ·subst h0;rfl
 ·rw[beq_eq_false_iff_ne.2 h0,if_neg h0,split_eq h1 h2 hn h0]
  have hS:=S_range h1 h2
  simp only[cond_false,outOf_some]
  rw[fits_eq (by have:=tdiv_range (v:=S lo hi) (n:=n) (by omega);omega) (fun h=>by
   rw[Bool.or_eq_true];right;unfold Cell at h;exact decide_eq_true (by omega))]
  rfl
theorem fdiv_of_tdiv {S n hi:Int}(h0:n≠0)(hs:S<0↔hi<0):S.fdiv n=(if S.tmod n≠0∧((hi<0)≠(n<0)) then S.tdiv n-1 else S.tdiv n)∧S.fmod n=(if S.tmod n≠0∧((hi<0)≠(n<0)) then S.tmod n+n else S.tmod n):=by
 have key:S.fdiv n=(if S.tmod n≠0∧((hi<0)≠(n<0)) then S.tdiv n-1 else S.tdiv n):=by
  rw[Int.fdiv_eq_tdiv]
  by_cases hd:n∣S
  ·rw[if_pos hd,if_neg (fun h=>h.1 (Int.tmod_eq_zero_of_dvd hd))];omega
  ·rw[if_neg hd]
   have hr:S.tmod n≠0:=fun h=>hd (Int.dvd_of_tmod_eq_zero h)
   by_cases g1:S<0
   ·rw[if_neg (by omega)]
    have g1':=hs.1 g1
    by_cases g2:n<0
    ·rw[if_neg (by omega),if_neg (by simp[g1',g2]),Int.sign_eq_neg_one_of_neg g2];omega
    ·rw[if_pos (by omega),if_pos ⟨hr,by simp[g1',g2]⟩,Int.sign_eq_one_of_pos (by omega)]
   ·rw[if_pos (by omega)]
    have g1': ¬hi<0:=fun h=>g1 (hs.2 h)
    by_cases g2:n<0
    ·rw[if_neg (by omega),if_pos ⟨hr,by simp[g1',g2]⟩]
    ·rw[if_pos (by omega),if_neg (by simp[g1',g2])];omega
 refine⟨key, ?_⟩
 have e:=Int.mul_tdiv_add_tmod S n
 rw[Int.fmod_def,key]
 split
 ·rw[Int.mul_sub,Int.mul_one];omega
 ·omega
theorem Floor_eq {lo hi n:Int}(h1:Cell lo)(h2:Cell hi)(hn:Cell n):
  dbl_Floor lo hi n=some (if n=0 then (0,0, -10) else if Cell ((S lo hi).fdiv n) then ((S lo hi).fmod n,(S lo hi).fdiv n,0) else (0,0, -11)):=by
 unfold dbl_Floor dbl_Floor_t
 by_cases h0:n=0
 ·subst h0;rfl
 ·rw[beq_eq_false_iff_ne.2 h0,if_neg h0,split_eq h1 h2 hn h0]
  have hS:=S_range h1 h2
  have hSs:S lo hi<0↔hi<0:=by unfold S;omega
  obtain⟨e1,e2⟩:=fdiv_of_tdiv (S:=S lo hi) h0 hSs
  have hr:=tdiv_range (v:=S lo hi) (n:=n) (by omega)
  simp only[cond_false,outOf_some]
  have m1:dbl_Floor_M1 n ((S lo hi).tmod n) hi=some (decide ((S lo hi).tmod n≠0∧((hi<0)≠(n<0)))):=by
   unfold dbl_Floor_M1 dbl_Floor_M1_t
   by_cases g:(S lo hi).tmod n=0
   ·simp[g]
   ·rw[show((S lo hi).tmod n != 0)=true from by simp[g]]
    simp only[cond_true]
    congr 1
    rw[decide_eq_decide,xor_neg h2 hn]
    simp[g]
  have m2:dbl_Floor_M2 n ((S lo hi).tmod n) hi (W ((S lo hi).tdiv n)) (W ((S lo hi).tdiv n/18446744073709551616))=some ((S lo hi).fmod n,W ((S lo hi).fdiv n),W ((S lo hi).fdiv n/18446744073709551616)):=by
   unfold dbl_Floor_M2 dbl_Floor_M2_t
   rw[m1]
   simp only[outOf_some]
   by_cases g:(S lo hi).tmod n≠0∧((hi<0)≠(n<0))
   ·rw[decide_eq_true g]
    have ha:=Add_eq ((S lo hi).tdiv n) (-1)
    rw[show W (-1)= -1 from by decide,show W (-1/18446744073709551616)= -1 from by decide] at ha
    simp only[cond_true,ha,outOf_some]
    rw[e1,e2,if_pos g,if_pos g,wi]
    have b1:Cell ((S lo hi).tmod n+n):=by
     have h3:=Int.natAbs_tmod (S lo hi) n
     have h4:=Nat.mod_lt (S lo hi).natAbs (y:=n.natAbs) (by omega)
     have h5:0≤S lo hi→0≤(S lo hi).tmod n:=Int.tmod_nonneg n
     have h6:S lo hi<0→(S lo hi).tmod n≤0:=fun h=>by
      have h7:=Int.tmod_nonneg n (a:= -S lo hi) (by omega)
      rw[Int.neg_tmod] at h7;omega
     have h8:=g.2
     unfold Cell at hn⊢
     by_cases g1:hi<0
     ·have g2: ¬n<0:=fun h=>h8 (by simp[g1,h])
      have:=h6 (hSs.2 g1)
      omega
     ·have g2:n<0:=Classical.byContradiction fun h=>h8 (by simp[g1,h])
      have:=h5 (by omega)
      omega
    rw[W_of b1]
    rfl
   ·rw[decide_eq_false g,e1,e2,if_neg g,if_neg g]
    rfl
  rw[m2]
  simp only[outOf_some]
  rw[fits_eq (by rw[e1];split<;>omega) (fun h=>by
   rw[Bool.or_eq_true]
   by_cases g:(hi<0)≠(n<0)
   ·left;exact decide_eq_true g
   ·right
    rw[e1,if_neg (fun h=>g h.2)] at h
    unfold Cell at h
    exact decide_eq_true (by omega))]
  rfl
end Go.Proofs.Dbl
/- Plain facts about doubles and cells: what is divided. -/
namespace Go.Proofs.Dbl
open Go Go.TX Go.Proofs
set_option maxRecDepth 100000
set_option maxHeartbeats 0
set_option linter.unusedVariables false
set_option linter.unusedSimpArgs false
theorem S_of {v:Int}(h: -170141183460469231731687303715884105728≤v∧v<170141183460469231731687303715884105728):S (Pd v).1 (Pd v).2=v:=by
 have:=S_Pd v
 show S (W v) (W (v/18446744073709551616))=v
 omega
theorem mul_range {a b:Int}(ha:Cell a)(hb:Cell b): -170141183460469231731687303715884105728≤a*b∧a*b<170141183460469231731687303715884105728:=by
 unfold Cell at ha hb
 have h1:(a*b).natAbs=a.natAbs*b.natAbs:=Int.natAbs_mul a b
 have h2:a.natAbs*b.natAbs≤9223372036854775808*9223372036854775808:=Nat.mul_le_mul (by omega) (by omega)
 omega
theorem tdiv_cell {a b:Int}(ha:Cell a)(hb:Cell b)(h: ¬(b= -1∧a= -9223372036854775808)):Cell (a.tdiv b):=by
 unfold Cell at*
 have h1:=Int.natAbs_tdiv_le_natAbs a b
 by_cases g:a.tdiv b=9223372036854775808
 ·exfalso
  have h2:=Int.mul_tdiv_add_tmod a b
  rw[g] at h2
  have h3:=Int.natAbs_tmod a b
  by_cases hb0:b=0
  ·subst hb0;rw[Int.tdiv_zero] at g;omega
  ·have h4:=Nat.mod_lt a.natAbs (y:=b.natAbs) (by omega)
   omega
 ·omega
theorem cSymm_eq {a b:Int}(ha:Cell a)(hb:Cell b):cell_Symm a b=some (if b=0 then (0,0, -10) else if b= -1∧a= -9223372036854775808 then (0,0, -11) else (a.tdiv b,a.tmod b,0)):=by
 unfold cell_Symm cell_Symm_t
 by_cases h0:b=0
 ·subst h0;rfl
 ·rw[beq_eq_false_iff_ne.2 h0,if_neg h0,decide_eq_false h0,wi]
  simp only[cond_false]
  by_cases h1:b= -1
  ·rw[show(b== -1)=true from by rw[h1];rfl]
   by_cases h2:a= -9223372036854775808
   ·rw[show(a== -9223372036854775808)=true from by rw[h2];rfl,if_pos ⟨h1,h2⟩];rfl
   ·rw[beq_eq_false_iff_ne.2 h2,if_neg (fun h=>h2 h.2),W_of (tdiv_cell ha hb (fun h=>h2 h.2))];rfl
  ·rw[beq_eq_false_iff_ne.2 h1,if_neg (fun h=>h1 h.1),W_of (tdiv_cell ha hb (fun h=>h1 h.1))];rfl
theorem tmod_facts (a b:Int)(hb:b≠0):(a.tmod b).natAbs<b.natAbs∧(0≤a→0≤a.tmod b)∧(a<0→a.tmod b≤0):=by
 have h3:=Int.natAbs_tmod a b
 have h4:=Nat.mod_lt a.natAbs (y:=b.natAbs) (by omega)
 refine⟨by omega,Int.tmod_nonneg b,fun h=> ?_⟩
 have h7:=Int.tmod_nonneg b (a:= -a) (by omega)
 rw[Int.neg_tmod] at h7;omega
theorem cFloor_eq {a b:Int}(ha:Cell a)(hb:Cell b):cell_Floor a b=some (if b=0 then (0,0, -10) else if b= -1∧a= -9223372036854775808 then (0,0, -11) else (a.fdiv b,a.fmod b,0)):=by
 unfold cell_Floor cell_Floor_t
 rw[cSymm_eq ha hb]
 simp only[outOf_some]
 by_cases h0:b=0
 ·subst h0;rfl
 ·rw[if_neg h0,if_neg h0]
  by_cases h1:b= -1∧a= -9223372036854775808
  ·rw[if_pos h1,if_pos h1];rfl
  ·rw[if_neg h1,if_neg h1]
   simp only
   obtain⟨e1,e2⟩:=fdiv_of_tdiv (S:=a) (hi:=a) h0 Iff.rfl
   obtain⟨f1,f2,f3⟩:=tmod_facts a b h0
   have hq:=tdiv_cell ha hb h1
   have hqr:=Int.mul_tdiv_add_tmod a b
   have hr:Cell (a.tmod b):=by unfold Cell at *; omega
   rw[e1,e2]
   by_cases g:a.tmod b=0
   ·rw[show(a.tmod b != 0)=false from by simp[g],if_neg (fun h=>h.1 g),if_neg (fun h=>h.1 g)];rfl
   ·rw[show(a.tmod b != 0)=true from by simp[g]]
    have hx:(ibits .xor .i64 (a.tmod b) b<0)↔((a<0)≠(b<0)):=by
     rw[xor_neg hr hb]
     have:(a.tmod b<0)↔(a<0):=by
      constructor
      ·intro h;exact Classical.byContradiction fun h'=>by have:=f2 (by omega);omega
      ·intro h;have:=f3 h;omega
     rw[this]
    by_cases g2:(a<0)≠(b<0)
    ·rw[decide_eq_true (hx.2 g2),if_pos ⟨g,g2⟩,if_pos ⟨g,g2⟩,wi,wi]
     simp only[cond_true]
     have c1:W (a.tmod b+b)=a.tmod b+b:=W_of (by
      unfold Cell at*
      by_cases g3:a<0
      ·have:=f3 g3
       have: ¬b<0:=fun h=>g2 (by simp[g3,h])
       omega
      ·have:=f2 (by omega)
       have:b<0:=Classical.byContradiction fun h=>g2 (by simp[g3,h])
       omega)
     have c2:W (a.tdiv b-1)=a.tdiv b-1:=by
      refine W_of ?_
      have:=Int.natAbs_tdiv a b
      have hb2:b≠1:=fun h=>g (by rw[h,Int.tmod_one])
      have hb3:b≠ -1:=fun h=>g (by rw[h,Int.tmod_neg,Int.tmod_one])
      have h6:a.natAbs/b.natAbs≤a.natAbs/2:=Nat.div_le_div_left (by omega) (by omega)
      unfold Cell at*
      have h7:(a.tdiv b).natAbs=a.natAbs/b.natAbs:=this
      omega
     rw[c1,c2]
    ·rw[decide_eq_false (fun h=>g2 (hx.1 h)),if_neg (fun h=>g2 h.2),if_neg (fun h=>g2 h.2)];rfl
theorem UMod_eq {lo hi u:Int}(h1:Cell lo)(h2:Cell hi)(hu:Cell u):
  dbl_UMod lo hi u=some (if u=0 then (0,0, -10) else if hi%18446744073709551616<u%18446744073709551616 then (W (D lo hi%(u%18446744073709551616)),W (D lo hi/(u%18446744073709551616)),0) else (0,0, -11)):=by
 unfold dbl_UMod dbl_UMod_t cell_Ult
 simp only[wu]
 by_cases h0:u=0
 ·subst h0;rfl
 ·rw[beq_eq_false_iff_ne.2 h0,if_neg h0]
  simp only[cond_false]
  by_cases h:hi%18446744073709551616<u%18446744073709551616
  ·rw[decide_eq_true h,if_pos h,long_eq (by unfold Cell at hu;omega)];rfl
  ·rw[decide_eq_false h,if_neg h];rfl
end Go.Proofs.Dbl
/- Plain facts about stacks. -/
namespace Go.Proofs.Dbl
open Go Go.TX Go.Proofs
set_option maxRecDepth 100000
set_option maxHeartbeats 0
set_option linter.unusedVariables false
set_option linter.unusedSimpArgs false
theorem ct {A:Type}{p:Prop}[Decidable p](h:p){x y:A}:cond (decide p) x y=x:=by rw[decide_eq_true h];rfl
theorem cf {A:Type}{p:Prop}[Decidable p](h: ¬p){x y:A}:cond (decide p) x y=y:=by rw[decide_eq_false h];rfl
def lens (ls:List (List Int))(i:Nat):Nat:=((ls.take i).map List.length).sum
theorem take_more {A:Type}(l:List A){i:Nat}(h:i<l.length)(d:A):l.take (i+1)=l.take i++[l.getD i d]:=by
 rw[List.take_add_one,List.getElem?_eq_getElem h,List.getD_eq_getElem?_getD,List.getElem?_eq_getElem h];rfl
theorem lens_more (ls:List (List Int)){i:Nat}(h:i<ls.length):lens ls (i+1)=lens ls i+(ls.getD i []).length:=by
 unfold lens;rw[take_more ls h []];simp
theorem lens_le (ls:List (List Int))(i:Nat):lens ls i≤lens ls ls.length:=by
 unfold lens
 conv=>rhs;rw[← List.take_append_drop i ls]
 rw[List.take_of_length_le (l:=List.take i ls++List.drop i ls) (by simp),List.map_append,List.sum_append]
 omega
theorem flat_more (ls:List (List Int)){i:Nat}(h:i<ls.length):(ls.take (i+1)).flatten=(ls.take i).flatten++ls.getD i []:=by
 rw[take_more ls h []];simp
theorem flat_len (ls:List (List Int))(i:Nat):(ls.take i).flatten.length=lens ls i:=by
 unfold lens;simp[List.length_flatten]
theorem Concat_L1 (ls:List (List Int))(h:lens ls ls.length≤1000000)(hl:ls.length≤1000):slices_Concat_L1 (ls,0,ls,(ls.length:Int),0)=some (ls,(lens ls ls.length:Int)):=by
 refine runs_all (fun i=>(ls,(lens ls i:Int),ls,(ls.length:Int),(i:Int))) ls.length (fun i hi=> ?_) ?_
 ·unfold slices_Concat_L1_pass slices_Concat_L1_t
  simp only[wi,Int.toNat_natCast]
  have h1:=lens_le ls (i+1)
  rw[lens_more ls hi] at h1
  rw[decide_eq_true (by omega),decide_eq_true (by omega)]
  have e:W ((lens ls i:Int)+((ls.getD i []).length:Int))=((lens ls (i+1):Nat):Int):=by
   rw[lens_more ls hi,W_of (by unfold Cell;omega)];omega
  rw[e,decide_eq_false (by omega),show W ((i:Int)+1)=((i+1:Nat):Int) from by unfold W;omega]
  rfl
 ·unfold slices_Concat_L1_pass slices_Concat_L1_t
  simp
theorem Concat_L2 (ls:List (List Int))(m:List Int)(h:lens ls ls.length≤1000000)(hl:ls.length≤1000):
  ∃m',slices_Concat_L2 (0,ls,(ls.length:Int),0,m)=some (lens ls ls.length,m')∧m'.take (lens ls ls.length)=ls.flatten:=by
 have key: ∀k,k≤ls.length→ ∀m1:List Int,m1.take (lens ls (ls.length-k))=(ls.take (ls.length-k)).flatten→
   ∃m',runs slices_Concat_L2_pass (lens ls (ls.length-k),ls,(ls.length:Int),((ls.length-k:Nat):Int),m1)=some (lens ls ls.length,m')∧m'.take (lens ls ls.length)=ls.flatten:=by
  intro k
  induction k with
  |zero=>
   intro _ m1 hm
   rw[Nat.sub_zero] at hm⊢
   refine⟨m1,runs_out ?_,by rw[hm,List.take_length]⟩
   unfold slices_Concat_L2_pass slices_Concat_L2_t
   simp only
   rw[cf (by omega)]
  |succ k ih=>
   intro hk m1 hm
   have hi:ls.length-(k+1)<ls.length:=by omega
   generalize hii:ls.length-(k+1)=i at*
   have e1:ls.length-k=i+1:=by omega
   rw[e1] at ih
   have h1:=lens_le ls (i+1)
   have hl2:=lens_more ls hi
   have hnext:slices_Concat_L2_pass (lens ls i,ls,(ls.length:Int),(i:Int),m1)=some (.inl (lens ls (i+1),ls,(ls.length:Int),((i+1:Nat):Int),m1.take (lens ls i)++ls.getD i [])):=by
    unfold slices_Concat_L2_pass slices_Concat_L2_t
    simp only[wi,Int.toNat_natCast,List.drop_zero]
    rw[ct (by omega),ct (by omega),ct (by omega),show W ((i:Int)+1)=((i+1:Nat):Int) from by unfold W;omega,hl2]
   rw[runs_next hnext]
   refine ih (by omega) _ ?_
   rw[hm,← flat_more ls hi,List.take_of_length_le (by rw[flat_len];omega)]
 have:=key ls.length (Nat.le_refl _) m (by rw[Nat.sub_self];simp[lens])
 rw[Nat.sub_self] at this
 have e0:lens ls 0=0:=by simp[lens]
 rw[e0] at this
 exact this
theorem Concat_eq (ls:List (List Int))(h:lens ls ls.length≤1000000)(hl:ls.length≤1000):slices_Concat ls=some ls.flatten:=by
 have e:IntKind.wrap .i64 ((lens ls ls.length:Int)-0)=(lens ls ls.length:Int):=by rw[wi,Int.sub_zero];exact W_of (by unfold Cell;omega)
 have h2: ∀m:List Int,outOf (slices_Concat_L2 (0,ls,(ls.length:Int),0,m)) (fun(x:Nat×List Int)=>some (List.take x.1 (List.drop 0 x.2)))=some ls.flatten:=fun m=>by
  obtain⟨m',h1,h2⟩:=Concat_L2 ls m h hl
  rw[h1]
  show some (List.take _ (List.drop 0 m'))=_
  rw[List.drop_zero,h2]
 have h1:=Concat_L1 ls h hl
 unfold slices_Concat slices_Concat_t
 rw[h1]
 generalize lens ls ls.length=T at*
 show cond (decide ((T:Int)<0)) none (cond (decide (IntKind.wrap .i64 ((T:Int)-0)>0)) _ _)=_
 rw[cf (by omega),e]
 by_cases g:(T:Int)>0
 ·rw[ct g,ct (by omega)]
  exact h2 _
 ·rw[cf g]
  exact h2 _
theorem Concat2 {a b:List Int}(h:a.length+b.length≤100000):slices_Concat [a,b]=some (a++b):=by
 rw[Concat_eq [a,b] (by simp[lens];omega) (by simp)];simp
theorem Concat3 {a b c:List Int}(h:a.length+b.length+c.length≤100000):slices_Concat [a,b,c]=some (a++b++c):=by
 rw[Concat_eq [a,b,c] (by simp[lens];omega) (by simp)];simp
theorem Push_eq {l x:List Int}(h1:l.length≤1000)(h2:x.length≤1000):stk_Push l 64 x=some (if 64<l.length+x.length then (l, -3) else (l++x,0)):=by
 unfold stk_Push stk_Push_t
 rw[wi,show W ((l.length:Int)+(x.length:Int))=(l.length:Int)+(x.length:Int) from W_of (by unfold Cell;omega),Concat2 (by omega)]
 by_cases h:64<l.length+x.length
 ·rw[if_pos h,decide_eq_true (by omega)];rfl
 ·rw[if_neg h,decide_eq_false (by omega)];rfl
theorem Pop_eq {l:List Int}{n:Nat}(h1:n≤l.length)(h2:l.length≤1000):stk_Pop l (n:Int)=some (l.take (l.length-n),l.drop (l.length-n),0):=by
 unfold stk_Pop stk_Pop_t stk_Pop_M1 stk_Pop_M1_t
 have e:IntKind.wrap .i64 ((l.length:Int)-(n:Int))=((l.length-n:Nat):Int):=by rw[wi];unfold W;omega
 rw[e,decide_eq_false (by omega),decide_eq_false (by omega),decide_eq_true (by omega),decide_eq_true (by omega)]
 simp only[cond_false,cond_true,outOf_some,sumOf_inr,Int.toNat_natCast,Nat.sub_zero,List.drop_zero]
 rw[List.take_of_length_le (l:=List.drop _ _) (by simp)]
theorem Pick_eq {l:List Int}{n:Int}(h2:l.length≤1000)(hn:Cell n):stk_Pick l n=some (if 0≤n∧n<l.length then (l.getD (l.length-1-n.toNat) 0,0) else (0, -4)):=by
 unfold stk_Pick stk_Pick_t
 by_cases h0:n<0
 ·rw[decide_eq_true h0,if_neg (by omega)];rfl
 ·rw[decide_eq_false h0]
  by_cases h1:n≥(l.length:Int)
  ·rw[decide_eq_true h1,if_neg (by omega)];rfl
  ·rw[decide_eq_false h1,if_pos (by omega)]
   have e:IntKind.wrap .i64 (IntKind.wrap .i64 ((l.length:Int)-1)-n)=((l.length-1-n.toNat:Nat):Int):=by rw[wi,wi];unfold W;omega
   rw[e,decide_eq_true (by omega)]
   simp only[cond_false,cond_true,Int.toNat_natCast]
theorem Roll_eq {l:List Int}{n:Int}(h2:l.length≤1000)(hn:Cell n):stk_Roll l n=some (if 0≤n∧n<l.length then (l.take (l.length-1-n.toNat)++l.drop (l.length-n.toNat)++[l.getD (l.length-1-n.toNat) 0],0) else (l, -4)):=by
 unfold stk_Roll stk_Roll_t
 rw[Pick_eq h2 hn]
 by_cases h:0≤n∧n<(l.length:Int)
 ·rw[if_pos h,if_pos h]
  have e:IntKind.wrap .i64 (IntKind.wrap .i64 ((l.length:Int)-1)-n)=((l.length-1-n.toNat:Nat):Int):=by rw[wi,wi];unfold W;omega
  have e2:IntKind.wrap .i64 (((l.length-1-n.toNat:Nat):Int)+1)=((l.length-n.toNat:Nat):Int):=by rw[wi];unfold W;omega
  simp only[outOf_some,e,e2]
  rw[decide_eq_true (by omega),decide_eq_true (by omega)]
  simp only[bne_self_eq_false,cond_false,cond_true,Int.toNat_natCast,Nat.sub_zero,List.drop_zero]
  rw[Concat3 (by simp;omega),List.take_of_length_le (l:=List.drop _ _) (by simp)]
  rfl
 ·rw[if_neg h,if_neg h];rfl
def picks (x:List Int)(to:List Int):List Int:=to.map fun k=>x.getD k.toNat 0
theorem Permute_L1 (l x0 x:List Int)(to:List Int)(h: ∀k∈to,0≤k∧k<(x.length:Int))(hl:to.length≤1000):
  ∃m,stk_Permute_L1 (l,64,x0,x,0,to,(to.length:Int),0,[])=some (.inr (l,64,x0,to.length,m))∧m.take to.length=picks x to:=by
 have:=runs_all (pass:=stk_Permute_L1_pass) (fun i=>(l,(64:Int),x0,x,i,to,(to.length:Int),(i:Int),picks x (to.take i))) to.length
  (x:= .inr (l,(64:Int),x0,to.length,picks x (to.take to.length))) (fun i hi=> ?_) ?_
 ·refine⟨_,this, ?_⟩
  rw[List.take_length,List.take_of_length_le (by simp[picks])]
 ·unfold stk_Permute_L1_pass stk_Permute_L1_t
  have hk:0≤to.getD i 0∧to.getD i 0<(x.length:Int):=h _ (by
   rw[List.getD_eq_getElem?_getD,List.getElem?_eq_getElem hi];exact List.getElem_mem hi)
  simp only[wi,Int.toNat_natCast,List.drop_zero]
  have hi2:(i:Int)<(to.length:Int):=by omega
  rw[ct hi2,ct (by omega),cf (by omega),cf (by omega),ct hk,ct (by simp;omega),
   show W ((i:Int)+1)=((i+1:Nat):Int) from by unfold W;omega,List.take_of_length_le (by simp[picks];omega),take_more to hi 0]
  simp[picks]
 ·unfold stk_Permute_L1_pass stk_Permute_L1_t
  simp
theorem Permute_eq {l:List Int}{n:Nat}{to:List Int}(h1:n≤l.length)(h2:l.length≤1000)(h: ∀k∈to,0≤k∧k<(n:Int))(hl:to.length≤1000):
  stk_Permute l (n:Int) to 64=some (if 64<l.length-n+to.length then (l, -3) else (l.take (l.length-n)++picks (l.drop (l.length-n)) to,0)):=by
 unfold stk_Permute stk_Permute_t
 rw[Pop_eq h1 h2]
 simp only[outOf_some,bne_self_eq_false,cond_false]
 obtain⟨m,g1,g2⟩:=Permute_L1 l (l.take (l.length-n)) (l.drop (l.length-n)) to (fun k hk=>by have:=h k hk;simp;omega) hl
 rw[g1]
 simp only[outOf_some,sumOf_inr,List.drop_zero,g2]
 have hp:(picks (l.drop (l.length-n)) to).length=to.length:=by simp[picks]
 rw[Push_eq (by simp;omega) (by omega),hp,List.length_take,Nat.min_eq_left (by omega)]
 by_cases g:64<l.length-n+to.length
 ·rw[if_pos g,if_pos g];rfl
 ·rw[if_neg g,if_neg g];rfl
end Go.Proofs.Dbl
/- Plain facts about single operations: what each does with the top of the stack. -/
namespace Go.Proofs.Dbl
open Go Go.TX Go.Proofs
set_option maxRecDepth 100000
set_option maxHeartbeats 0
set_option linter.unusedVariables false
set_option linter.unusedSimpArgs false
theorem popX {r x:List Int}{n:Nat}(hn:x.length=n)(h:r.length+n≤1000):stk_Pop (r++x) (n:Int)=some (r,x,0):=by
 rw[Pop_eq (by simp;omega) (by simp;omega)]
 have e:(r++x).length-n=r.length:=by simp;omega
 rw[e,List.take_left,List.drop_left]
def fin (r x y:List Int)(e:Int):List Int×Int:=if e≠0 then (r++x,e) else if 64<r.length+y.length then (r++x, -3) else (r++y,0)
theorem tail0 {r x y:List Int}(hr:r.length≤64)(hy:y.length≤100):
  (outOf (stk_Push r 64 y) fun(v:List Int×Int)=>cond (v.2 != 0) (cond (v.2 != 0) (some (r++x,v.2)) (some (r++x,(0:Int)))) (some (v.1,(0:Int))))=some (fin r x y 0):=by
 rw[Push_eq (by omega) (by omega)]
 unfold fin
 by_cases h:64<r.length+y.length
 ·rw[if_pos h,if_neg (by simp),if_pos h];rfl
 ·rw[if_neg h,if_neg (by simp),if_neg h];rfl
theorem tailE {r x y:List Int}{e:Int}(hr:r.length≤64)(hy:y.length≤100)(hxy:r.length+y.length≤64∨e=0):
  (outOf (stk_Push r 64 y) fun(v:List Int×Int)=>cond (v.2 != 0) (cond (v.2 != 0) (some (r++x,v.2)) (some (r++x,(0:Int)))) (cond (e != 0) (some (r++x,e)) (some (v.1,(0:Int)))))=some (fin r x y e):=by
 rw[Push_eq (by omega) (by omega)]
 unfold fin
 by_cases h:64<r.length+y.length
 ·have he:e=0:=by omega
  rw[if_pos h,if_neg (by simp[he]),if_pos h];rfl
 ·rw[if_neg h]
  by_cases he:e=0
  ·rw[if_neg (by simp[he]),if_neg h];simp[he]
  ·rw[if_pos he]
   simp only[outOf_some,bne_self_eq_false,cond_false]
   rw[show(e != 0)=true from by simpa using he];rfl
theorem popX1 {r:List Int}{a:Int}(h:r.length+1≤64):stk_Pop (r++[a]) 1=some (r,[a],0):=popX (n:=1) rfl (by omega)
theorem popX2 {r:List Int}{a b:Int}(h:r.length+2≤64):stk_Pop (r++[a,b]) 2=some (r,[a,b],0):=popX (n:=2) rfl (by omega)
theorem popX3 {r:List Int}{a b c:Int}(h:r.length+3≤64):stk_Pop (r++[a,b,c]) 3=some (r,[a,b,c],0):=popX (n:=3) rfl (by omega)
theorem popX4 {r:List Int}{a b c d:Int}(h:r.length+4≤64):stk_Pop (r++[a,b,c,d]) 4=some (r,[a,b,c,d],0):=popX (n:=4) rfl (by omega)
theorem permX {r x to:List Int}{n:Nat}(hx:x.length=n)(h:r.length+n≤64)(hto: ∀k∈to,0≤k∧k<(n:Int))(hl:to.length≤100):
  (outOf (stk_Permute (r++x) (n:Int) to 64) fun(v:List Int×Int)=>cond (v.2 != 0) (some (r++x,v.2)) (some (v.1,(0:Int))))=some (fin r x (picks x to) 0):=by
 rw[Permute_eq (by simp;omega) (by simp;omega) hto (by omega)]
 have e:(r++x).length-n=r.length:=by simp;omega
 have hp:(picks x to).length=to.length:=by simp[picks]
 rw[e,List.take_left,List.drop_left]
 unfold fin
 rw[hp]
 by_cases g:64<r.length+to.length
 ·rw[if_pos g,if_neg (by simp)];rfl
 ·rw[if_neg g,if_neg (by simp)];rfl
theorem flag_eq (b:Bool):cell_Flag b=some (if b then -1 else 0):=by
 cases b<;>rfl
theorem dk_18 {r:List Int}{a:Int}(h:r.length+1≤64):Do_18 (r++[a])=some (fin r [a] [a,a] 0):=by
 unfold Do_18 Do_18_t
 rw[cf (by simp;omega),cf (by simp;omega)]
 exact permX (x:=[a]) (n:=1) (to:=[0,0]) rfl (by omega) (by decide) (by decide)
theorem dk_20 {r:List Int}{a b:Int}(h:r.length+2≤64):Do_20 (r++[a,b])=some (fin r [a,b] [b,a] 0):=by
 unfold Do_20 Do_20_t
 rw[cf (by simp;omega),cf (by simp;omega)]
 exact permX (x:=[a,b]) (n:=2) (to:=[1,0]) rfl (by omega) (by decide) (by decide)
theorem dk_22 {r:List Int}{a b c:Int}(h:r.length+3≤64):Do_22 (r++[a,b,c])=some (fin r [a,b,c] [b,c,a] 0):=by
 unfold Do_22 Do_22_t
 rw[cf (by simp;omega),cf (by simp;omega)]
 exact permX (x:=[a,b,c]) (n:=3) (to:=[1,2,0]) rfl (by omega) (by decide) (by decide)
theorem dk_24 {r:List Int}{a b:Int}(h:r.length+2≤64):Do_24 (r++[a,b])=some (fin r [a,b] [b,a,b] 0):=by
 unfold Do_24 Do_24_t
 rw[cf (by simp;omega),cf (by simp;omega)]
 exact permX (x:=[a,b]) (n:=2) (to:=[1,0,1]) rfl (by omega) (by decide) (by decide)
theorem dk_25 {r:List Int}{a b:Int}(h:r.length+2≤64):Do_25 (r++[a,b])=some (fin r [a,b] [a,b,a,b] 0):=by
 unfold Do_25 Do_25_t
 rw[cf (by simp;omega),cf (by simp;omega)]
 exact permX (x:=[a,b]) (n:=2) (to:=[0,1,0,1]) rfl (by omega) (by decide) (by decide)
theorem dk_27 {r:List Int}{a b c d:Int}(h:r.length+4≤64):Do_27 (r++[a,b,c,d])=some (fin r [a,b,c,d] [c,d,a,b] 0):=by
 unfold Do_27 Do_27_t
 rw[cf (by simp;omega),cf (by simp;omega)]
 exact permX (x:=[a,b,c,d]) (n:=4) (to:=[2,3,0,1]) rfl (by omega) (by decide) (by decide)
theorem dk_33 {r:List Int}{a b:Int}(h:r.length+2≤64):Do_33 (r++[a,b])=some (fin r [a,b] [W (a+b)] 0):=by
 unfold Do_33 Do_33_t
 rw[cf (by simp;omega),cf (by simp;omega),popX2 h]
 simp only[outOf_some]
 rw[ct (by simp),ct (by simp)]
 simp only[wi]
 exact tail0 (by omega) (by simp)
theorem dk_34 {r:List Int}{a b:Int}(h:r.length+2≤64):Do_34 (r++[a,b])=some (fin r [a,b] [W (a-b)] 0):=by
 unfold Do_34 Do_34_t
 rw[cf (by simp;omega),cf (by simp;omega),popX2 h]
 simp only[outOf_some]
 rw[ct (by simp),ct (by simp)]
 simp only[wi]
 exact tail0 (by omega) (by simp)
theorem dk_35 {r:List Int}{a b:Int}(h:r.length+2≤64):Do_35 (r++[a,b])=some (fin r [a,b] [W (a*b)] 0):=by
 unfold Do_35 Do_35_t
 rw[cf (by simp;omega),cf (by simp;omega),popX2 h]
 simp only[outOf_some]
 rw[ct (by simp),ct (by simp)]
 simp only[wi]
 exact tail0 (by omega) (by simp)
theorem dk_41 {r:List Int}{a:Int}(h:r.length+1≤64):Do_41 (r++[a])=some (fin r [a] [W (a+1)] 0):=by
 unfold Do_41 Do_41_t
 rw[cf (by simp;omega),cf (by simp;omega),popX1 h]
 simp only[outOf_some]
 rw[ct (by simp)]
 simp only[wi]
 exact tail0 (by omega) (by simp)
theorem dk_42 {r:List Int}{a:Int}(h:r.length+1≤64):Do_42 (r++[a])=some (fin r [a] [W (a-1)] 0):=by
 unfold Do_42 Do_42_t
 rw[cf (by simp;omega),cf (by simp;omega),popX1 h]
 simp only[outOf_some]
 rw[ct (by simp)]
 simp only[wi]
 exact tail0 (by omega) (by simp)
theorem dk_72 {r:List Int}{a:Int}(h:r.length+1≤64):Do_72 (r++[a])=some (fin r [a] [W (a+8)] 0):=by
 unfold Do_72 Do_72_t
 rw[cf (by simp;omega),cf (by simp;omega),popX1 h]
 simp only[outOf_some]
 rw[ct (by simp)]
 simp only[wi]
 exact tail0 (by omega) (by simp)
theorem dk_45 {r:List Int}{a:Int}(h:r.length+1≤64):Do_45 (r++[a])=some (fin r [a] [W (0-a)] 0):=by
 unfold Do_45 Do_45_t
 rw[cf (by simp;omega),cf (by simp;omega),popX1 h]
 simp only[outOf_some]
 rw[ct (by simp)]
 simp only[wi]
 exact tail0 (by omega) (by simp)
theorem dk_52 {r:List Int}{a:Int}(h:r.length+1≤64):Do_52 (r++[a])=some (fin r [a] [ibits .xor .i64 (-1) a] 0):=by
 unfold Do_52 Do_52_t
 rw[cf (by simp;omega),cf (by simp;omega),popX1 h]
 simp only[outOf_some]
 rw[ct (by simp)]
 exact tail0 (by omega) (by simp)
theorem dk_49 {r:List Int}{a b:Int}(h:r.length+2≤64):Do_49 (r++[a,b])=some (fin r [a,b] [ibits .and .i64 a b] 0):=by
 unfold Do_49 Do_49_t
 rw[cf (by simp;omega),cf (by simp;omega),popX2 h]
 simp only[outOf_some]
 rw[ct (by simp),ct (by simp)]
 exact tail0 (by omega) (by simp)
theorem dk_50 {r:List Int}{a b:Int}(h:r.length+2≤64):Do_50 (r++[a,b])=some (fin r [a,b] [ibits .or .i64 a b] 0):=by
 unfold Do_50 Do_50_t
 rw[cf (by simp;omega),cf (by simp;omega),popX2 h]
 simp only[outOf_some]
 rw[ct (by simp),ct (by simp)]
 exact tail0 (by omega) (by simp)
theorem dk_51 {r:List Int}{a b:Int}(h:r.length+2≤64):Do_51 (r++[a,b])=some (fin r [a,b] [ibits .xor .i64 a b] 0):=by
 unfold Do_51 Do_51_t
 rw[cf (by simp;omega),cf (by simp;omega),popX2 h]
 simp only[outOf_some]
 rw[ct (by simp),ct (by simp)]
 exact tail0 (by omega) (by simp)
theorem dk_55 {r:List Int}{a b:Int}(h:r.length+2≤64):Do_55 (r++[a,b])=some (fin r [a,b] [if a==b then -1 else 0] 0):=by
 unfold Do_55 Do_55_t
 rw[cf (by simp;omega),cf (by simp;omega),popX2 h]
 simp only[outOf_some]
 rw[ct (by simp),ct (by simp)]
 rw[flag_eq]
 simp only[outOf_some]
 exact tail0 (by omega) (by simp)
theorem dk_56 {r:List Int}{a b:Int}(h:r.length+2≤64):Do_56 (r++[a,b])=some (fin r [a,b] [if a != b then -1 else 0] 0):=by
 unfold Do_56 Do_56_t
 rw[cf (by simp;omega),cf (by simp;omega),popX2 h]
 simp only[outOf_some]
 rw[ct (by simp),ct (by simp)]
 rw[flag_eq]
 simp only[outOf_some]
 exact tail0 (by omega) (by simp)
theorem dk_57 {r:List Int}{a b:Int}(h:r.length+2≤64):Do_57 (r++[a,b])=some (fin r [a,b] [if decide (a<b) then -1 else 0] 0):=by
 unfold Do_57 Do_57_t
 rw[cf (by simp;omega),cf (by simp;omega),popX2 h]
 simp only[outOf_some]
 rw[ct (by simp),ct (by simp)]
 rw[flag_eq]
 simp only[outOf_some]
 exact tail0 (by omega) (by simp)
theorem dk_58 {r:List Int}{a b:Int}(h:r.length+2≤64):Do_58 (r++[a,b])=some (fin r [a,b] [if decide (a>b) then -1 else 0] 0):=by
 unfold Do_58 Do_58_t
 rw[cf (by simp;omega),cf (by simp;omega),popX2 h]
 simp only[outOf_some]
 rw[ct (by simp),ct (by simp)]
 rw[flag_eq]
 simp only[outOf_some]
 exact tail0 (by omega) (by simp)
theorem dk_60 {r:List Int}{a:Int}(h:r.length+1≤64):Do_60 (r++[a])=some (fin r [a] [if a==0 then -1 else 0] 0):=by
 unfold Do_60 Do_60_t
 rw[cf (by simp;omega),cf (by simp;omega),popX1 h]
 simp only[outOf_some]
 rw[ct (by simp)]
 rw[flag_eq]
 simp only[outOf_some]
 exact tail0 (by omega) (by simp)
end Go.Proofs.Dbl
/- Plain facts about rows of operations. -/
namespace Go.Proofs.Dbl
open Go Go.TX Go.Proofs
set_option maxRecDepth 100000
set_option maxHeartbeats 0
set_option linter.unusedVariables false
set_option linter.unusedSimpArgs false
theorem Do_at {k:Nat}(h1:18≤k)(h2:k≤74)(d:List Int):pure_Do (k:Int) d=Do_tab k d:=by
 unfold pure_Do
 rw[if_pos (by omega),Int.toNat_natCast]
def F (a b:Int):Int×Int×Int:=if b=0 then (0,0, -10) else if b= -1∧a= -9223372036854775808 then (0,0, -11) else (a.fdiv b,a.fmod b,0)
theorem dk_38 {r:List Int}{a b:Int}(h:r.length+2≤64)(ha:Cell a)(hb:Cell b):Do_38 (r++[a,b])=some (fin r [a,b] [(F a b).2.1,(F a b).1] (F a b).2.2):=by
 unfold Do_38 Do_38_t
 rw[cf (by simp;omega),cf (by simp;omega),popX2 h]
 simp only[outOf_some]
 rw[ct (by simp),ct (by simp)]
 rw[show cell_Floor (List.getD [a,b] 0 0) (List.getD [a,b] 1 0)=some (F a b) from cFloor_eq ha hb]
 exact tailE (by omega) (by simp) (.inl (by simp;omega))
theorem dk_64 {r:List Int}{a b:Int}(h:r.length+2≤64)(ha:Cell a)(hb:Cell b):Do_64 (r++[a,b])=some (fin r [a,b] [(Pd (a*b)).1,(Pd (a*b)).2] 0):=by
 unfold Do_64 Do_64_t
 rw[cf (by simp;omega),cf (by simp;omega),popX2 h]
 simp only[outOf_some]
 rw[ct (by simp),ct (by simp)]
 rw[show dbl_Mul (List.getD [a,b] 0 0) (List.getD [a,b] 1 0)=some (Pd (a*b)) from Mul_eq ha hb]
 exact tail0 (by omega) (by simp)
def Sy (lo hi n:Int):Int×Int×Int:=if n=0 then (0,0, -10) else if Cell ((S lo hi).tdiv n) then ((S lo hi).tmod n,(S lo hi).tdiv n,0) else (0,0, -11)
theorem dk_67 {r:List Int}{a b c:Int}(h:r.length+3≤64)(ha:Cell a)(hb:Cell b)(hc:Cell c):Do_67 (r++[a,b,c])=some (fin r [a,b,c] [(Sy a b c).1,(Sy a b c).2.1] (Sy a b c).2.2):=by
 unfold Do_67 Do_67_t
 rw[cf (by simp;omega),cf (by simp;omega),popX3 h]
 simp only[outOf_some]
 rw[ct (by simp),ct (by simp),ct (by simp)]
 rw[show dbl_Symm (List.getD [a,b,c] 0 0) (List.getD [a,b,c] 1 0) (List.getD [a,b,c] 2 0)=some (Sy a b c) from Symm_eq ha hb hc]
 exact tailE (by omega) (by simp) (.inl (by simp;omega))
end Go.Proofs.Dbl
/- Plain facts about single operations: more. -/
namespace Go.Proofs.Dbl
open Go Go.TX Go.Proofs
set_option maxRecDepth 100000
set_option maxHeartbeats 0
set_option linter.unusedVariables false
set_option linter.unusedSimpArgs false
theorem at2 (k:Nat)(h1:18≤k)(h2:k≤74)(d:List Int){v:List Int×Int}(h:Do_tab k d=some v):pure_Do (k:Int) d=some v:=(Do_at h1 h2 d).trans h
theorem Neg_S {lo hi:Int}(h1:Cell lo)(h2:Cell hi):dbl_Neg lo hi=some (Pd (-S lo hi)):=by
 have e:=Pd_S h1 h2
 unfold Pd at e
 simp only[Prod.mk.injEq] at e
 have hn:=Neg_eq (S lo hi)
 rw[e.1,e.2] at hn
 exact hn
theorem dk_70 {r:List Int}{a b:Int}(h:r.length+2≤64)(ha:Cell a)(hb:Cell b):Do_70 (r++[a,b])=some (fin r [a,b] [(Pd (-S a b)).1,(Pd (-S a b)).2] 0):=by
 unfold Do_70 Do_70_t
 rw[cf (by simp;omega),cf (by simp;omega),popX2 h]
 simp only[outOf_some]
 rw[ct (by simp),ct (by simp)]
 rw[show dbl_Neg (List.getD [a,b] 0 0) (List.getD [a,b] 1 0)=some (Pd (-S a b)) from Neg_S ha hb]
 exact tail0 (by omega) (by simp)
end Go.Proofs.Dbl
/- Plain facts about single operations: the rest. -/
namespace Go.Proofs.Dbl
open Go Go.TX Go.Proofs
set_option maxRecDepth 100000
set_option maxHeartbeats 0
set_option linter.unusedVariables false
set_option linter.unusedSimpArgs false
def Fl3 (a b c:Int):Int×Int×Int:=if c=0 then (0,0, -10) else if Cell ((a*b).fdiv c) then ((a*b).fmod c,(a*b).fdiv c,0) else (0,0, -11)
def FlD (a b c:Int):Int×Int×Int:=if c=0 then (0,0, -10) else if Cell ((S a b).fdiv c) then ((S a b).fmod c,(S a b).fdiv c,0) else (0,0, -11)
def UM (a b c:Int):Int×Int×Int:=if c=0 then (0,0, -10) else if b%18446744073709551616<c%18446744073709551616 then (W (D a b%(c%18446744073709551616)),W (D a b/(c%18446744073709551616)),0) else (0,0, -11)
theorem Scale_eq {a b c:Int}(ha:Cell a)(hb:Cell b)(hc:Cell c):dbl_Scale a b c=some (Fl3 a b c):=by
 unfold dbl_Scale dbl_Scale_t
 rw[Mul_eq ha hb]
 simp only[outOf_some]
 rw[Floor_eq (show Cell (Pd _).fst from W_cell _) (show Cell (Pd _).snd from W_cell _) hc,S_of (mul_range ha hb)]
 rfl
noncomputable def shlV (a b:Int):Int:=(cell_Shl a b).getD 0
noncomputable def shrV (a b:Int):Int:=(cell_Shr a b).getD 0
theorem shifts_eq (b:Int):cell_shifts b=some (if b≥0 then decide (b<64) else false):=by
 unfold cell_shifts cell_shifts_t
 by_cases h:b≥0<;>simp[h]
theorem either_eq (x:Bool)(y z:Int):cell_either x y z=some (if x then y else z):=by
 unfold cell_either cell_either_t
 cases x<;>rfl
theorem zero_cell:Cell 0:=by unfold Cell;omega
theorem tmod_nn (b:Int): ¬Int.tmod (IntKind.wrap .u64 b) 64<0:=by
 rw[wu,Int.tmod_eq_emod_of_nonneg (by omega)];omega
theorem Shl_ex (a b:Int): ∃v,cell_Shl a b=some v∧Cell v:=by
 unfold cell_Shl cell_Shl_t
 rw[shifts_eq]
 simp only[outOf_some]
 rw[cf (tmod_nn b),either_eq]
 refine⟨_,rfl, ?_⟩
 generalize (if b≥0 then decide (b<64) else false)=x
 rw[wi]
 cases x
 ·exact zero_cell
 ·exact W_cell _
theorem Shr_ex (a b:Int): ∃v,cell_Shr a b=some v∧Cell v:=by
 unfold cell_Shr cell_Shr_t
 rw[shifts_eq]
 simp only[outOf_some]
 rw[cf (tmod_nn b),either_eq]
 refine⟨_,rfl, ?_⟩
 generalize (if b≥0 then decide (b<64) else false)=x
 rw[wi]
 cases x
 ·exact zero_cell
 ·exact W_cell _
theorem Shl_eq {a b:Int}(hb:Cell b):cell_Shl a b=some (shlV a b):=by
 obtain⟨v,h,_⟩:=Shl_ex a b
 unfold shlV;rw[h];rfl
theorem Shr_eq {a b:Int}(hb:Cell b):cell_Shr a b=some (shrV a b):=by
 obtain⟨v,h,_⟩:=Shr_ex a b
 unfold shrV;rw[h];rfl
theorem shlV_cell (a b:Int):Cell (shlV a b):=by
 obtain⟨v,h,hv⟩:=Shl_ex a b
 unfold shlV;rw[h];exact hv
theorem shrV_cell (a b:Int):Cell (shrV a b):=by
 obtain⟨v,h,hv⟩:=Shr_ex a b
 unfold shrV;rw[h];exact hv
theorem dk_19 {r:List Int}{a:Int}(h:r.length+1≤64):Do_19 (r++[a])=some (fin r [a] [] 0):=by
 unfold Do_19 Do_19_t
 rw[cf (by simp;omega),cf (by simp;omega)]
 exact permX (x:=[a]) (n:=1) (to:=[]) rfl (by omega) (by decide) (by decide)
theorem dk_26 {r:List Int}{a b:Int}(h:r.length+2≤64):Do_26 (r++[a,b])=some (fin r [a,b] [] 0):=by
 unfold Do_26 Do_26_t
 rw[cf (by simp;omega),cf (by simp;omega)]
 exact permX (x:=[a,b]) (n:=2) (to:=[]) rfl (by omega) (by decide) (by decide)
theorem dk_21 {r:List Int}{a b:Int}(h:r.length+2≤64):Do_21 (r++[a,b])=some (fin r [a,b] [a,b,a] 0):=by
 unfold Do_21 Do_21_t
 rw[cf (by simp;omega),cf (by simp;omega)]
 exact permX (x:=[a,b]) (n:=2) (to:=[0,1,0]) rfl (by omega) (by decide) (by decide)
theorem dk_23 {r:List Int}{a b:Int}(h:r.length+2≤64):Do_23 (r++[a,b])=some (fin r [a,b] [b] 0):=by
 unfold Do_23 Do_23_t
 rw[cf (by simp;omega),cf (by simp;omega)]
 exact permX (x:=[a,b]) (n:=2) (to:=[1]) rfl (by omega) (by decide) (by decide)
theorem dk_28 {r:List Int}{a b c d:Int}(h:r.length+4≤64):Do_28 (r++[a,b,c,d])=some (fin r [a,b,c,d] [a,b,c,d,a,b] 0):=by
 unfold Do_28 Do_28_t
 rw[cf (by simp;omega),cf (by simp;omega)]
 exact permX (x:=[a,b,c,d]) (n:=4) (to:=[0,1,2,3,0,1]) rfl (by omega) (by decide) (by decide)
theorem dk_36 {r:List Int}{a b:Int}(h:r.length+2≤64)(ha:Cell a)(hb:Cell b):Do_36 (r++[a,b])=some (fin r [a,b] [(F a b).1] (F a b).2.2):=by
 unfold Do_36 Do_36_t
 rw[cf (by simp;omega),cf (by simp;omega),popX2 h]
 simp only[outOf_some]
 rw[ct (by simp),ct (by simp)]
 rw[show cell_Floor (List.getD [a,b] 0 0) (List.getD [a,b] 1 0)=some (F a b) from cFloor_eq ha hb]
 exact tailE (by omega) (by simp) (.inl (by simp;omega))
theorem dk_37 {r:List Int}{a b:Int}(h:r.length+2≤64)(ha:Cell a)(hb:Cell b):Do_37 (r++[a,b])=some (fin r [a,b] [(F a b).2.1] (F a b).2.2):=by
 unfold Do_37 Do_37_t
 rw[cf (by simp;omega),cf (by simp;omega),popX2 h]
 simp only[outOf_some]
 rw[ct (by simp),ct (by simp)]
 rw[show cell_Floor (List.getD [a,b] 0 0) (List.getD [a,b] 1 0)=some (F a b) from cFloor_eq ha hb]
 exact tailE (by omega) (by simp) (.inl (by simp;omega))
theorem dk_39 {r:List Int}{a b c:Int}(h:r.length+3≤64)(ha:Cell a)(hb:Cell b)(hc:Cell c):Do_39 (r++[a,b,c])=some (fin r [a,b,c] [(Fl3 a b c).2.1] (Fl3 a b c).2.2):=by
 unfold Do_39 Do_39_t
 rw[cf (by simp;omega),cf (by simp;omega),popX3 h]
 simp only[outOf_some]
 rw[ct (by simp),ct (by simp),ct (by simp)]
 rw[show dbl_Scale (List.getD [a,b,c] 0 0) (List.getD [a,b,c] 1 0) (List.getD [a,b,c] 2 0)=some (Fl3 a b c) from Scale_eq ha hb hc]
 exact tailE (by omega) (by simp) (.inl (by simp;omega))
theorem dk_40 {r:List Int}{a b c:Int}(h:r.length+3≤64)(ha:Cell a)(hb:Cell b)(hc:Cell c):Do_40 (r++[a,b,c])=some (fin r [a,b,c] [(Fl3 a b c).1,(Fl3 a b c).2.1] (Fl3 a b c).2.2):=by
 unfold Do_40 Do_40_t
 rw[cf (by simp;omega),cf (by simp;omega),popX3 h]
 simp only[outOf_some]
 rw[ct (by simp),ct (by simp),ct (by simp)]
 rw[show dbl_Scale (List.getD [a,b,c] 0 0) (List.getD [a,b,c] 1 0) (List.getD [a,b,c] 2 0)=some (Fl3 a b c) from Scale_eq ha hb hc]
 exact tailE (by omega) (by simp) (.inl (by simp;omega))
theorem dk_65 {r:List Int}{a b c:Int}(h:r.length+3≤64)(ha:Cell a)(hb:Cell b)(hc:Cell c):Do_65 (r++[a,b,c])=some (fin r [a,b,c] [(UM a b c).1,(UM a b c).2.1] (UM a b c).2.2):=by
 unfold Do_65 Do_65_t
 rw[cf (by simp;omega),cf (by simp;omega),popX3 h]
 simp only[outOf_some]
 rw[ct (by simp),ct (by simp),ct (by simp)]
 rw[show dbl_UMod (List.getD [a,b,c] 0 0) (List.getD [a,b,c] 1 0) (List.getD [a,b,c] 2 0)=some (UM a b c) from UMod_eq ha hb hc]
 exact tailE (by omega) (by simp) (.inl (by simp;omega))
theorem dk_66 {r:List Int}{a b c:Int}(h:r.length+3≤64)(ha:Cell a)(hb:Cell b)(hc:Cell c):Do_66 (r++[a,b,c])=some (fin r [a,b,c] [(FlD a b c).1,(FlD a b c).2.1] (FlD a b c).2.2):=by
 unfold Do_66 Do_66_t
 rw[cf (by simp;omega),cf (by simp;omega),popX3 h]
 simp only[outOf_some]
 rw[ct (by simp),ct (by simp),ct (by simp)]
 rw[show dbl_Floor (List.getD [a,b,c] 0 0) (List.getD [a,b,c] 1 0) (List.getD [a,b,c] 2 0)=some (FlD a b c) from Floor_eq ha hb hc]
 exact tailE (by omega) (by simp) (.inl (by simp;omega))
theorem dk_43 {r:List Int}{a:Int}(h:r.length+1≤64):Do_43 (r++[a])=some (fin r [a] [W (a*2)] 0):=by
 unfold Do_43 Do_43_t
 rw[cf (by simp;omega),cf (by simp;omega),popX1 h]
 simp only[outOf_some]
 rw[ct (by simp)]
 simp only[wi]
 exact tail0 (by omega) (by simp)
theorem dk_71 {r:List Int}{a:Int}(h:r.length+1≤64):Do_71 (r++[a])=some (fin r [a] [W (a*8)] 0):=by
 unfold Do_71 Do_71_t
 rw[cf (by simp;omega),cf (by simp;omega),popX1 h]
 simp only[outOf_some]
 rw[ct (by simp)]
 simp only[wi]
 exact tail0 (by omega) (by simp)
theorem dk_73 {r:List Int}{a:Int}(h:r.length+1≤64):Do_73 (r++[a])=some (fin r [a] [W (a+1)] 0):=by
 unfold Do_73 Do_73_t
 rw[cf (by simp;omega),cf (by simp;omega),popX1 h]
 simp only[outOf_some]
 rw[ct (by simp)]
 simp only[wi]
 exact tail0 (by omega) (by simp)
theorem dk_44 {r:List Int}{a:Int}(h:r.length+1≤64):Do_44 (r++[a])=some (fin r [a] [Int.fdiv a 2] 0):=by
 unfold Do_44 Do_44_t
 rw[cf (by simp;omega),cf (by simp;omega),popX1 h]
 simp only[outOf_some]
 rw[ct (by simp)]
 exact tail0 (by omega) (by simp)
theorem dk_46 {r:List Int}{a:Int}(h:r.length+1≤64):Do_46 (r++[a])=some (fin r [a] [if W (0-a)>a then W (0-a) else a] 0):=by
 unfold Do_46 Do_46_t
 rw[cf (by simp;omega),cf (by simp;omega),popX1 h]
 simp only[outOf_some]
 rw[ct (by simp)]
 simp only[wi]
 exact tail0 (by omega) (by simp)
theorem dk_47 {r:List Int}{a b:Int}(h:r.length+2≤64):Do_47 (r++[a,b])=some (fin r [a,b] [if b<a then b else a] 0):=by
 unfold Do_47 Do_47_t
 rw[cf (by simp;omega),cf (by simp;omega),popX2 h]
 simp only[outOf_some]
 rw[ct (by simp),ct (by simp)]
 exact tail0 (by omega) (by simp)
theorem dk_48 {r:List Int}{a b:Int}(h:r.length+2≤64):Do_48 (r++[a,b])=some (fin r [a,b] [if b>a then b else a] 0):=by
 unfold Do_48 Do_48_t
 rw[cf (by simp;omega),cf (by simp;omega),popX2 h]
 simp only[outOf_some]
 rw[ct (by simp),ct (by simp)]
 exact tail0 (by omega) (by simp)
theorem dk_53 {r:List Int}{a b:Int}(h:r.length+2≤64)(hb:Cell b):Do_53 (r++[a,b])=some (fin r [a,b] [shlV a b] 0):=by
 unfold Do_53 Do_53_t
 rw[cf (by simp;omega),cf (by simp;omega),popX2 h]
 simp only[outOf_some]
 rw[ct (by simp),ct (by simp)]
 rw[show cell_Shl (List.getD [a,b] 0 0) (List.getD [a,b] 1 0)=some (shlV a b) from Shl_eq hb]
 simp only[outOf_some]
 exact tail0 (by omega) (by simp)
theorem dk_54 {r:List Int}{a b:Int}(h:r.length+2≤64)(hb:Cell b):Do_54 (r++[a,b])=some (fin r [a,b] [shrV a b] 0):=by
 unfold Do_54 Do_54_t
 rw[cf (by simp;omega),cf (by simp;omega),popX2 h]
 simp only[outOf_some]
 rw[ct (by simp),ct (by simp)]
 rw[show cell_Shr (List.getD [a,b] 0 0) (List.getD [a,b] 1 0)=some (shrV a b) from Shr_eq hb]
 simp only[outOf_some]
 exact tail0 (by omega) (by simp)
theorem dk_59 {r:List Int}{a b:Int}(h:r.length+2≤64):Do_59 (r++[a,b])=some (fin r [a,b] [if cell_Ult a b then -1 else 0] 0):=by
 unfold Do_59 Do_59_t
 rw[cf (by simp;omega),cf (by simp;omega),popX2 h]
 simp only[outOf_some]
 rw[ct (by simp),ct (by simp)]
 rw[flag_eq]
 simp only[outOf_some]
 exact tail0 (by omega) (by simp)
theorem dk_61 {r:List Int}{a:Int}(h:r.length+1≤64):Do_61 (r++[a])=some (fin r [a] [if decide (a<0) then -1 else 0] 0):=by
 unfold Do_61 Do_61_t
 rw[cf (by simp;omega),cf (by simp;omega),popX1 h]
 simp only[outOf_some]
 rw[ct (by simp)]
 rw[flag_eq]
 simp only[outOf_some]
 exact tail0 (by omega) (by simp)
theorem dk_62 {r:List Int}{a b c:Int}(h:r.length+3≤64):Do_62 (r++[a,b,c])=some (fin r [a,b,c] [if cell_Within a b c then -1 else 0] 0):=by
 unfold Do_62 Do_62_t
 rw[cf (by simp;omega),cf (by simp;omega),popX3 h]
 simp only[outOf_some]
 rw[ct (by simp),ct (by simp),ct (by simp)]
 rw[flag_eq]
 simp only[outOf_some]
 exact tail0 (by omega) (by simp)
theorem dk_63 {r:List Int}{a b:Int}(h:r.length+2≤64):Do_63 (r++[a,b])=some (fin r [a,b] [(dbl_UMul a b).1,(dbl_UMul a b).2] 0):=by
 unfold Do_63 Do_63_t
 rw[cf (by simp;omega),cf (by simp;omega),popX2 h]
 simp only[outOf_some]
 rw[ct (by simp),ct (by simp)]
 exact tail0 (by omega) (by simp)
theorem dk_68 {r:List Int}{a:Int}(h:r.length+1≤64):Do_68 (r++[a])=some (fin r [a] [(dbl_Of a).1,(dbl_Of a).2] 0):=by
 unfold Do_68 Do_68_t
 rw[cf (by simp;omega),cf (by simp;omega),popX1 h]
 simp only[outOf_some]
 rw[ct (by simp)]
 exact tail0 (by omega) (by simp)
theorem dk_69 {r:List Int}{a b c d:Int}(h:r.length+4≤64)(ha:Cell a)(hb:Cell b)(hc:Cell c)(hd:Cell d):Do_69 (r++[a,b,c,d])=some (fin r [a,b,c,d] [(Pd (S a b+S c d)).1,(Pd (S a b+S c d)).2] 0):=by
 unfold Do_69 Do_69_t
 rw[cf (by simp;omega),cf (by simp;omega),popX4 h]
 simp only[outOf_some]
 rw[ct (by simp),ct (by simp),ct (by simp),ct (by simp)]
 rw[show dbl_Add (List.getD [a,b,c,d] 0 0) (List.getD [a,b,c,d] 1 0) (List.getD [a,b,c,d] 2 0) (List.getD [a,b,c,d] 3 0)=some (Pd (S a b+S c d)) from Add_S ha hb hc hd]
 exact tail0 (by omega) (by simp)
theorem dk_74 {r:List Int}{a:Int}(h:r.length+1≤64):Do_74 (r++[a])=some (fin r [a] [cell_Aligned a] 0):=by
 unfold Do_74 Do_74_t
 rw[cf (by simp;omega),cf (by simp;omega),popX1 h]
 simp only[outOf_some]
 rw[ct (by simp)]
 exact tail0 (by omega) (by simp)
end Go.Proofs.Dbl
/- Plain facts about single operations: what each tells are cells, as many as it is said. -/
namespace Go.Proofs.Dbl
open Go Go.TX Go.Proofs
set_option maxRecDepth 100000
set_option maxHeartbeats 0
set_option linter.unusedVariables false
set_option linter.unusedSimpArgs false
def AllC:List Int→Prop
 |[]=>True
 |a::l=>Cell a∧AllC l
def Tells (k n m:Nat):Prop:= ∀X:List Int,X.length=n→AllC X→ ∃(Y:List Int) (e:Int),AllC Y∧Y.length=m∧(e≠0→m≤n∧Cell e)∧ ∀r:List Int,r.length+n≤64→Do_tab k (r++X)=some (fin r X Y e)
theorem m1_cell:Cell (-1):=by unfold Cell;omega
theorem ite_cell {p:Prop}[Decidable p]{x y:Int}(hx:Cell x)(hy:Cell y):Cell (if p then x else y):=by split<;>assumption
theorem half_cell {a:Int}(h:Cell a):Cell (Int.fdiv a 2):=by rw[fdiv_lit (by decide)];unfold Cell at *; omega
theorem bits_cell_and (a b:Int):Cell (ibits .and .i64 a b):=by
 first|(rw[ibits_def];show Cell (IntKind.wrap .i64 _);rw[wi];exact W_cell _)|(unfold cell_Aligned;rw[ibits_def];show Cell (IntKind.wrap .i64 _);rw[wi];exact W_cell _)
theorem bits_cell_or (a b:Int):Cell (ibits .or .i64 a b):=by
 first|(rw[ibits_def];show Cell (IntKind.wrap .i64 _);rw[wi];exact W_cell _)|(unfold cell_Aligned;rw[ibits_def];show Cell (IntKind.wrap .i64 _);rw[wi];exact W_cell _)
theorem bits_cell_xor (a b:Int):Cell (ibits .xor .i64 a b):=by
 first|(rw[ibits_def];show Cell (IntKind.wrap .i64 _);rw[wi];exact W_cell _)|(unfold cell_Aligned;rw[ibits_def];show Cell (IntKind.wrap .i64 _);rw[wi];exact W_cell _)
theorem aligned_cell (a:Int):Cell (cell_Aligned a):=by
 unfold cell_Aligned
 first|(rw[ibits_def];show Cell (IntKind.wrap .i64 _);rw[wi];exact W_cell _)|(unfold cell_Aligned;rw[ibits_def];show Cell (IntKind.wrap .i64 _);rw[wi];exact W_cell _)
theorem UM_cell (a b c:Int):Cell (UM a b c).1∧Cell (UM a b c).2.1:=by
 unfold UM
 split
 ·exact⟨zero_cell,zero_cell⟩
 ·split
  ·exact⟨W_cell _,W_cell _⟩
  ·exact⟨zero_cell,zero_cell⟩
theorem fmod_cell {s c:Int}(hc:Cell c)(h0:c≠0):Cell (s.fmod c):=by
 have h2:=Int.emod_nonneg s h0
 have h3:s%c<c.natAbs:=by
  have:=Int.emod_lt_of_pos s (b:=(c.natAbs:Int)) (by omega)
  rcases Int.natAbs_eq c with h|h
  ·rw[h];simpa using this
  ·rw[h,Int.emod_neg];simpa using this
 rw[Int.fmod_eq_emod]
 unfold Cell at*
 split<;>omega
theorem Sy_cell {a b c:Int}(ha:Cell a)(hb:Cell b)(hc:Cell c):Cell (Sy a b c).1∧Cell (Sy a b c).2.1:=by
 unfold Sy
 by_cases h0:c=0
 ·rw[if_pos h0];exact⟨zero_cell,zero_cell⟩
 ·rw[if_neg h0]
  by_cases h:Cell ((S a b).tdiv c)
  ·rw[if_pos h]
   have:=(tmod_facts (S a b) c h0).1
   exact⟨by unfold Cell at *; simp only;omega,h⟩
  ·rw[if_neg h];exact⟨zero_cell,zero_cell⟩
theorem FlD_cell {a b c:Int}(ha:Cell a)(hb:Cell b)(hc:Cell c):Cell (FlD a b c).1∧Cell (FlD a b c).2.1:=by
 unfold FlD
 by_cases h0:c=0
 ·rw[if_pos h0];exact⟨zero_cell,zero_cell⟩
 ·rw[if_neg h0]
  by_cases h:Cell ((S a b).fdiv c)
  ·rw[if_pos h];exact⟨fmod_cell hc h0,h⟩
  ·rw[if_neg h];exact⟨zero_cell,zero_cell⟩
theorem Fl3_cell {a b c:Int}(ha:Cell a)(hb:Cell b)(hc:Cell c):Cell (Fl3 a b c).1∧Cell (Fl3 a b c).2.1:=by
 unfold Fl3
 by_cases h0:c=0
 ·rw[if_pos h0];exact⟨zero_cell,zero_cell⟩
 ·rw[if_neg h0]
  by_cases h:Cell ((a*b).fdiv c)
  ·rw[if_pos h];exact⟨fmod_cell hc h0,h⟩
  ·rw[if_neg h];exact⟨zero_cell,zero_cell⟩
theorem fdiv_cell {a c:Int}(ha:Cell a)(hc:Cell c)(h0:c≠0)(h: ¬(c= -1∧a= -9223372036854775808)):Cell (a.fdiv c):=by
 have hq:=tdiv_cell ha hc h
 obtain⟨e1,e2⟩:=fdiv_of_tdiv (S:=a) (n:=c) (hi:=a) h0 Iff.rfl
 rw[e1]
 split
 ·rename_i g
  obtain⟨g,g2⟩:=g
  have:=Int.natAbs_tdiv a c
  have hb2:c≠1:=fun h=>g (by rw[h,Int.tmod_one])
  have hb3:c≠ -1:=fun h=>g (by rw[h,Int.tmod_neg,Int.tmod_one])
  have h6:a.natAbs/c.natAbs≤a.natAbs/2:=Nat.div_le_div_left (by omega) (by omega)
  have h7:(a.tdiv c).natAbs=a.natAbs/c.natAbs:=this
  unfold Cell at*
  omega
 ·exact hq
theorem F_cell {a b:Int}(ha:Cell a)(hb:Cell b):Cell (F a b).1∧Cell (F a b).2.1:=by
 unfold F
 by_cases h0:b=0
 ·rw[if_pos h0];exact⟨zero_cell,zero_cell⟩
 ·rw[if_neg h0]
  by_cases h:b= -1∧a= -9223372036854775808
  ·rw[if_pos h];exact⟨zero_cell,zero_cell⟩
  ·rw[if_neg h];exact⟨fdiv_cell ha hb h0 h,fmod_cell hb h0⟩
theorem cm10:Cell (-10):=by unfold Cell;omega
theorem cm11:Cell (-11):=by unfold Cell;omega
theorem F_err (a b:Int):Cell (F a b).2.2:=by
 unfold F
 split
 ·exact cm10
 ·split<;>first|exact zero_cell|exact cm11
theorem Fl3_err (a b c:Int):Cell (Fl3 a b c).2.2:=by
 unfold Fl3
 split
 ·exact cm10
 ·split<;>first|exact zero_cell|exact cm11
theorem FlD_err (a b c:Int):Cell (FlD a b c).2.2:=by
 unfold FlD
 split
 ·exact cm10
 ·split<;>first|exact zero_cell|exact cm11
theorem UM_err (a b c:Int):Cell (UM a b c).2.2:=by
 unfold UM
 split
 ·exact cm10
 ·split<;>first|exact zero_cell|exact cm11
theorem Sy_err (a b c:Int):Cell (Sy a b c).2.2:=by
 unfold Sy
 split
 ·exact cm10
 ·split<;>first|exact zero_cell|exact cm11
theorem tl_18:Tells 18 1 2:=fun X hX hc=>match X,hX,hc with|[a],_,⟨ha,_⟩=>⟨[a,a],0,⟨ha,⟨ha,trivial⟩⟩,rfl,fun h=>absurd rfl h,fun r h=>dk_18 h⟩
theorem tl_19:Tells 19 1 0:=fun X hX hc=>match X,hX,hc with|[a],_,⟨ha,_⟩=>⟨[],0,trivial,rfl,fun h=>absurd rfl h,fun r h=>dk_19 h⟩
theorem tl_20:Tells 20 2 2:=fun X hX hc=>match X,hX,hc with|[a,b],_,⟨ha,hb,_⟩=>⟨[b,a],0,⟨hb,⟨ha,trivial⟩⟩,rfl,fun h=>absurd rfl h,fun r h=>dk_20 h⟩
theorem tl_21:Tells 21 2 3:=fun X hX hc=>match X,hX,hc with|[a,b],_,⟨ha,hb,_⟩=>⟨[a,b,a],0,⟨ha,⟨hb,⟨ha,trivial⟩⟩⟩,rfl,fun h=>absurd rfl h,fun r h=>dk_21 h⟩
theorem tl_22:Tells 22 3 3:=fun X hX hc=>match X,hX,hc with|[a,b,c],_,⟨ha,hb,hc,_⟩=>⟨[b,c,a],0,⟨hb,⟨hc,⟨ha,trivial⟩⟩⟩,rfl,fun h=>absurd rfl h,fun r h=>dk_22 h⟩
theorem tl_23:Tells 23 2 1:=fun X hX hc=>match X,hX,hc with|[a,b],_,⟨ha,hb,_⟩=>⟨[b],0,⟨hb,trivial⟩,rfl,fun h=>absurd rfl h,fun r h=>dk_23 h⟩
theorem tl_24:Tells 24 2 3:=fun X hX hc=>match X,hX,hc with|[a,b],_,⟨ha,hb,_⟩=>⟨[b,a,b],0,⟨hb,⟨ha,⟨hb,trivial⟩⟩⟩,rfl,fun h=>absurd rfl h,fun r h=>dk_24 h⟩
theorem tl_25:Tells 25 2 4:=fun X hX hc=>match X,hX,hc with|[a,b],_,⟨ha,hb,_⟩=>⟨[a,b,a,b],0,⟨ha,⟨hb,⟨ha,⟨hb,trivial⟩⟩⟩⟩,rfl,fun h=>absurd rfl h,fun r h=>dk_25 h⟩
theorem tl_26:Tells 26 2 0:=fun X hX hc=>match X,hX,hc with|[a,b],_,⟨ha,hb,_⟩=>⟨[],0,trivial,rfl,fun h=>absurd rfl h,fun r h=>dk_26 h⟩
theorem tl_27:Tells 27 4 4:=fun X hX hc=>match X,hX,hc with|[a,b,c,d],_,⟨ha,hb,hc,hd,_⟩=>⟨[c,d,a,b],0,⟨hc,⟨hd,⟨ha,⟨hb,trivial⟩⟩⟩⟩,rfl,fun h=>absurd rfl h,fun r h=>dk_27 h⟩
theorem tl_28:Tells 28 4 6:=fun X hX hc=>match X,hX,hc with|[a,b,c,d],_,⟨ha,hb,hc,hd,_⟩=>⟨[a,b,c,d,a,b],0,⟨ha,⟨hb,⟨hc,⟨hd,⟨ha,⟨hb,trivial⟩⟩⟩⟩⟩⟩,rfl,fun h=>absurd rfl h,fun r h=>dk_28 h⟩
theorem tl_33:Tells 33 2 1:=fun X hX hc=>match X,hX,hc with|[a,b],_,⟨ha,hb,_⟩=>⟨[W (a+b)],0,⟨W_cell _,trivial⟩,rfl,fun h=>absurd rfl h,fun r h=>dk_33 h⟩
theorem tl_34:Tells 34 2 1:=fun X hX hc=>match X,hX,hc with|[a,b],_,⟨ha,hb,_⟩=>⟨[W (a-b)],0,⟨W_cell _,trivial⟩,rfl,fun h=>absurd rfl h,fun r h=>dk_34 h⟩
theorem tl_35:Tells 35 2 1:=fun X hX hc=>match X,hX,hc with|[a,b],_,⟨ha,hb,_⟩=>⟨[W (a*b)],0,⟨W_cell _,trivial⟩,rfl,fun h=>absurd rfl h,fun r h=>dk_35 h⟩
theorem tl_41:Tells 41 1 1:=fun X hX hc=>match X,hX,hc with|[a],_,⟨ha,_⟩=>⟨[W (a+1)],0,⟨W_cell _,trivial⟩,rfl,fun h=>absurd rfl h,fun r h=>dk_41 h⟩
theorem tl_42:Tells 42 1 1:=fun X hX hc=>match X,hX,hc with|[a],_,⟨ha,_⟩=>⟨[W (a-1)],0,⟨W_cell _,trivial⟩,rfl,fun h=>absurd rfl h,fun r h=>dk_42 h⟩
theorem tl_72:Tells 72 1 1:=fun X hX hc=>match X,hX,hc with|[a],_,⟨ha,_⟩=>⟨[W (a+8)],0,⟨W_cell _,trivial⟩,rfl,fun h=>absurd rfl h,fun r h=>dk_72 h⟩
theorem tl_45:Tells 45 1 1:=fun X hX hc=>match X,hX,hc with|[a],_,⟨ha,_⟩=>⟨[W (0-a)],0,⟨W_cell _,trivial⟩,rfl,fun h=>absurd rfl h,fun r h=>dk_45 h⟩
theorem tl_43:Tells 43 1 1:=fun X hX hc=>match X,hX,hc with|[a],_,⟨ha,_⟩=>⟨[W (a*2)],0,⟨W_cell _,trivial⟩,rfl,fun h=>absurd rfl h,fun r h=>dk_43 h⟩
theorem tl_71:Tells 71 1 1:=fun X hX hc=>match X,hX,hc with|[a],_,⟨ha,_⟩=>⟨[W (a*8)],0,⟨W_cell _,trivial⟩,rfl,fun h=>absurd rfl h,fun r h=>dk_71 h⟩
theorem tl_73:Tells 73 1 1:=fun X hX hc=>match X,hX,hc with|[a],_,⟨ha,_⟩=>⟨[W (a+1)],0,⟨W_cell _,trivial⟩,rfl,fun h=>absurd rfl h,fun r h=>dk_73 h⟩
theorem tl_36:Tells 36 2 1:=fun X hX hc=>match X,hX,hc with|[a,b],_,⟨ha,hb,_⟩=>⟨[(F a b).1],(F a b).2.2,⟨(F_cell ha hb).1,trivial⟩,rfl,fun _=>⟨by decide,F_err a b⟩,fun r h=>dk_36 h ha hb⟩
theorem tl_37:Tells 37 2 1:=fun X hX hc=>match X,hX,hc with|[a,b],_,⟨ha,hb,_⟩=>⟨[(F a b).2.1],(F a b).2.2,⟨(F_cell ha hb).2,trivial⟩,rfl,fun _=>⟨by decide,F_err a b⟩,fun r h=>dk_37 h ha hb⟩
theorem tl_38:Tells 38 2 2:=fun X hX hc=>match X,hX,hc with|[a,b],_,⟨ha,hb,_⟩=>⟨[(F a b).2.1,(F a b).1],(F a b).2.2,⟨(F_cell ha hb).2,⟨(F_cell ha hb).1,trivial⟩⟩,rfl,fun _=>⟨by decide,F_err a b⟩,fun r h=>dk_38 h ha hb⟩
theorem tl_39:Tells 39 3 1:=fun X hX hc=>match X,hX,hc with|[a,b,c],_,⟨ha,hb,hc,_⟩=>⟨[(Fl3 a b c).2.1],(Fl3 a b c).2.2,⟨(Fl3_cell ha hb hc).2,trivial⟩,rfl,fun _=>⟨by decide,Fl3_err a b c⟩,fun r h=>dk_39 h ha hb hc⟩
theorem tl_40:Tells 40 3 2:=fun X hX hc=>match X,hX,hc with|[a,b,c],_,⟨ha,hb,hc,_⟩=>⟨[(Fl3 a b c).1,(Fl3 a b c).2.1],(Fl3 a b c).2.2,⟨(Fl3_cell ha hb hc).1,⟨(Fl3_cell ha hb hc).2,trivial⟩⟩,rfl,fun _=>⟨by decide,Fl3_err a b c⟩,fun r h=>dk_40 h ha hb hc⟩
theorem tl_65:Tells 65 3 2:=fun X hX hc=>match X,hX,hc with|[a,b,c],_,⟨ha,hb,hc,_⟩=>⟨[(UM a b c).1,(UM a b c).2.1],(UM a b c).2.2,⟨(UM_cell a b c).1,⟨(UM_cell a b c).2,trivial⟩⟩,rfl,fun _=>⟨by decide,UM_err a b c⟩,fun r h=>dk_65 h ha hb hc⟩
theorem tl_66:Tells 66 3 2:=fun X hX hc=>match X,hX,hc with|[a,b,c],_,⟨ha,hb,hc,_⟩=>⟨[(FlD a b c).1,(FlD a b c).2.1],(FlD a b c).2.2,⟨(FlD_cell ha hb hc).1,⟨(FlD_cell ha hb hc).2,trivial⟩⟩,rfl,fun _=>⟨by decide,FlD_err a b c⟩,fun r h=>dk_66 h ha hb hc⟩
theorem tl_67:Tells 67 3 2:=fun X hX hc=>match X,hX,hc with|[a,b,c],_,⟨ha,hb,hc,_⟩=>⟨[(Sy a b c).1,(Sy a b c).2.1],(Sy a b c).2.2,⟨(Sy_cell ha hb hc).1,⟨(Sy_cell ha hb hc).2,trivial⟩⟩,rfl,fun _=>⟨by decide,Sy_err a b c⟩,fun r h=>dk_67 h ha hb hc⟩
theorem tl_44:Tells 44 1 1:=fun X hX hc=>match X,hX,hc with|[a],_,⟨ha,_⟩=>⟨[Int.fdiv a 2],0,⟨half_cell ha,trivial⟩,rfl,fun h=>absurd rfl h,fun r h=>dk_44 h⟩
theorem tl_46:Tells 46 1 1:=fun X hX hc=>match X,hX,hc with|[a],_,⟨ha,_⟩=>⟨[if W (0-a)>a then W (0-a) else a],0,⟨ite_cell (W_cell _) ha,trivial⟩,rfl,fun h=>absurd rfl h,fun r h=>dk_46 h⟩
theorem tl_47:Tells 47 2 1:=fun X hX hc=>match X,hX,hc with|[a,b],_,⟨ha,hb,_⟩=>⟨[if b<a then b else a],0,⟨ite_cell hb ha,trivial⟩,rfl,fun h=>absurd rfl h,fun r h=>dk_47 h⟩
theorem tl_48:Tells 48 2 1:=fun X hX hc=>match X,hX,hc with|[a,b],_,⟨ha,hb,_⟩=>⟨[if b>a then b else a],0,⟨ite_cell hb ha,trivial⟩,rfl,fun h=>absurd rfl h,fun r h=>dk_48 h⟩
theorem tl_49:Tells 49 2 1:=fun X hX hc=>match X,hX,hc with|[a,b],_,⟨ha,hb,_⟩=>⟨[ibits .and .i64 a b],0,⟨bits_cell_and a b,trivial⟩,rfl,fun h=>absurd rfl h,fun r h=>dk_49 h⟩
theorem tl_50:Tells 50 2 1:=fun X hX hc=>match X,hX,hc with|[a,b],_,⟨ha,hb,_⟩=>⟨[ibits .or .i64 a b],0,⟨bits_cell_or a b,trivial⟩,rfl,fun h=>absurd rfl h,fun r h=>dk_50 h⟩
theorem tl_51:Tells 51 2 1:=fun X hX hc=>match X,hX,hc with|[a,b],_,⟨ha,hb,_⟩=>⟨[ibits .xor .i64 a b],0,⟨bits_cell_xor a b,trivial⟩,rfl,fun h=>absurd rfl h,fun r h=>dk_51 h⟩
theorem tl_52:Tells 52 1 1:=fun X hX hc=>match X,hX,hc with|[a],_,⟨ha,_⟩=>⟨[ibits .xor .i64 (-1) a],0,⟨bits_cell_xor _ a,trivial⟩,rfl,fun h=>absurd rfl h,fun r h=>dk_52 h⟩
theorem tl_53:Tells 53 2 1:=fun X hX hc=>match X,hX,hc with|[a,b],_,⟨ha,hb,_⟩=>⟨[shlV a b],0,⟨shlV_cell a b,trivial⟩,rfl,fun h=>absurd rfl h,fun r h=>dk_53 h hb⟩
theorem tl_54:Tells 54 2 1:=fun X hX hc=>match X,hX,hc with|[a,b],_,⟨ha,hb,_⟩=>⟨[shrV a b],0,⟨shrV_cell a b,trivial⟩,rfl,fun h=>absurd rfl h,fun r h=>dk_54 h hb⟩
theorem tl_55:Tells 55 2 1:=fun X hX hc=>match X,hX,hc with|[a,b],_,⟨ha,hb,_⟩=>⟨[if a==b then -1 else 0],0,⟨ite_cell m1_cell zero_cell,trivial⟩,rfl,fun h=>absurd rfl h,fun r h=>dk_55 h⟩
theorem tl_56:Tells 56 2 1:=fun X hX hc=>match X,hX,hc with|[a,b],_,⟨ha,hb,_⟩=>⟨[if a != b then -1 else 0],0,⟨ite_cell m1_cell zero_cell,trivial⟩,rfl,fun h=>absurd rfl h,fun r h=>dk_56 h⟩
theorem tl_57:Tells 57 2 1:=fun X hX hc=>match X,hX,hc with|[a,b],_,⟨ha,hb,_⟩=>⟨[if decide (a<b) then -1 else 0],0,⟨ite_cell m1_cell zero_cell,trivial⟩,rfl,fun h=>absurd rfl h,fun r h=>dk_57 h⟩
theorem tl_58:Tells 58 2 1:=fun X hX hc=>match X,hX,hc with|[a,b],_,⟨ha,hb,_⟩=>⟨[if decide (a>b) then -1 else 0],0,⟨ite_cell m1_cell zero_cell,trivial⟩,rfl,fun h=>absurd rfl h,fun r h=>dk_58 h⟩
theorem tl_59:Tells 59 2 1:=fun X hX hc=>match X,hX,hc with|[a,b],_,⟨ha,hb,_⟩=>⟨[if cell_Ult a b then -1 else 0],0,⟨ite_cell m1_cell zero_cell,trivial⟩,rfl,fun h=>absurd rfl h,fun r h=>dk_59 h⟩
theorem tl_60:Tells 60 1 1:=fun X hX hc=>match X,hX,hc with|[a],_,⟨ha,_⟩=>⟨[if a==0 then -1 else 0],0,⟨ite_cell m1_cell zero_cell,trivial⟩,rfl,fun h=>absurd rfl h,fun r h=>dk_60 h⟩
theorem tl_61:Tells 61 1 1:=fun X hX hc=>match X,hX,hc with|[a],_,⟨ha,_⟩=>⟨[if decide (a<0) then -1 else 0],0,⟨ite_cell m1_cell zero_cell,trivial⟩,rfl,fun h=>absurd rfl h,fun r h=>dk_61 h⟩
theorem tl_62:Tells 62 3 1:=fun X hX hc=>match X,hX,hc with|[a,b,c],_,⟨ha,hb,hc,_⟩=>⟨[if cell_Within a b c then -1 else 0],0,⟨ite_cell m1_cell zero_cell,trivial⟩,rfl,fun h=>absurd rfl h,fun r h=>dk_62 h⟩
theorem tl_63:Tells 63 2 2:=fun X hX hc=>match X,hX,hc with|[a,b],_,⟨ha,hb,_⟩=>⟨[(dbl_UMul a b).1,(dbl_UMul a b).2],0,⟨by rw[UMul_eq];exact W_cell _,⟨by rw[UMul_eq];exact W_cell _,trivial⟩⟩,rfl,fun h=>absurd rfl h,fun r h=>dk_63 h⟩
theorem tl_64:Tells 64 2 2:=fun X hX hc=>match X,hX,hc with|[a,b],_,⟨ha,hb,_⟩=>⟨[(Pd (a*b)).1,(Pd (a*b)).2],0,⟨W_cell _,⟨W_cell _,trivial⟩⟩,rfl,fun h=>absurd rfl h,fun r h=>dk_64 h ha hb⟩
theorem tl_68:Tells 68 1 2:=fun X hX hc=>match X,hX,hc with|[a],_,⟨ha,_⟩=>⟨[(dbl_Of a).1,(dbl_Of a).2],0,⟨by rw[Of_eq ha];exact W_cell _,⟨by rw[Of_eq ha];exact W_cell _,trivial⟩⟩,rfl,fun h=>absurd rfl h,fun r h=>dk_68 h⟩
theorem tl_69:Tells 69 4 2:=fun X hX hc=>match X,hX,hc with|[a,b,c,d],_,⟨ha,hb,hc,hd,_⟩=>⟨[(Pd (S a b+S c d)).1,(Pd (S a b+S c d)).2],0,⟨W_cell _,⟨W_cell _,trivial⟩⟩,rfl,fun h=>absurd rfl h,fun r h=>dk_69 h ha hb hc hd⟩
theorem tl_70:Tells 70 2 2:=fun X hX hc=>match X,hX,hc with|[a,b],_,⟨ha,hb,_⟩=>⟨[(Pd (-S a b)).1,(Pd (-S a b)).2],0,⟨W_cell _,⟨W_cell _,trivial⟩⟩,rfl,fun h=>absurd rfl h,fun r h=>dk_70 h ha hb⟩
theorem tl_74:Tells 74 1 1:=fun X hX hc=>match X,hX,hc with|[a],_,⟨ha,_⟩=>⟨[cell_Aligned a],0,⟨aligned_cell a,trivial⟩,rfl,fun h=>absurd rfl h,fun r h=>dk_74 h⟩
end Go.Proofs.Dbl
/- Plain facts about single operations: too few cells, too many; what is none of these. -/
namespace Go.Proofs.Dbl
open Go Go.TX Go.Proofs
set_option maxRecDepth 100000
set_option maxHeartbeats 0
set_option linter.unusedVariables false
set_option linter.unusedSimpArgs false
theorem un_18 {d:List Int}(h:d.length<1):Do_18 d=some (d, -4):=by
 unfold Do_18 Do_18_t
 rw[ct (by omega)]
theorem un_19 {d:List Int}(h:d.length<1):Do_19 d=some (d, -4):=by
 unfold Do_19 Do_19_t
 rw[ct (by omega)]
theorem un_20 {d:List Int}(h:d.length<2):Do_20 d=some (d, -4):=by
 unfold Do_20 Do_20_t
 rw[ct (by omega)]
theorem un_21 {d:List Int}(h:d.length<2):Do_21 d=some (d, -4):=by
 unfold Do_21 Do_21_t
 rw[ct (by omega)]
theorem un_22 {d:List Int}(h:d.length<3):Do_22 d=some (d, -4):=by
 unfold Do_22 Do_22_t
 rw[ct (by omega)]
theorem un_23 {d:List Int}(h:d.length<2):Do_23 d=some (d, -4):=by
 unfold Do_23 Do_23_t
 rw[ct (by omega)]
theorem un_24 {d:List Int}(h:d.length<2):Do_24 d=some (d, -4):=by
 unfold Do_24 Do_24_t
 rw[ct (by omega)]
theorem un_25 {d:List Int}(h:d.length<2):Do_25 d=some (d, -4):=by
 unfold Do_25 Do_25_t
 rw[ct (by omega)]
theorem un_26 {d:List Int}(h:d.length<2):Do_26 d=some (d, -4):=by
 unfold Do_26 Do_26_t
 rw[ct (by omega)]
theorem un_27 {d:List Int}(h:d.length<4):Do_27 d=some (d, -4):=by
 unfold Do_27 Do_27_t
 rw[ct (by omega)]
theorem un_28 {d:List Int}(h:d.length<4):Do_28 d=some (d, -4):=by
 unfold Do_28 Do_28_t
 rw[ct (by omega)]
theorem un_29 {d:List Int}(h:d.length<1):Do_29 d=some (d, -4):=by
 unfold Do_29 Do_29_t
 rw[ct (by omega)]
theorem un_30 {d:List Int}(h:d.length<1):Do_30 d=some (d, -4):=by
 unfold Do_30 Do_30_t
 rw[ct (by omega)]
theorem un_31 {d:List Int}(h:d.length<1):Do_31 d=some (d, -4):=by
 unfold Do_31 Do_31_t
 rw[ct (by omega)]
theorem un_33 {d:List Int}(h:d.length<2):Do_33 d=some (d, -4):=by
 unfold Do_33 Do_33_t
 rw[ct (by omega)]
theorem un_34 {d:List Int}(h:d.length<2):Do_34 d=some (d, -4):=by
 unfold Do_34 Do_34_t
 rw[ct (by omega)]
theorem un_35 {d:List Int}(h:d.length<2):Do_35 d=some (d, -4):=by
 unfold Do_35 Do_35_t
 rw[ct (by omega)]
theorem un_36 {d:List Int}(h:d.length<2):Do_36 d=some (d, -4):=by
 unfold Do_36 Do_36_t
 rw[ct (by omega)]
theorem un_37 {d:List Int}(h:d.length<2):Do_37 d=some (d, -4):=by
 unfold Do_37 Do_37_t
 rw[ct (by omega)]
theorem un_38 {d:List Int}(h:d.length<2):Do_38 d=some (d, -4):=by
 unfold Do_38 Do_38_t
 rw[ct (by omega)]
theorem un_39 {d:List Int}(h:d.length<3):Do_39 d=some (d, -4):=by
 unfold Do_39 Do_39_t
 rw[ct (by omega)]
theorem un_40 {d:List Int}(h:d.length<3):Do_40 d=some (d, -4):=by
 unfold Do_40 Do_40_t
 rw[ct (by omega)]
theorem un_41 {d:List Int}(h:d.length<1):Do_41 d=some (d, -4):=by
 unfold Do_41 Do_41_t
 rw[ct (by omega)]
theorem un_42 {d:List Int}(h:d.length<1):Do_42 d=some (d, -4):=by
 unfold Do_42 Do_42_t
 rw[ct (by omega)]
theorem un_43 {d:List Int}(h:d.length<1):Do_43 d=some (d, -4):=by
 unfold Do_43 Do_43_t
 rw[ct (by omega)]
theorem un_44 {d:List Int}(h:d.length<1):Do_44 d=some (d, -4):=by
 unfold Do_44 Do_44_t
 rw[ct (by omega)]
theorem un_45 {d:List Int}(h:d.length<1):Do_45 d=some (d, -4):=by
 unfold Do_45 Do_45_t
 rw[ct (by omega)]
theorem un_46 {d:List Int}(h:d.length<1):Do_46 d=some (d, -4):=by
 unfold Do_46 Do_46_t
 rw[ct (by omega)]
theorem un_47 {d:List Int}(h:d.length<2):Do_47 d=some (d, -4):=by
 unfold Do_47 Do_47_t
 rw[ct (by omega)]
theorem un_48 {d:List Int}(h:d.length<2):Do_48 d=some (d, -4):=by
 unfold Do_48 Do_48_t
 rw[ct (by omega)]
theorem un_49 {d:List Int}(h:d.length<2):Do_49 d=some (d, -4):=by
 unfold Do_49 Do_49_t
 rw[ct (by omega)]
theorem un_50 {d:List Int}(h:d.length<2):Do_50 d=some (d, -4):=by
 unfold Do_50 Do_50_t
 rw[ct (by omega)]
theorem un_51 {d:List Int}(h:d.length<2):Do_51 d=some (d, -4):=by
 unfold Do_51 Do_51_t
 rw[ct (by omega)]
theorem un_52 {d:List Int}(h:d.length<1):Do_52 d=some (d, -4):=by
 unfold Do_52 Do_52_t
 rw[ct (by omega)]
theorem un_53 {d:List Int}(h:d.length<2):Do_53 d=some (d, -4):=by
 unfold Do_53 Do_53_t
 rw[ct (by omega)]
theorem un_54 {d:List Int}(h:d.length<2):Do_54 d=some (d, -4):=by
 unfold Do_54 Do_54_t
 rw[ct (by omega)]
theorem un_55 {d:List Int}(h:d.length<2):Do_55 d=some (d, -4):=by
 unfold Do_55 Do_55_t
 rw[ct (by omega)]
theorem un_56 {d:List Int}(h:d.length<2):Do_56 d=some (d, -4):=by
 unfold Do_56 Do_56_t
 rw[ct (by omega)]
theorem un_57 {d:List Int}(h:d.length<2):Do_57 d=some (d, -4):=by
 unfold Do_57 Do_57_t
 rw[ct (by omega)]
theorem un_58 {d:List Int}(h:d.length<2):Do_58 d=some (d, -4):=by
 unfold Do_58 Do_58_t
 rw[ct (by omega)]
theorem un_59 {d:List Int}(h:d.length<2):Do_59 d=some (d, -4):=by
 unfold Do_59 Do_59_t
 rw[ct (by omega)]
theorem un_60 {d:List Int}(h:d.length<1):Do_60 d=some (d, -4):=by
 unfold Do_60 Do_60_t
 rw[ct (by omega)]
theorem un_61 {d:List Int}(h:d.length<1):Do_61 d=some (d, -4):=by
 unfold Do_61 Do_61_t
 rw[ct (by omega)]
theorem un_62 {d:List Int}(h:d.length<3):Do_62 d=some (d, -4):=by
 unfold Do_62 Do_62_t
 rw[ct (by omega)]
theorem un_63 {d:List Int}(h:d.length<2):Do_63 d=some (d, -4):=by
 unfold Do_63 Do_63_t
 rw[ct (by omega)]
theorem un_64 {d:List Int}(h:d.length<2):Do_64 d=some (d, -4):=by
 unfold Do_64 Do_64_t
 rw[ct (by omega)]
theorem un_65 {d:List Int}(h:d.length<3):Do_65 d=some (d, -4):=by
 unfold Do_65 Do_65_t
 rw[ct (by omega)]
theorem un_66 {d:List Int}(h:d.length<3):Do_66 d=some (d, -4):=by
 unfold Do_66 Do_66_t
 rw[ct (by omega)]
theorem un_67 {d:List Int}(h:d.length<3):Do_67 d=some (d, -4):=by
 unfold Do_67 Do_67_t
 rw[ct (by omega)]
theorem un_68 {d:List Int}(h:d.length<1):Do_68 d=some (d, -4):=by
 unfold Do_68 Do_68_t
 rw[ct (by omega)]
theorem un_69 {d:List Int}(h:d.length<4):Do_69 d=some (d, -4):=by
 unfold Do_69 Do_69_t
 rw[ct (by omega)]
theorem un_70 {d:List Int}(h:d.length<2):Do_70 d=some (d, -4):=by
 unfold Do_70 Do_70_t
 rw[ct (by omega)]
theorem un_71 {d:List Int}(h:d.length<1):Do_71 d=some (d, -4):=by
 unfold Do_71 Do_71_t
 rw[ct (by omega)]
theorem un_72 {d:List Int}(h:d.length<1):Do_72 d=some (d, -4):=by
 unfold Do_72 Do_72_t
 rw[ct (by omega)]
theorem un_73 {d:List Int}(h:d.length<1):Do_73 d=some (d, -4):=by
 unfold Do_73 Do_73_t
 rw[ct (by omega)]
theorem un_74 {d:List Int}(h:d.length<1):Do_74 d=some (d, -4):=by
 unfold Do_74 Do_74_t
 rw[ct (by omega)]
def needL:List Nat:=[1,1,2,2,3,2,2,2,2,4,4,1,1,1,0,2,2,2,2,2,2,3,3,1,1,1,1,1,1,2,2,2,2,2,1,2,2,2,2,2,2,2,1,1,3,2,2,3,3,3,1,4,2,1,1,1,1]
def need (k:Nat):Nat:=needL.getD (k-18) 0
theorem tab_un {d:List Int}: ∀k:Nat,18≤k→k≤74→d.length<need k→Do_tab k d=some (d, -4)
 |18,_,_,h=>un_18 h
 |19,_,_,h=>un_19 h
 |20,_,_,h=>un_20 h
 |21,_,_,h=>un_21 h
 |22,_,_,h=>un_22 h
 |23,_,_,h=>un_23 h
 |24,_,_,h=>un_24 h
 |25,_,_,h=>un_25 h
 |26,_,_,h=>un_26 h
 |27,_,_,h=>un_27 h
 |28,_,_,h=>un_28 h
 |29,_,_,h=>un_29 h
 |30,_,_,h=>un_30 h
 |31,_,_,h=>un_31 h
 |32,_,_,h=>absurd h (Nat.not_lt_zero _)
 |33,_,_,h=>un_33 h
 |34,_,_,h=>un_34 h
 |35,_,_,h=>un_35 h
 |36,_,_,h=>un_36 h
 |37,_,_,h=>un_37 h
 |38,_,_,h=>un_38 h
 |39,_,_,h=>un_39 h
 |40,_,_,h=>un_40 h
 |41,_,_,h=>un_41 h
 |42,_,_,h=>un_42 h
 |43,_,_,h=>un_43 h
 |44,_,_,h=>un_44 h
 |45,_,_,h=>un_45 h
 |46,_,_,h=>un_46 h
 |47,_,_,h=>un_47 h
 |48,_,_,h=>un_48 h
 |49,_,_,h=>un_49 h
 |50,_,_,h=>un_50 h
 |51,_,_,h=>un_51 h
 |52,_,_,h=>un_52 h
 |53,_,_,h=>un_53 h
 |54,_,_,h=>un_54 h
 |55,_,_,h=>un_55 h
 |56,_,_,h=>un_56 h
 |57,_,_,h=>un_57 h
 |58,_,_,h=>un_58 h
 |59,_,_,h=>un_59 h
 |60,_,_,h=>un_60 h
 |61,_,_,h=>un_61 h
 |62,_,_,h=>un_62 h
 |63,_,_,h=>un_63 h
 |64,_,_,h=>un_64 h
 |65,_,_,h=>un_65 h
 |66,_,_,h=>un_66 h
 |67,_,_,h=>un_67 h
 |68,_,_,h=>un_68 h
 |69,_,_,h=>un_69 h
 |70,_,_,h=>un_70 h
 |71,_,_,h=>un_71 h
 |72,_,_,h=>un_72 h
 |73,_,_,h=>un_73 h
 |74,_,_,h=>un_74 h
 |0,h,_,_|1,h,_,_|2,h,_,_|3,h,_,_|4,h,_,_|5,h,_,_|6,h,_,_|7,h,_,_|8,h,_,_|9,h,_,_|10,h,_,_|11,h,_,_|12,h,_,_|13,h,_,_|14,h,_,_|15,h,_,_|16,h,_,_|17,h,_,_=>by omega
 |n+75,_,h,_=>by omega
theorem group_in:(List.range 111).all (fun n=>match op_Group (n:Int) with|some g=>(g==1)==decide (18≤n∧n≤74)|none=>false)=true:=by kernel_rfl
theorem group_far {o:Int}(h:o<0∨111≤o):op_Group o=some (-1):=by
 have h1:op_in o=some false:=by
  unfold op_in op_in_t
  by_cases h0:o≥0
  ·rw[ct h0,decide_eq_false (by omega)]
  ·rw[cf h0]
 unfold op_Group op_Group_t op_of op_of_t
 rw[h1];rfl
end Go.Proofs.Dbl
/- Plain facts about single operations: each tells something, of cells cells. -/
namespace Go.Proofs.Dbl
open Go Go.TX Go.Proofs
set_option maxRecDepth 100000
set_option maxHeartbeats 0
set_option linter.unusedVariables false
set_option linter.unusedSimpArgs false
theorem tells_tab: ∀k:Nat,18≤k→k≤74→(k<29∨32<k)→ ∃m,Tells k (need k) m
 |18,_,_,_=>⟨2,tl_18⟩
 |19,_,_,_=>⟨0,tl_19⟩
 |20,_,_,_=>⟨2,tl_20⟩
 |21,_,_,_=>⟨3,tl_21⟩
 |22,_,_,_=>⟨3,tl_22⟩
 |23,_,_,_=>⟨1,tl_23⟩
 |24,_,_,_=>⟨3,tl_24⟩
 |25,_,_,_=>⟨4,tl_25⟩
 |26,_,_,_=>⟨0,tl_26⟩
 |27,_,_,_=>⟨4,tl_27⟩
 |28,_,_,_=>⟨6,tl_28⟩
 |29,_,_,h=>by omega
 |30,_,_,h=>by omega
 |31,_,_,h=>by omega
 |32,_,_,h=>by omega
 |33,_,_,_=>⟨1,tl_33⟩
 |34,_,_,_=>⟨1,tl_34⟩
 |35,_,_,_=>⟨1,tl_35⟩
 |36,_,_,_=>⟨1,tl_36⟩
 |37,_,_,_=>⟨1,tl_37⟩
 |38,_,_,_=>⟨2,tl_38⟩
 |39,_,_,_=>⟨1,tl_39⟩
 |40,_,_,_=>⟨2,tl_40⟩
 |41,_,_,_=>⟨1,tl_41⟩
 |42,_,_,_=>⟨1,tl_42⟩
 |43,_,_,_=>⟨1,tl_43⟩
 |44,_,_,_=>⟨1,tl_44⟩
 |45,_,_,_=>⟨1,tl_45⟩
 |46,_,_,_=>⟨1,tl_46⟩
 |47,_,_,_=>⟨1,tl_47⟩
 |48,_,_,_=>⟨1,tl_48⟩
 |49,_,_,_=>⟨1,tl_49⟩
 |50,_,_,_=>⟨1,tl_50⟩
 |51,_,_,_=>⟨1,tl_51⟩
 |52,_,_,_=>⟨1,tl_52⟩
 |53,_,_,_=>⟨1,tl_53⟩
 |54,_,_,_=>⟨1,tl_54⟩
 |55,_,_,_=>⟨1,tl_55⟩
 |56,_,_,_=>⟨1,tl_56⟩
 |57,_,_,_=>⟨1,tl_57⟩
 |58,_,_,_=>⟨1,tl_58⟩
 |59,_,_,_=>⟨1,tl_59⟩
 |60,_,_,_=>⟨1,tl_60⟩
 |61,_,_,_=>⟨1,tl_61⟩
 |62,_,_,_=>⟨1,tl_62⟩
 |63,_,_,_=>⟨2,tl_63⟩
 |64,_,_,_=>⟨2,tl_64⟩
 |65,_,_,_=>⟨2,tl_65⟩
 |66,_,_,_=>⟨2,tl_66⟩
 |67,_,_,_=>⟨2,tl_67⟩
 |68,_,_,_=>⟨2,tl_68⟩
 |69,_,_,_=>⟨2,tl_69⟩
 |70,_,_,_=>⟨2,tl_70⟩
 |71,_,_,_=>⟨1,tl_71⟩
 |72,_,_,_=>⟨1,tl_72⟩
 |73,_,_,_=>⟨1,tl_73⟩
 |74,_,_,_=>⟨1,tl_74⟩
 |0,h,_,_|1,h,_,_|2,h,_,_|3,h,_,_|4,h,_,_|5,h,_,_|6,h,_,_|7,h,_,_|8,h,_,_|9,h,_,_|10,h,_,_|11,h,_,_|12,h,_,_|13,h,_,_|14,h,_,_|15,h,_,_|16,h,_,_|17,h,_,_=>by omega
 |n+75,_,h,_=>by omega
theorem AllC_append {l m:List Int}:AllC (l++m)↔AllC l∧AllC m:=by
 induction l with
 |nil=>simp[AllC]
 |cons a l ih=>simp[AllC,ih,and_assoc]
theorem AllC_get {l:List Int}(h:AllC l): ∀i,Cell (l.getD i 0):=by
 induction l with
 |nil=>intro i;simpa using zero_cell
 |cons a l ih=>
  intro i
  cases i with
  |zero=>exact h.1
  |succ i=>exact ih h.2 i
theorem AllC_take {l:List Int}(h:AllC l)(n:Nat):AllC (l.take n):=by
 have:=h;rw[← List.take_append_drop n l,AllC_append] at this;exact this.1
theorem AllC_drop {l:List Int}(h:AllC l)(n:Nat):AllC (l.drop n):=by
 have:=h;rw[← List.take_append_drop n l,AllC_append] at this;exact this.2
theorem AllC_of {l:List Int}(h: ∀x∈l,Cell x):AllC l:=by
 induction l with
 |nil=>trivial
 |cons a l ih=>exact⟨h a (by simp),ih fun x hx=>h x (by simp[hx])⟩
def Fine (r:Option (List Int×Int)):Prop:= ∃d e,r=some (d,e)∧AllC d∧d.length≤64∧Cell e
theorem last1 (l:List Int)(h:1≤l.length): ∃r a,l=r++[a]∧r.length+1=l.length:=by
 refine⟨l.take (l.length-1),l.getD (l.length-1) 0, ?_,by simp;omega⟩
 conv=>lhs;rw[← List.take_append_drop (l.length-1) l]
 congr 1
 rw[List.drop_eq_getElem_cons (by omega),show l.length-1+1=l.length from by omega,List.drop_length]
 simp[List.getD_eq_getElem?_getD,show l.length-1<l.length from by omega]
theorem fine_29 {d:List Int}(hd:AllC d)(h1:1≤d.length)(h2:d.length≤64):Fine (Do_29 d):=by
 unfold Do_29 Do_29_t
 rw[cf (by omega),cf (by omega),Pick_eq (by omega) zero_cell,if_pos (by omega)]
 simp only[outOf_some]
 have hc:=AllC_get hd (d.length-1-(0:Int).toNat)
 generalize d.getD (d.length-1-(0:Int).toNat) 0=x at*
 by_cases hx:x=0
 ·rw[show(x==0)=true from by simp[hx]];exact⟨_,_,rfl,hd,h2,by unfold Cell;omega⟩
 ·rw[beq_eq_false_iff_ne.2 hx,Push_eq (by omega) (by simp)]
  by_cases g:64<d.length+[x].length
  ·rw[if_pos g];exact⟨_,_,rfl,hd,h2,by unfold Cell;omega⟩
  ·rw[if_neg g];exact⟨_,_,rfl,AllC_append.2 ⟨hd,hc,trivial⟩,by simp at g ⊢; omega,by unfold Cell;omega⟩
theorem fine_32 {d:List Int}(hd:AllC d)(h2:d.length≤64):Fine (Do_32 d):=by
 unfold Do_32 Do_32_t
 rw[cf (by omega),cf (by omega),Push_eq (by omega) (by simp)]
 by_cases g:64<d.length+[(d.length:Int)].length
 ·rw[if_pos g];exact⟨_,_,rfl,hd,h2,by unfold Cell;omega⟩
 ·rw[if_neg g];exact⟨_,_,rfl,AllC_append.2 ⟨hd,by unfold Cell;omega,trivial⟩,by simp at g ⊢; omega,by unfold Cell;omega⟩
theorem fine_30 {d:List Int}(hd:AllC d)(h1:1≤d.length)(h2:d.length≤64):Fine (Do_30 d):=by
 obtain⟨r,a,rfl,hr⟩:=last1 d h1
 have hra:=AllC_append.1 hd
 unfold Do_30 Do_30_t
 rw[cf (by omega),cf (by omega),popX1 (by omega)]
 simp only[outOf_some]
 rw[ct (by simp)]
 rw[show List.getD [a] 0 0=a from rfl,Pick_eq (by omega) hra.2.1]
 by_cases g:0≤a∧a<(r.length:Int)
 ·rw[if_pos g]
  have hc:=AllC_get hra.1 (r.length-1-a.toNat)
  simp only[outOf_some]
  generalize r.getD (r.length-1-a.toNat) 0=x at*
  rw[Push_eq (by omega) (by simp)]
  by_cases g2:64<r.length+[x].length
  ·rw[if_pos g2];exact⟨_,_,rfl,hd,h2,by unfold Cell;omega⟩
  ·rw[if_neg g2];exact⟨_,_,rfl,AllC_append.2 ⟨hra.1,hc,trivial⟩,by simp at g2 ⊢; omega,by unfold Cell;omega⟩
 ·rw[if_neg g];exact⟨_,_,rfl,hd,h2,by unfold Cell;omega⟩
theorem fine_31 {d:List Int}(hd:AllC d)(h1:1≤d.length)(h2:d.length≤64):Fine (Do_31 d):=by
 obtain⟨r,a,rfl,hr⟩:=last1 d h1
 have hra:=AllC_append.1 hd
 unfold Do_31 Do_31_t
 rw[cf (by omega),cf (by omega),popX1 (by omega)]
 simp only[outOf_some]
 rw[ct (by simp)]
 rw[show List.getD [a] 0 0=a from rfl,Roll_eq (by omega) hra.2.1]
 by_cases g:0≤a∧a<(r.length:Int)
 ·rw[if_pos g]
  refine⟨_,_,rfl,AllC_append.2 ⟨AllC_append.2 ⟨AllC_take hra.1 _,AllC_drop hra.1 _⟩,AllC_get hra.1 _,trivial⟩, ?_,by unfold Cell;omega⟩
  simp
  omega
 ·rw[if_neg g];exact⟨_,_,rfl,hd,h2,by unfold Cell;omega⟩
theorem split_at {d:List Int}{n:Nat}(h:n≤d.length): ∃r x,d=r++x∧x.length=n∧r.length+n=d.length:=
 ⟨d.take (d.length-n),d.drop (d.length-n),(List.take_append_drop _ _).symm,by simp;omega,by simp;omega⟩
theorem group_out {o:Int}(h: ¬(18≤o∧o≤74)): ∃g,op_Group o=some g∧g≠1:=by
 by_cases hf:o<0∨111≤o
 ·exact⟨-1,group_far hf,by decide⟩
 ·have:=List.all_eq_true.1 group_in o.toNat (List.mem_range.2 (by omega))
  rw[Int.toNat_of_nonneg (by omega)] at this
  cases hg:op_Group o with
  |none=>rw[hg] at this;cases this
  |some g=>
   rw[hg] at this
   refine⟨g,rfl,fun e=> ?_⟩
   subst e
   have h2:decide (18≤o.toNat∧o.toNat≤74)=false:=decide_eq_false (by omega)
   simp only[h2] at this
   cases this
theorem Do_fine {o:Int}{d:List Int}(hd:AllC d)(h:d.length≤64):Fine (pure_Do o d):=by
 by_cases g:18≤o∧o≤74
 ·obtain⟨k,rfl⟩: ∃k:Nat,o=(k:Int):=⟨o.toNat,by omega⟩
  rw[Do_at (by omega) (by omega)]
  by_cases hn:d.length<need k
  ·rw[tab_un k (by omega) (by omega) hn];exact⟨_,_,rfl,hd,h,by unfold Cell;omega⟩
  ·by_cases hs:k<29∨32<k
   ·obtain⟨m,ht⟩:=tells_tab k (by omega) (by omega) hs
    obtain⟨r,x,rfl,hx,hr⟩:=split_at (d:=d) (n:=need k) (by omega)
    have hra:=AllC_append.1 hd
    obtain⟨y,e,hy,_,he,ht⟩:=ht x hx hra.2
    rw[ht r (by omega)]
    unfold fin
    split
    ·rename_i hz;exact⟨_,_,rfl,hd,h,(he hz).2⟩
    ·split
     ·exact⟨_,_,rfl,hd,h,by unfold Cell;omega⟩
     ·exact⟨_,_,rfl,AllC_append.2 ⟨hra.1,hy⟩,by simp;omega,by unfold Cell;omega⟩
   ·have hk:k=29∨k=30∨k=31∨k=32:=by omega
    rcases hk with rfl|rfl|rfl|rfl
    ·exact fine_29 hd (Nat.not_lt.1 hn) h
    ·exact fine_30 hd (Nat.not_lt.1 hn) h
    ·exact fine_31 hd (Nat.not_lt.1 hn) h
    ·exact fine_32 hd h
 ·obtain⟨v,hv,hne⟩:=group_out g
  unfold pure_Do
  rw[if_neg g,hv]
  refine⟨d, -21, ?_,hd,h,by unfold Cell;omega⟩
  show cond (v != 1) _ _=_
  rw[show(v != 1)=true from by simpa using hne];rfl
end Go.Proofs.Dbl
