/- Numbers over values as data: the document's values: their parts, sums, products. Numbers over values as data: the document's values: differences, order, right numbers. The statements' own small functions of layer 2: light. The seat's deck: numbers drawn from a list of words. A plan's check by bit masks: quick enough for the kernel at a region of a hundred operations. Plans with forks that join again, checked by bit masks. The statements' own small functions of layer 2: known, light. -/
import Derived.Test.YtgapammfekmihaaGreatDoorZbPX
import Derived.Test.YtgapammfekmihaaGreatDoorZbPU
import Derived.Test.YtgapammfekmihaaGreatDoorZbPC
set_option linter.unusedSimpArgs false
set_option linter.unusedVariables false
set_option maxRecDepth 100000
namespace Go.V
open Go Go.RowKit Go.Proofs
def qC4_61_1:List (Nat × Nat):=[(0,0),(1,2),(2,0),(3,1),(5,0),(6,2),(4,4),(7,0),(8,3)]
def qC4_106_3:List (Nat × Nat):=[(0,0),(1,2),(2,0),(3,2),(4,0),(5,0),(6,1),(7,0),(8,1),(10,0),(11,2),(12,0),(13,2),(14,0),(9,4),(15,0),(16,3)]
def qC4_103_6:List (Nat × Nat):=[(0,0),(1,1),(2,0),(3,1),(4,0),(5,0),(7,0),(8,2),(9,0),(10,2),(11,0),(12,0),(6,4),(13,3),(14,0),(15,0)]
def qC4_103_8:List (Nat × Nat):=[(0,0),(1,2),(2,0),(3,0),(5,0),(4,4),(6,3),(7,3)]
def qC4_103_11:List (Nat × Nat):=[(0,0),(1,2),(2,0),(3,0),(5,0),(4,4),(6,3),(7,3)]
def qC4_103_13:List (Nat × Nat):=[(0,0),(1,2),(2,0),(3,0),(5,0),(4,4),(6,3),(7,3)]
attribute [go_sem] qC4_61_1 qC4_106_3 qC4_103_6 qC4_103_8 qC4_103_11 qC4_103_13
def VA (d:Dyadic):D:=.agg [bl (fS d),W32 (D32 (fN d)),i64 (fE d)]
attribute [go_sem] VA
theorem D32_0:D32 0=[]:=digs_zero _
theorem N32_D32 (n:Nat):N32 (D32 n)=n:=nval_digs (by decide) n
theorem D32_b (n:Nat):B32 (D32 n):=digs_lt (by decide) n
theorem D32_l0 {n:Nat}:((D32 n).length=0)=(n=0):=by rw [List.length_eq_zero_iff];exact propext (digs_eq_nil (by decide))
theorem VA_0:VA 0=.agg [bl false,W32 [],i64 0]:=by unfold VA;rw [fN_zero,D32_0];rfl
theorem p_rOdd {k:Nat} {neg:Bool} {n:Nat} {e:Int} (hn:n<2 ^ k) (hk:k≤1073741824) (h1 : -1099511627776≤e) (h2:e≤1099511627776):PC Tryz.prog 147 [bl neg,W32 (D32 n),i64 e] fun d=>d=VA (dy neg n e):=by
 have hl:(D32 n).length≤k:=digs32_le hn
 have pZ:=p_rZeros (n:=n) (by omega)
 by_cases h0:n=0
 ·subst h0
  rw [dy_zero.2 rfl,VA_0,D32_0]
  refine PB (rs:=[.cell 6 90]) Tryz.func147 ?_
  exact Wk
 ·have ht:=tz_lt hn h0
  have pD:=p_rDown (n:=tz n) (D32_b n) (D32_nt n) (show (D32 n).length≤1099511627776 by omega) (by omega)
  rw [N32_D32] at pD
  obtain ⟨f1,f2,f3⟩:=f_of (neg:=neg) (e:=e) h0
  unfold VA
  rw [f1,f2,f3]
  have hl0:((D32 n).length=0)=False:=eq_false (by rw [D32_l0];exact h0)
  refine PB (rs:=[.cell 6 90]) Tryz.func147 ?_
  have ft:=hl0
  repeat (first|(with_reducible first|refine pv_seq fun K hK=>?_|((first|refine hK _ _ ?_|(clear hK;refine hK _ _ ?_)|(clear hK;clear hK;refine hK _ _ ?_));clear hK;try clear K))| refine W ?_|exact Z|with_reducible intro b)
  refine call_pc pD ?_
  rintro d ⟨b,rfl⟩
  exact Wk
theorem p_rOf {d:Dyadic} (hd:OkD d):PC Tryz.prog 61 [NU (nuOf d)] fun r=>r=VA d:=by
 have hl:=hd.len
 rw [nuOf_f] at hl
 simp only at hl
 have pP:=p_Part (xs:=D64 (fN d)) (digs_lt (by decide) _) (by show (digs _ _).length≤_;omega)
 rw [show N64 (D64 (fN d))=fN d from nval_digs (by decide) _] at pP
 unfold VA
 rw [nuOf_f]
 have d1:=@dl 1 qC4_61_1
 refine PB (rs:=[.cell 2 90]) Tryz.func61 ?_
 exact Wk
theorem p_rNum {k:Nat} {d:Dyadic} (hd:Bd k d) (hk:k≤1073741824):PC Tryz.prog 105 [VA d] fun r=>r=NE (numR d):=by
 have hl:(D32 (fN d)).length≤k:=digs32_le hd.1
 by_cases h0:d=0
 ·subst h0
  rw [VA_0,numR_zero]
  refine PB (rs:=[.cell 2 41,.tmp 3]) Tryz.func105 ?_
  exact Wk
 ·have hl0:((D32 (fN d)).length=0)=False:=eq_false (by rw [D32_l0];exact mt fN_eq_zero.1 h0)
  have pW:=p_Words (n:=fN d) (by omega)
  have hok:OkD d ↔ (D64 (fN d)).length≤64 ∧ -65536≤fE d∧fE d≤65536:=by
   unfold OkD;rw [nuOf_f];exact ⟨fun h=>⟨h.1,h.2,h.3⟩,fun h=>⟨h.1,h.2.1,h.2.2⟩⟩
  have hnu:OkD d→numR d=(⟨fS d,fE d,D64 (fN d)⟩,0):=fun h=>by rw [numR_ok h,nuOf_f]
  have hno:¬ OkD d→numR d=(nu0,2):=numR_over
  unfold VA
  generalize numR d=r at *
  generalize fS d=s at *
  generalize fE d=e at *
  generalize fN d=n at *
  refine PB (rs:=[.cell 2 41,.tmp 3]) Tryz.func105 ?_
  have ft:=hl0
  repeat (first|(with_reducible first|refine pv_seq fun K hK=>?_|((first|refine hK _ _ ?_|(clear hK;refine hK _ _ ?_)|(clear hK;clear hK;refine hK _ _ ?_));clear hK;try clear K))| refine W0 ?_|exact Z|with_reducible intro b)
  refine call_is pW ?_
  by_cases g1:(64:Int)<((D64 n).length:Int)
  ·have ft:=(eq_true g1)
   repeat (first|(with_reducible first|refine pv_seq fun K hK=>?_|((first|refine hK _ _ ?_|(clear hK;refine hK _ _ ?_)|(clear hK;clear hK;refine hK _ _ ?_));clear hK;try clear K))| refine W0 ?_|exact Z|with_reducible intro b)
   rw [hno fun h=>by have:=hok.1 h;omega];try rfl
  ·by_cases g2:e < -65536
   ·have ft:=And.intro (eq_false g1) (eq_true g2)
    repeat (first|(with_reducible first|refine pv_seq fun K hK=>?_|((first|refine hK _ _ ?_|(clear hK;refine hK _ _ ?_)|(clear hK;clear hK;refine hK _ _ ?_));clear hK;try clear K))| refine W0 ?_|exact Z|with_reducible intro b)
    rw [hno fun h=>by have:=hok.1 h;omega];try rfl
   ·by_cases g3:65536<e
    ·have ft:=And.intro (eq_false g1) (And.intro (eq_false g2) (eq_true g3))
     repeat (first|(with_reducible first|refine pv_seq fun K hK=>?_|((first|refine hK _ _ ?_|(clear hK;refine hK _ _ ?_)|(clear hK;clear hK;refine hK _ _ ?_));clear hK;try clear K))| refine W0 ?_|exact Z|with_reducible intro b)
     rw [hno fun h=>by have:=hok.1 h;omega];try rfl
    ·have ft:=And.intro (eq_false g1) (And.intro (eq_false g2) (eq_false g3))
     repeat (first|(with_reducible first|refine pv_seq fun K hK=>?_|((first|refine hK _ _ ?_|(clear hK;refine hK _ _ ?_)|(clear hK;clear hK;refine hK _ _ ?_));clear hK;try clear K))| refine W0 ?_|exact Z|with_reducible intro b)
     rw [hnu (hok.2 (by omega))];try rfl
theorem p_rMake {k:Nat} {neg:Bool} {w:List Nat} {e:Int} (hb:B64 w) (hl:w.length≤k) (hk:k≤1048576) (he:R64 e):PC Tryz.prog 108 [bl neg,W64 w,i64 e] fun d=>d=NE (numR (dy neg (N64 w) e)):=by
 unfold R64 at he
 have hn:N64 w<2 ^ (64 * k):=by
  rw [Nat.pow_mul]
  exact Nat.lt_of_lt_of_le (nval_lt (by decide) w hb) (Nat.pow_le_pow_right (by decide) hl)
 have hlD:(D32 (N64 w)).length≤64 * k:=digs32_le hn
 have pP:=p_Part hb (by omega)
 have pZ:=p_rZeros (n:=N64 w) (by omega)
 by_cases h0:N64 w=0
 ·rw [h0,D32_0] at pP
  rw [dy_zero.2 h0,numR_zero]
  refine PB (rs:=[.cell 6 41,.tmp 7]) Tryz.func108 ?_
  exact Wk
 ·have ht:=tz_lt hn h0
  have hl0:((D32 (N64 w)).length=0)=False:=eq_false (by rw [D32_l0];exact h0)
  have hnu:=nuOf_dy (neg:=neg) (e:=e) h0
  have hover:65536<e∨e < -65536 - (tz (N64 w):Int)→¬ OkD (dy neg (N64 w) e):=by
   intro h hk
   have h2:(nuOf (dy neg (N64 w) e)).exp≤65536:=hk.hi
   have h3 : -65536≤(nuOf (dy neg (N64 w) e)).exp:=hk.lo
   rw [hnu] at h2 h3
   simp only at h2 h3
   omega
  refine PB (rs:=[.cell 6 41,.tmp 7]) Tryz.func108 ?_
  have ft:=hl0
  repeat (first|(with_reducible first|refine pv_seq fun K hK=>?_|((first|refine hK _ _ ?_|(clear hK;refine hK _ _ ?_)|(clear hK;clear hK;refine hK _ _ ?_));clear hK;try clear K))| refine W ?_|exact Z|with_reducible intro b)
  by_cases g1:65536<e
  ·have ft:=(eq_true g1)
   repeat (first|(with_reducible first|refine pv_seq fun K hK=>?_|((first|refine hK _ _ ?_|(clear hK;refine hK _ _ ?_)|(clear hK;clear hK;refine hK _ _ ?_));clear hK;try clear K))| refine W0 ?_|exact Z|with_reducible intro b)
   rw [numR_over (hover (.inl g1))];try rfl
  ·by_cases g2:e < -65536 - (tz (N64 w):Int)
   ·have ft:=And.intro (eq_false g1) (eq_true g2)
    repeat (first|(with_reducible first|refine pv_seq fun K hK=>?_|((first|refine hK _ _ ?_|(clear hK;refine hK _ _ ?_)|(clear hK;clear hK;refine hK _ _ ?_));clear hK;try clear K))| refine W ?_|exact Z|with_reducible intro b)
    rw [numR_over (hover (.inr g2))];try rfl
   ·have ft:=And.intro (eq_false g1) (eq_false g2)
    repeat (first|(with_reducible first|refine pv_seq fun K hK=>?_|((first|refine hK _ _ ?_|(clear hK;refine hK _ _ ?_)|(clear hK;clear hK;refine hK _ _ ?_));clear hK;try clear K))| refine W ?_|exact Z|with_reducible intro b)
    repeat (first|(with_reducible first|refine pv_seq fun K hK=>?_|((first|refine hK _ _ ?_|(clear hK;refine hK _ _ ?_)|(clear hK;clear hK;refine hK _ _ ?_));clear hK;try clear K))| refine W0 ?_|exact Z|with_reducible intro b|refine call_is (by exact (p_rOdd (neg:=neg) (e:=e) hn (by omega) (by omega) (by omega))) ?_)
    refine call_is (p_rNum (k:=65536 + 64 * k + 64 * k) ?_ (by omega)) ?_
    ·refine Bd.mono (Bd.of (k:=65536 + 64 * k) hn (by omega) (by omega)) (by omega)
    ·exact Wk
theorem p_rSign {d:Dyadic}:PC Tryz.prog 104 [VA d] fun r=>r=i64 (sgnD d):=by
 by_cases h0:d=0
 ·subst h0
  rw [show sgnD 0=0 from by decide,VA_0]
  refine PB (rs:=[.tmp 2]) Tryz.func104 ?_
  exact Wk
 ·have hl0:((D32 (fN d)).length=0)=False:=eq_false (by rw [D32_l0];exact mt fN_eq_zero.1 h0)
  have hs:sgnD d=if fS d then -1 else 1:=by
   conv=>lhs;rw [← dy_f d]
   rw [sgnD_dy,if_neg (mt fN_eq_zero.1 h0)]
  rw [hs]
  unfold VA
  cases fS d
  ·refine PB (rs:=[.tmp 2]) Tryz.func104 ?_
   have ft:=hl0
   exact Wk
  ·refine PB (rs:=[.tmp 2]) Tryz.func104 ?_
   have ft:=hl0
   exact Wk
theorem p_rBy {k:Nat} {a b:Dyadic} (ha:Bd k a) (hb:Bd k b) (hk:k≤268435456):PC Tryz.prog 106 [VA a,VA b] fun r=>r=VA (a * b):=by
 have la:(D32 (fN a)).length≤k:=digs32_le ha.1
 have lb:(D32 (fN b)).length≤k:=digs32_le hb.1
 have pM:=p_rMul (D32_b (fN a)) (D32_b (fN b)) (by omega) (by omega)
 rw [N32_D32,N32_D32] at pM
 have a1:=ha.2.1;have a2:=ha.2.2;have b1:=hb.2.1;have b2:=hb.2.2
 by_cases h0:a=0
 ·subst h0
  rw [Dyadic.zero_mul,VA_0]
  unfold VA
  have d1:=@dl 3 qC4_106_3
  refine PB (rs:=[.cell 4 90]) Tryz.func106 ?_
  exact Wk
 ·have hl0:((D32 (fN a)).length=0)=False:=eq_false (by rw [D32_l0];exact mt fN_eq_zero.1 h0)
  by_cases h1:b=0
  ·subst h1
   rw [Dyadic.mul_zero,VA_0]
   unfold VA
   have d1:=@dl 3 qC4_106_3
   refine PB (rs:=[.cell 4 90]) Tryz.func106 ?_
   have ft:=hl0
   exact Wk
  ·have hl1:((D32 (fN b)).length=0)=False:=eq_false (by rw [D32_l0];exact mt fN_eq_zero.1 h1)
   obtain ⟨x,y,z⟩:=mul_odd h0 h1
   unfold VA
   rw [x,y,z]
   have d1:=@dl 3 qC4_106_3
   refine PB (rs:=[.cell 4 90]) Tryz.func106 ?_
   have ft:=And.intro hl0 hl1
   exact Wk
set_option maxHeartbeats 1000000 in
theorem p_rPlus {k:Nat} {a c:Dyadic} (ha:Bd k a) (hb:Bd k c) (hk:k≤67108864):PC Tryz.prog 103 [VA a,VA c] fun r=>r=VA (a + c):=by
 have la:(D32 (fN a)).length≤k:=digs32_le ha.1
 have lb:(D32 (fN c)).length≤k:=digs32_le hb.1
 have a1:=ha.2.1;have a2:=ha.2.2;have b1:=hb.2.1;have b2:=hb.2.2
 by_cases h0:a=0
 ·subst h0
  rw [Dyadic.zero_add,VA_0]
  unfold VA
  have d1:=@dl 6 qC4_103_6
  have d2:=@dl 8 qC4_103_8
  have d3:=@dl 11 qC4_103_11
  have d4:=@dl 13 qC4_103_13
  refine PB (rs:=[.cell 4 90]) Tryz.func103 ?_
  exact Wk
 ·have hl0:((D32 (fN a)).length=0)=False:=eq_false (by rw [D32_l0];exact mt fN_eq_zero.1 h0)
  by_cases h1:c=0
  ·subst h1
   rw [Dyadic.add_zero,VA_0]
   unfold VA
   have d1:=@dl 6 qC4_103_6
   have d2:=@dl 8 qC4_103_8
   have d3:=@dl 11 qC4_103_11
   have d4:=@dl 13 qC4_103_13
   refine PB (rs:=[.cell 4 90]) Tryz.func103 ?_
   have ft:=hl0
   exact Wk
  ·have hl1:((D32 (fN c)).length=0)=False:=eq_false (by rw [D32_l0];exact mt fN_eq_zero.1 h1)
   obtain ⟨e,i,j,hm,hi,hj⟩:=low_e a c
   have e1 : -(k:Int)≤e:=by rw [← hm];split<;>assumption
   have e2:e≤k:=by rw [← hm];split<;>assumption
   have i1:i≤2 * k:=by omega
   have j1:j≤2 * k:=by omega
   have x:=up_lt2 ha.1 i1
   have y:=up_lt2 hb.1 j1
   have hp:(2:Nat) ^ (k + 2 * k) + 2 ^ (k + 2 * k)=2 ^ (3 * k + 1):=by rw [show k + 2 * k=3 * k by omega,Nat.pow_succ];omega
   have lx:(D32 (fN a * 2 ^ i)).length≤k + 2 * k:=digs32_le x
   have ly:(D32 (fN c * 2 ^ j)).length≤k + 2 * k:=digs32_le y
   have ea:=up_f hi
   have eb:=up_f hj
   have pA:=p_rLeft (n:=i) (D32_b (fN a)) (by omega) (by omega)
   have pB:=p_rLeft (n:=j) (D32_b (fN c)) (by omega) (by omega)
   rw [N32_D32] at pA pB
   generalize hX:fN a * 2 ^ i=X at *
   generalize hY:fN c * 2 ^ j=Y at *
   have hab:a + c=dy (fS a) X e + dy (fS c) Y e:=by rw [← ea,← eb]
   unfold VA
   have d1:=@dl 6 qC4_103_6
   have d2:=@dl 8 qC4_103_8
   have d3:=@dl 11 qC4_103_11
   have d4:=@dl 13 qC4_103_13
   refine PB (rs:=[.cell 4 90]) Tryz.func103 ?_
   have ft:=And.intro hl0 (And.intro hl1 (And.intro hm (And.intro hi hj)))
   repeat (first|(with_reducible first|refine pv_seq fun K hK=>?_|((first|refine hK _ _ ?_|(clear hK;refine hK _ _ ?_)|(clear hK;clear hK;refine hK _ _ ?_));clear hK;try clear K))| refine W ?_|exact Z|with_reducible intro b)
   by_cases hs:fS a=fS c
   ·rw [← hs,dy_add] at hab
    have pS:=p_rAdd (D32_b X) (D32_b Y) (by omega) (by omega)
    rw [N32_D32,N32_D32] at pS
    have hbq:(fS a == fS c)=true:=by rw [hs];exact beq_self_eq_true _
    have ft:=hbq
    repeat (first|(with_reducible first|refine pv_seq fun K hK=>?_|((first|refine hK _ _ ?_|(clear hK;refine hK _ _ ?_)|(clear hK;clear hK;refine hK _ _ ?_));clear hK;try clear K))| refine W ?_|exact Z|with_reducible intro b)
    refine call_is (p_rOdd (neg:=fS a) (n:=X + Y) (e:=e) (k:=3 * k + 1) (by omega) (by omega) (by omega) (by omega)) ?_
    rw [← hab]
    exact Wk
   ·have hbq:(fS a == fS c)=false:=by
     generalize fS a=p at *
     generalize fS c=q at *
     cases p<;>cases q<;>simp at hs ⊢
    have pC:=p_rCmp (m:=X) (n:=Y) (by omega) (by omega)
    have ft:=hbq
    repeat (first|(with_reducible first|refine pv_seq fun K hK=>?_|((first|refine hK _ _ ?_|(clear hK;refine hK _ _ ?_)|(clear hK;clear hK;refine hK _ _ ?_));clear hK;try clear K))| refine W0 ?_|exact Z|with_reducible intro b)
    refine call_is pC ?_
    rcases Nat.lt_trichotomy X Y with h|h|h
    ·have hc:cmpI (X:Int) (Y:Int) = -1:=by unfold cmpI;rw [if_pos (by omega)]
     rw [hc]
     rw [Dyadic.add_comm (dy (fS a) X e),dy_sub (Ne.symm hs) (by omega)] at hab
     have pS:=p_rSub (D32_b Y) (D32_b X) (by omega) (by rw [N32_D32,N32_D32];omega)
     rw [N32_D32,N32_D32] at pS
     have ft:=true_and
     repeat (first|(with_reducible first|refine pv_seq fun K hK=>?_|((first|refine hK _ _ ?_|(clear hK;refine hK _ _ ?_)|(clear hK;clear hK;refine hK _ _ ?_));clear hK;try clear K))| refine W ?_|exact Z|with_reducible intro b)
     refine call_is (p_rOdd (neg:=fS c) (n:=Y - X) (e:=e) (k:=3 * k + 1) (by omega) (by omega) (by omega) (by omega)) ?_
     rw [← hab]
     exact Wk
    ·have hc:cmpI (X:Int) (Y:Int)=0:=by unfold cmpI;rw [if_neg (by omega),if_neg (by omega)]
     rw [hc]
     rw [dy_sub hs (by omega),h,Nat.sub_self,dy_zero.2 rfl] at hab
     have ft:=true_and
     repeat (first|(with_reducible first|refine pv_seq fun K hK=>?_|((first|refine hK _ _ ?_|(clear hK;refine hK _ _ ?_)|(clear hK;clear hK;refine hK _ _ ?_));clear hK;try clear K))| refine W0 ?_|exact Z|with_reducible intro b)
     rw [hab];exact VA_0.symm
    ·have hc:cmpI (X:Int) (Y:Int)=1:=by unfold cmpI;rw [if_neg (by omega),if_pos (by omega)]
     rw [hc]
     rw [dy_sub hs (by omega)] at hab
     have pS:=p_rSub (D32_b X) (D32_b Y) (by omega) (by rw [N32_D32,N32_D32];omega)
     rw [N32_D32,N32_D32] at pS
     have ft:=true_and
     repeat (first|(with_reducible first|refine pv_seq fun K hK=>?_|((first|refine hK _ _ ?_|(clear hK;refine hK _ _ ?_)|(clear hK;clear hK;refine hK _ _ ?_));clear hK;try clear K))| refine W ?_|exact Z|with_reducible intro b)
     refine call_is (p_rOdd (neg:=fS a) (n:=X - Y) (e:=e) (k:=3 * k + 1) (by omega) (by omega) (by omega) (by omega)) ?_
     rw [← hab]
     exact Wk
end Go.V
namespace Go.V
open Go Go.RowKit Go.Proofs
theorem p_rWhole {n:Int} (hn:R64 n):PC Tryz.prog 107 [i64 n] fun d=>d=VA (dy (decide (n<0)) n.natAbs 0):=by
 unfold R64 at hn
 have hwl:B64 [n.natAbs]:=by intro x hx;rw [List.mem_singleton.1 hx];omega
 have pP:=p_Part hwl (by simp)
 rw [show N64 [n.natAbs]=n.natAbs by simp [nval]] at pP
 have pO:=p_rOdd (k:=64) (neg:=decide (n<0)) (n:=n.natAbs) (e:=0) (by omega) (by decide) (by decide) (by decide)
 by_cases hn0:n<0
 ·have e1:IntKind.u64.wrap n=((18446744073709551616 - n.natAbs:Nat):Int):=by simp [IntKind.wrap,IntKind.signed,IntKind.bits];omega
  have e2:IntKind.u64.wrap (0 - ((18446744073709551616 - n.natAbs:Nat):Int))=(n.natAbs:Int):=by simp [IntKind.wrap,IntKind.signed,IntKind.bits];omega
  have hd:decide (n<0)=true:=decide_eq_true hn0
  rw [hd] at pO ⊢
  generalize dy true n.natAbs 0=v at *
  refine PB (rs:=[.cell 2 90]) Tryz.func107 ?_
  have ft:=And.intro e1 (And.intro e2 (eq_true hn0))
  exact Wk
 ·have e1:IntKind.u64.wrap n=(n.natAbs:Int):=by simp [IntKind.wrap,IntKind.signed,IntKind.bits];omega
  have hd:decide (n<0)=false:=decide_eq_false hn0
  rw [hd] at pO ⊢
  generalize dy false n.natAbs 0=v at *
  refine PB (rs:=[.cell 2 90]) Tryz.func107 ?_
  have ft:=And.intro e1 (eq_false hn0)
  exact Wk
end Go.V
namespace Go.V
open Go Go.RowKit Go.Proofs
def eU (x:Nu):List G:=[.lit (.bool x.neg),.lit (.int .i64 x.exp),eS (eK .u64) x.w]
theorem eU_0 {x:Nu}:(eU x)=[.lit (.bool x.neg),.lit (.int .i64 x.exp),eS (eK .u64) x.w]:=rfl
end Go.V
namespace Go.V
open Go Go.RowKit Go.Proofs
def qC8_67_2:List (Nat × Nat):=[(0,0),(1,0),(2,0),(3,1),(4,0),(5,0),(6,0),(7,1),(8,0),(9,0)]
def qC8_67_3:List (Nat × Nat):=[(0,0),(1,0),(2,0),(3,1),(4,0),(5,0),(6,0),(7,1),(8,0),(9,1),(10,0)]
attribute [go_sem] qC8_67_2 qC8_67_3
theorem p_next {k:Nm} {S:Store} {Q:D→Store→Prop} {b i:Nat} {w:List Nat} (hS:S k=some ⟨b,2,0,[[W64 w,i64 i]]⟩) (hb:B64 w) (hi:i≤1099511627776)
 (hQ:Q (.g (.lit (.int .u64 ((w.getD i 0:Nat):Int)))) (updS S k (some ⟨b,2,0,[[W64 w,i64 ((i + 1:Nat):Int)]]⟩))):PFC Tryz.prog 67 [.ptr k b 0 0 2] S Q:=by
 have d1:=@dl 2 qC8_67_2
 have d2:=@dl 3 qC8_67_3
 refine PFB (rs:=[.tmp 2]) Tryz.func67 ?_
 by_cases h:i<w.length
 ·have k1:((i:Int)<(w.length:Int))=True:=eq_true (by omega)
  have ft:=And.intro hS k1
  repeat (first|(with_reducible first|refine pv_seq fun K hK=>?_|((first|refine hK _ _ ?_|(clear hK;refine hK _ _ ?_)|(clear hK;clear hK;refine hK _ _ ?_));clear hK;try clear K))| refine W0 ?_|exact Z|with_reducible intro b)
  exact hQ
 ·have k1:((i:Int)<(w.length:Int))=False:=eq_false (by omega)
  have ft:=And.intro hS k1
  repeat (first|(with_reducible first|refine pv_seq fun K hK=>?_|((first|refine hK _ _ ?_|(clear hK;refine hK _ _ ?_)|(clear hK;clear hK;refine hK _ _ ?_));clear hK;try clear K))| refine W0 ?_|exact Z|with_reducible intro b)
  have g:w.getD i 0=0:=by simp [List.getD,h]
  rw [g] at hQ
  exact hQ
theorem p_snum {neg:Bool} {w:List Nat} {e:Int} (hb:B64 w) (hl:w.length≤100) (he:R64 e):PC Tryz.prog 68 [bl neg,W64 w,i64 e] fun d=>d=NU (numR (dy neg (N64 w) e)).1:=by
 have pM:=p_rMake (neg:=neg) (e:=e) (k:=100) hb hl (by decide) he
 generalize numR (dy neg (N64 w) e)=q at *
 obtain ⟨⟨s,x,y⟩,r⟩:=q
 refine PB (rs:=[.cell 6 41]) Tryz.func68 ?_
 exact Wk
def rOf (k:Nm):Nm:=if k=.r 0 0 then .l 5 else .up k
theorem rOf_inj (k k':Nm) (h:rOf k=rOf k'):k=k':=by
 unfold rOf at h
 by_cases h1:k=.r 0 0<;>by_cases h2:k'=.r 0 0
 ·rw [h1,h2]
 ·rw [if_pos h1,if_neg h2] at h;cases h
 ·rw [if_neg h1,if_pos h2] at h;cases h
 ·rw [if_neg h1,if_neg h2] at h;injection h
theorem p_Of {S:Store} {Q:D→Store→Prop} {w:List Nat} (hQ:∀ b,Q (.ptr (.r 0 0) b 0 0 2) (updS S (.r 0 0) (some ⟨b,2,0,[[W64 w,i64 0]]⟩))):PFC Tryz.prog 21 [W64 w] S Q:=by
 refine PRB rOf (fun _=>.r 0 0) rOf_inj (rs:=[.tmp 2]) Tryz.func21 ?_
 repeat (first|(with_reducible first|refine pv_seq fun K hK=>?_|((first|refine hK _ _ ?_|(clear hK;refine hK _ _ ?_)|(clear hK;clear hK;refine hK _ _ ?_));clear hK;try clear K))| refine W0 ?_|exact Z|with_reducible intro b)
 refine (congrArg (Q _) (Store.ext2 (fun k=>?_) (by rfl))).mpr (hQ b)
 dsimp only
 by_cases h:k=.r 0 0
 ·subst h;simp [rOf,updS];rfl
 ·have h2:rOf k=.up k:=if_neg h
  rw [h2];simp [updS,upS,upF,h]
theorem p_small {k:Nm} {S:Store} {Q:D→Store→Prop} {b i:Nat} {w:List Nat} (hS:S k=some ⟨b,2,0,[[W64 w,i64 i]]⟩) (hb:B64 w) (hi:i≤1099511627776)
 (hQ:∀ neg n e,n<64 → -6≤e→e≤2→Q (NU (numR (dy neg n e)).1) (updS S k (some ⟨b,2,0,[[W64 w,i64 ((i + 1:Nat):Int)]]⟩))):PFC Tryz.prog 31 [.ptr k b 0 0 2] S Q:=by
 refine PFB (rs:=[.cell 2 41]) Tryz.func31 ?_
 have ft:=hS
 repeat (first|(with_reducible first|refine pv_seq fun K hK=>?_|((first|refine hK _ _ ?_|(clear hK;refine hK _ _ ?_)|(clear hK;clear hK;refine hK _ _ ?_));clear hK;try clear K))| refine W0 ?_|exact Z|with_reducible intro b)
 refine p_next (i:=i) (by simp -implicitDefEqProofs only [updS,upS];exact hS) hb hi ?_
 repeat (first|(with_reducible first|refine pv_seq fun K hK=>?_|((first|refine hK _ _ ?_|(clear hK;refine hK _ _ ?_)|(clear hK;clear hK;refine hK _ _ ?_));clear hK;try clear K))| refine W0 ?_|exact Z|with_reducible intro b)
 have hx:w.getD i 0<18446744073709551616:=get_lt hb (by decide) i
 generalize w.getD i 0=x at *
 obtain ⟨e,he,h1,h2⟩:∃ e:Int,IntKind.i64.wrap (((x:Int).fdiv 128).tmod 9) - 6=e ∧ -6≤e∧e≤2:=by
  refine ⟨_,rfl,?_⟩
  have h3:((x:Int).fdiv 128).tmod 9=((x / 128 % 9:Nat):Int):=by
   rw [Int.fdiv_eq_ediv_of_nonneg _ (by decide),Int.tmod_eq_emod_of_nonneg (by omega)];omega
  have h4:x / 128 % 9<9:=Nat.mod_lt _ (by decide)
  rw [h3,show IntKind.i64.wrap ((x / 128 % 9:Nat):Int)=((x / 128 % 9:Nat):Int) by simp [IntKind.wrap,IntKind.signed,IntKind.bits];omega]
  omega
 rw [he]
 obtain ⟨m,hm,hm2⟩:∃ m:Nat,bitsV BinOp.and IntKind.u64 ((x / 2:Nat):Int) 63=(m:Int)∧m<64:=by
  exact ⟨(x / 2) &&& 63,and64_nat (x / 2) 63 (by omega) (by decide),Nat.lt_of_le_of_lt Nat.and_le_right (by decide)⟩
 rw [hm]
 refine ⟨by unfold R64;omega,?_⟩
 refine PFC.coe ?_
 simp -implicitDefEqProofs only [ft,go_sem,seval]
 generalize decide (bitsV BinOp.and IntKind.u64 (x:Int) 1=1)=neg
 have pN:=p_snum (neg:=neg) (w:=[m]) (e:=e) (by intro z hz;rw [List.mem_singleton.1 hz];omega) (by simp) (by unfold R64;omega)
 rw [show N64 [m]=m by simp [N64,nval]] at pN
 have hq:=hQ neg m e hm2 h1 h2
 generalize numR (dy neg m e)=q at pN hq
 obtain ⟨⟨s,y,v⟩,r⟩:=q
 repeat (first|(with_reducible first|refine pv_seq fun K hK=>?_|((first|refine hK _ _ ?_|(clear hK;refine hK _ _ ?_)|(clear hK;clear hK;refine hK _ _ ?_));clear hK;try clear K))| refine W ?_|exact Z|with_reducible intro b)
 exact hq
theorem numR_is (d:Dyadic):∃ d',OkD d'∧(numR d).1=nuOf d':=by
 by_cases h:OkD d
 ·exact ⟨d,h,by rw [numR_ok h]⟩
 ·exact ⟨0,OkD.zero,by rw [numR_over h];rfl⟩
theorem p_snumE {neg:Bool} {w:List Nat} {e:Int} (hb:B64 w) (hl:w.length≤100) (he:R64 e):∃ d',OkD d'∧PC Tryz.prog 68 [bl neg,W64 w,i64 e] fun d=>d=NU (nuOf d'):=by
 obtain ⟨d',h1,h2⟩:=numR_is (dy neg (N64 w) e)
 exact ⟨d',h1,h2 ▸ p_snum hb hl he⟩
theorem wrap_is (z:Int):∃ n:Nat,IntKind.u64.wrap z=(n:Int)∧n<18446744073709551616:=by
 refine ⟨(IntKind.u64.wrap z).toNat,?_,?_⟩<;>simp [IntKind.wrap,IntKind.signed,IntKind.bits]<;>omega
theorem bv_is (op:BinOp) (a b:Int):∃ n:Nat,bitsV op .u64 a b=(n:Int)∧n<18446744073709551616:=by
 unfold bitsV;split<;>exact wrap_is _
theorem wr9 (x:Nat):∃ f:Int,IntKind.i64.wrap (((x:Int).fdiv 1073741824).tmod 9)=f∧0≤f∧f≤8:=by
 refine ⟨_,rfl,?_⟩
 have h3:((x:Int).fdiv 1073741824).tmod 9=((x / 1073741824 % 9:Nat):Int):=by
  rw [Int.fdiv_eq_ediv_of_nonneg _ (by decide),Int.tmod_eq_emod_of_nonneg (by omega)];omega
 have h4:x / 1073741824 % 9<9:=Nat.mod_lt _ (by decide)
 rw [h3,show IntKind.i64.wrap ((x / 1073741824 % 9:Nat):Int)=((x / 1073741824 % 9:Nat):Int) by simp [IntKind.wrap,IntKind.signed,IntKind.bits];omega]
 omega
theorem p_dnum {k:Nm} {S:Store} {Q:D→Store→Prop} {b i:Nat} {w:List Nat} (hS:S k=some ⟨b,2,0,[[W64 w,i64 i]]⟩) (hb:B64 w) (hi:i≤1000000000)
 (hQ:∀ (d:Dyadic) (j:Nat),OkD d→j≤i + 4→Q (NU (nuOf d)) (updS S k (some ⟨b,2,0,[[W64 w,i64 (j:Int)]]⟩))):PFC Tryz.prog 27 [.ptr k b 0 0 2] S Q:=by
 refine PFB (rs:=[.cell 2 41]) Tryz.func27 ?_
 have ft:=hS
 repeat (first|(with_reducible first|refine pv_seq fun K hK=>?_|((first|refine hK _ _ ?_|(clear hK;refine hK _ _ ?_)|(clear hK;clear hK;refine hK _ _ ?_));clear hK;try clear K))| refine W0 ?_|exact Z|with_reducible intro b)
 refine p_next (i:=i) (by simp -implicitDefEqProofs only [updS,upS];exact hS) hb (by omega) ?_
 repeat (first|(with_reducible first|refine pv_seq fun K hK=>?_|((first|refine hK _ _ ?_|(clear hK;refine hK _ _ ?_)|(clear hK;clear hK;refine hK _ _ ?_));clear hK;try clear K))| refine W0 ?_|exact Z|with_reducible intro b)
 have hx:w.getD i 0<18446744073709551616:=get_lt hb (by decide) i
 generalize w.getD i 0=x at *
 obtain ⟨e,he,h1,h2⟩:∃ e:Int,IntKind.i64.wrap (((x / 2:Nat):Int).tmod 41) - 32=e ∧ -32≤e∧e≤8:=by
  refine ⟨_,rfl,?_⟩
  have h3:((x / 2:Nat):Int).tmod 41=((x / 2 % 41:Nat):Int):=by
   rw [Int.tmod_eq_emod_of_nonneg (by omega)];omega
  have h4:x / 2 % 41<41:=Nat.mod_lt _ (by decide)
  rw [h3,show IntKind.i64.wrap ((x / 2 % 41:Nat):Int)=((x / 2 % 41:Nat):Int) by simp [IntKind.wrap,IntKind.signed,IntKind.bits];omega]
  omega
 rw [he]
 generalize decide (bitsV BinOp.and IntKind.u64 (x:Int) 1=1)=neg
 refine ⟨by unfold R64;omega,?_⟩
 repeat (first|(with_reducible first|refine pv_seq fun K hK=>?_|((first|refine hK _ _ ?_|(clear hK;refine hK _ _ ?_)|(clear hK;clear hK;refine hK _ _ ?_));clear hK;try clear K))| refine W0 ?_|exact Z|with_reducible intro b)
 refine pv_cdD (fun ht=>?_) (fun ht=>?_)
 ·repeat (first|(with_reducible first|refine pv_seq fun K hK=>?_|((first|refine hK _ _ ?_|(clear hK;refine hK _ _ ?_)|(clear hK;clear hK;refine hK _ _ ?_));clear hK;try clear K))| refine W0 ?_|exact Z|with_reducible intro b)
  obtain ⟨n,hn,gn⟩:=bv_is .and ((x:Int).fdiv 1024) 31
  rw [hn]
  refine PFC.coe ?_
  simp -implicitDefEqProofs only [ft,go_sem,seval]
  obtain ⟨d,hd,pN⟩:=p_snumE (neg:=neg) (w:=[n]) (e:=e) (by intro z hz;simp at hz;omega) (by simp) (by unfold R64;omega)
  have hq:=hQ d (i + 1) hd (by omega)
  generalize nuOf d=q at pN hq
  obtain ⟨s,y,v⟩:=q
  repeat (first|(with_reducible first|refine pv_seq fun K hK=>?_|((first|refine hK _ _ ?_|(clear hK;refine hK _ _ ?_)|(clear hK;clear hK;refine hK _ _ ?_));clear hK;try clear K))| refine W ?_|exact Z|with_reducible intro b)
  exact hq
 ·repeat (first|(with_reducible first|refine pv_seq fun K hK=>?_|((first|refine hK _ _ ?_|(clear hK;refine hK _ _ ?_)|(clear hK;clear hK;refine hK _ _ ?_));clear hK;try clear K))| refine W0 ?_|exact Z|with_reducible intro b)
  refine pv_cdD (fun ht=>?_) (fun ht=>?_)
  ·repeat (first|(with_reducible first|refine pv_seq fun K hK=>?_|((first|refine hK _ _ ?_|(clear hK;refine hK _ _ ?_)|(clear hK;clear hK;refine hK _ _ ?_));clear hK;try clear K))| refine W0 ?_|exact Z|with_reducible intro b)
   refine p_next (i:=i + 1) (by simp -implicitDefEqProofs only [updS,upS,if_true];rfl) hb (by omega) ?_
   repeat (first|(with_reducible first|refine pv_seq fun K hK=>?_|((first|refine hK _ _ ?_|(clear hK;refine hK _ _ ?_)|(clear hK;clear hK;refine hK _ _ ?_));clear hK;try clear K))| refine W0 ?_|exact Z|with_reducible intro b)
   refine p_next (i:=i + 2) (by simp -implicitDefEqProofs only [updS,upS,if_true];rfl) hb (by omega) ?_
   repeat (first|(with_reducible first|refine pv_seq fun K hK=>?_|((first|refine hK _ _ ?_|(clear hK;refine hK _ _ ?_)|(clear hK;clear hK;refine hK _ _ ?_));clear hK;try clear K))| refine W0 ?_|exact Z|with_reducible intro b)
   refine p_next (i:=i + 3) (by simp -implicitDefEqProofs only [updS,upS,if_true];rfl) hb (by omega) ?_
   repeat (first|(with_reducible first|refine pv_seq fun K hK=>?_|((first|refine hK _ _ ?_|(clear hK;refine hK _ _ ?_)|(clear hK;clear hK;refine hK _ _ ?_));clear hK;try clear K))| refine W0 ?_|exact Z|with_reducible intro b)
   have g1:=get_lt hb (by decide) (i + 1)
   have g2:=get_lt hb (by decide) (i + 2)
   have g3:=get_lt hb (by decide) (i + 3)
   refine PFC.coe ?_
   simp -implicitDefEqProofs only [ft,go_sem,seval]
   obtain ⟨d,hd,pN⟩:=p_snumE (neg:=neg) (w:=[w.getD (i + 1) 0,w.getD (i + 2) 0,w.getD (i + 3) 0]) (e:=e - 100) (by intro z hz;simp only [List.mem_cons,List.not_mem_nil,or_false] at hz;rcases hz with rfl|rfl|rfl<;>assumption) (by simp) (by unfold R64;omega)
   have hq:=hQ d (i + 4) hd (by omega)
   generalize nuOf d=q at pN hq
   obtain ⟨s,y,v⟩:=q
   repeat (first|(with_reducible first|refine pv_seq fun K hK=>?_|((first|refine hK _ _ ?_|(clear hK;refine hK _ _ ?_)|(clear hK;clear hK;refine hK _ _ ?_));clear hK;try clear K))| refine W ?_|exact Z|with_reducible intro b)
   simp only [updS_updS]
   exact hq
  ·repeat (first|(with_reducible first|refine pv_seq fun K hK=>?_|((first|refine hK _ _ ?_|(clear hK;refine hK _ _ ?_)|(clear hK;clear hK;refine hK _ _ ?_));clear hK;try clear K))| refine W0 ?_|exact Z|with_reducible intro b)
   refine pv_cdD (fun ht=>?_) (fun ht=>?_)
   ·repeat (first|(with_reducible first|refine pv_seq fun K hK=>?_|((first|refine hK _ _ ?_|(clear hK;refine hK _ _ ?_)|(clear hK;clear hK;refine hK _ _ ?_));clear hK;try clear K))| refine W0 ?_|exact Z|with_reducible intro b)
    obtain ⟨n,hn,gn⟩:=bv_is .or 9223372036854775808 ((x:Int).fdiv 2048)
    rw [hn]
    obtain ⟨m,hm,gm⟩:=bv_is .or 9223372036854775808 (x:Int)
    rw [hm]
    refine PFC.coe ?_
    simp -implicitDefEqProofs only [ft,go_sem,seval]
    obtain ⟨d,hd,pN⟩:=p_snumE (neg:=neg) (w:=[n,m]) (e:=e) (by intro z hz;simp at hz;omega) (by simp) (by unfold R64;omega)
    have hq:=hQ d (i + 1) hd (by omega)
    generalize nuOf d=q at pN hq
    obtain ⟨s,y,v⟩:=q
    repeat (first|(with_reducible first|refine pv_seq fun K hK=>?_|((first|refine hK _ _ ?_|(clear hK;refine hK _ _ ?_)|(clear hK;clear hK;refine hK _ _ ?_));clear hK;try clear K))| refine W ?_|exact Z|with_reducible intro b)
    exact hq
   ·repeat (first|(with_reducible first|refine pv_seq fun K hK=>?_|((first|refine hK _ _ ?_|(clear hK;refine hK _ _ ?_)|(clear hK;clear hK;refine hK _ _ ?_));clear hK;try clear K))| refine W0 ?_|exact Z|with_reducible intro b)
    refine pv_cdD (fun ht=>?_) (fun ht=>?_)
    ·repeat (first|(with_reducible first|refine pv_seq fun K hK=>?_|((first|refine hK _ _ ?_|(clear hK;refine hK _ _ ?_)|(clear hK;clear hK;refine hK _ _ ?_));clear hK;try clear K))| refine W0 ?_|exact Z|with_reducible intro b)
     refine pv_cdD (fun ht=>?_) (fun ht=>?_)
     ·repeat (first|(with_reducible first|refine pv_seq fun K hK=>?_|((first|refine hK _ _ ?_|(clear hK;refine hK _ _ ?_)|(clear hK;clear hK;refine hK _ _ ?_));clear hK;try clear K))| refine W0 ?_|exact Z|with_reducible intro b)
      obtain ⟨f,hf,f1,f2⟩:∃ f:Int,IntKind.i64.wrap (((x:Int).fdiv 1073741824).tmod 9)=f∧0≤f∧f≤8:=wr9 x
      rw [hf]
      obtain ⟨n,hn,gn⟩:=bv_is .and ((x:Int).fdiv 1048576) 15
      rw [hn]
      obtain ⟨m,hm,gm⟩:=bv_is .or 1 (n:Int)
      rw [hm]
      refine ⟨by unfold R64;omega,?_⟩
      refine PFC.coe ?_
      simp -implicitDefEqProofs only [ft,go_sem,seval]
      obtain ⟨d,hd,pN⟩:=p_snumE (neg:=neg) (w:=[m]) (e:=65536 - f) (by intro z hz;simp at hz;omega) (by simp) (by unfold R64;omega)
      have hq:=hQ d (i + 1) hd (by omega)
      generalize nuOf d=q at pN hq
      obtain ⟨s,y,v⟩:=q
      repeat (first|(with_reducible first|refine pv_seq fun K hK=>?_|((first|refine hK _ _ ?_|(clear hK;refine hK _ _ ?_)|(clear hK;clear hK;refine hK _ _ ?_));clear hK;try clear K))| refine W ?_|exact Z|with_reducible intro b)
      exact hq
     ·repeat (first|(with_reducible first|refine pv_seq fun K hK=>?_|((first|refine hK _ _ ?_|(clear hK;refine hK _ _ ?_)|(clear hK;clear hK;refine hK _ _ ?_));clear hK;try clear K))| refine W0 ?_|exact Z|with_reducible intro b)
      refine pv_cdD (fun ht=>?_) (fun ht=>?_)
      ·repeat (first|(with_reducible first|refine pv_seq fun K hK=>?_|((first|refine hK _ _ ?_|(clear hK;refine hK _ _ ?_)|(clear hK;clear hK;refine hK _ _ ?_));clear hK;try clear K))| refine W0 ?_|exact Z|with_reducible intro b)
       obtain ⟨f,hf,f1,f2⟩:∃ f:Int,IntKind.i64.wrap (((x:Int).fdiv 1073741824).tmod 9)=f∧0≤f∧f≤8:=wr9 x
       rw [hf]
       obtain ⟨n,hn,gn⟩:=bv_is .and ((x:Int).fdiv 1048576) 15
       rw [hn]
       obtain ⟨m,hm,gm⟩:=bv_is .or 1 (n:Int)
       rw [hm]
       refine ⟨by unfold R64;omega,?_⟩
       refine PFC.coe ?_
       simp -implicitDefEqProofs only [ft,go_sem,seval]
       obtain ⟨d,hd,pN⟩:=p_snumE (neg:=neg) (w:=[m]) (e:=f - 65536) (by intro z hz;simp at hz;omega) (by simp) (by unfold R64;omega)
       have hq:=hQ d (i + 1) hd (by omega)
       generalize nuOf d=q at pN hq
       obtain ⟨s,y,v⟩:=q
       repeat (first|(with_reducible first|refine pv_seq fun K hK=>?_|((first|refine hK _ _ ?_|(clear hK;refine hK _ _ ?_)|(clear hK;clear hK;refine hK _ _ ?_));clear hK;try clear K))| refine W ?_|exact Z|with_reducible intro b)
       exact hq
      ·repeat (first|(with_reducible first|refine pv_seq fun K hK=>?_|((first|refine hK _ _ ?_|(clear hK;refine hK _ _ ?_)|(clear hK;clear hK;refine hK _ _ ?_));clear hK;try clear K))| refine W0 ?_|exact Z|with_reducible intro b)
       refine ⟨Int.tmod_nonneg _ (by rw [Int.fdiv_eq_ediv_of_nonneg _ (by decide)];omega),fun b=>?_⟩
       generalize ((x:Int).fdiv 1048576).tmod 64=sh
       obtain ⟨n,hn,gn⟩:=wrap_is (1 * 2 ^ (if sh.toNat≤64 then sh.toNat else 64))
       rw [hn]
       refine PFC.coe ?_
       simp -implicitDefEqProofs only [ft,go_sem,seval]
       obtain ⟨d,hd,pN⟩:=p_snumE (neg:=neg) (w:=[n]) (e:=e) (by intro z hz;simp at hz;omega) (by simp) (by unfold R64;omega)
       have hq:=hQ d (i + 1) hd (by omega)
       generalize nuOf d=q at pN hq
       obtain ⟨s,y,v⟩:=q
       repeat (first|(with_reducible first|refine pv_seq fun K hK=>?_|((first|refine hK _ _ ?_|(clear hK;refine hK _ _ ?_)|(clear hK;clear hK;refine hK _ _ ?_));clear hK;try clear K))| refine W ?_|exact Z|with_reducible intro b)
       exact hq
    ·repeat (first|(with_reducible first|refine pv_seq fun K hK=>?_|((first|refine hK _ _ ?_|(clear hK;refine hK _ _ ?_)|(clear hK;clear hK;refine hK _ _ ?_));clear hK;try clear K))| refine W0 ?_|exact Z|with_reducible intro b)
     refine p_next (i:=i + 1) (by simp -implicitDefEqProofs only [updS,upS,if_true];rfl) hb (by omega) ?_
     repeat (first|(with_reducible first|refine pv_seq fun K hK=>?_|((first|refine hK _ _ ?_|(clear hK;refine hK _ _ ?_)|(clear hK;clear hK;refine hK _ _ ?_));clear hK;try clear K))| refine W0 ?_|exact Z|with_reducible intro b)
     generalize IntKind.u64.wrap ((w.getD (i + 1) 0:Nat) * 1048576)=sh
     obtain ⟨n,hn,gn⟩:=bv_is .or ((x:Int).fdiv 1024) sh
     rw [hn]
     refine PFC.coe ?_
     simp -implicitDefEqProofs only [ft,go_sem,seval]
     obtain ⟨d,hd,pN⟩:=p_snumE (neg:=neg) (w:=[n]) (e:=e - 30) (by intro z hz;simp at hz;omega) (by simp) (by unfold R64;omega)
     have hq:=hQ d (i + 2) hd (by omega)
     generalize nuOf d=q at pN hq
     obtain ⟨s,y,v⟩:=q
     repeat (first|(with_reducible first|refine pv_seq fun K hK=>?_|((first|refine hK _ _ ?_|(clear hK;refine hK _ _ ?_)|(clear hK;clear hK;refine hK _ _ ?_));clear hK;try clear K))| refine W ?_|exact Z|with_reducible intro b)
     simp only [updS_updS]
     exact hq
end Go.V
namespace Go.V
open Go Go.RowKit
def forceN (n:Nat) (k:Nat→Bool):Bool:=Nat.rec (k 0) (fun m _=>k (m + 1)) n
theorem forceN_eq (n:Nat) (k:Nat→Bool):forceN n k=k n:=by cases n<;>rfl
structure QO where
 dep:Nat
 look:Nat
 dst:Option Nat
 md:Nat
def maskOf:List Nat→Nat
 | []=>0
 | d :: r=>(1 <<< d) ||| maskOf r
theorem test_one (i k:Nat):(1 <<< i).testBit k=(k == i):=by
 rw [Nat.one_shiftLeft,Nat.testBit_two_pow]
 by_cases h:i=k
 ·simp [h]
 ·have:k≠i:=fun e=>h e.symm
  simp [h,this]
theorem maskOf_test (l:List Nat) (k:Nat):(maskOf l).testBit k=l.contains k:=by
 induction l with
 | nil=>simp [maskOf]
 | cons d r ih=>rw [maskOf,Nat.testBit_or,ih,test_one,List.contains_cons]
def depM (o:Oper):Nat:=maskOf ((o.after.toList.filter (Region.binds .any)).map (·.on))
theorem depM_test (o:Oper) (k:Nat):(depM o).testBit k=true ↔ ∃ e ∈ o.after,Region.binds .any e=true∧e.on=k:=by
 unfold depM
 rw [maskOf_test]
 simp only [List.contains_iff_mem,List.mem_map,List.mem_filter,Array.mem_toList_iff]
 constructor
 ·rintro ⟨e,⟨h1,h2⟩,h3⟩;exact ⟨e,h1,h2,h3⟩
 ·rintro ⟨e,h1,h2,h3⟩;exact ⟨e,⟨h1,h2⟩,h3⟩
theorem dep_any (o:Oper) (M:Nat):(depM o &&& M != 0)=true ↔ ∃ e ∈ o.after,Region.binds .any e=true∧M.testBit e.on=true:=by
 rw [bne_iff_ne]
 constructor
 ·intro h
  obtain ⟨k,hk⟩:=Nat.exists_testBit_of_ne_zero h
  rw [Nat.testBit_and,Bool.and_eq_true] at hk
  obtain ⟨e,h1,h2,h3⟩:=(depM_test o k).1 hk.1
  exact ⟨e,h1,h2,h3 ▸ hk.2⟩
 ·rintro ⟨e,h1,h2,h3⟩ h0
  have:=congrArg (fun x=>x.testBit e.on) h0
  simp only [Nat.testBit_and,Nat.zero_testBit,h3,Bool.and_true] at this
  rw [(depM_test o e.on).2 ⟨e,h1,h2,rfl⟩] at this
  cases this
theorem dep_all (o:Oper) (L:Nat):(depM o &&& L == depM o)=true ↔ ∀ e ∈ o.after,Region.binds .any e=true→L.testBit e.on=true:=by
 rw [beq_iff_eq]
 constructor
 ·intro h e h1 h2
  have:=congrArg (fun x=>x.testBit e.on) h
  simp only [Nat.testBit_and,(depM_test o e.on).2 ⟨e,h1,h2,rfl⟩,Bool.true_and] at this
  exact this
 ·intro h
  apply Nat.eq_of_testBit_eq
  intro k
  rw [Nat.testBit_and]
  cases hd:(depM o).testBit k
  ·rfl
  ·obtain ⟨e,h1,h2,h3⟩:=(depM_test o k).1 hd
   rw [← h3,h e h1 h2];rfl
def qsOf (all:Array Oper) (mode:Nat→Nat):List Oper→Nat→List QO
 | [],_=>[]
 | o :: r,j=>⟨depM o,maskOf (o.looksAt all),o.dst,mode j⟩ :: qsOf all mode r (j + 1)
def mkQ (all:Array Oper) (mode:Nat→Nat):List Oper→Nat→(List QO→Bool)→Bool
 | [],_,k=>k []
 | o :: r,j,k=>forceN (depM o) fun d=>forceN (maskOf (o.looksAt all)) fun l=>forceN (mode j) fun m=>mkQ all mode r (j + 1) (fun qs=>k (⟨d,l,o.dst,m⟩ :: qs))
theorem mkQ_eq {all:Array Oper} {mode:Nat→Nat} (l:List Oper):∀ (j:Nat) (k:List QO→Bool),mkQ all mode l j k=k (qsOf all mode l j):=by
 induction l with
 | nil=>intro j k;rfl
 | cons o r ih=>intro j k;simp only [mkQ,forceN_eq,ih,qsOf]
theorem qsOf_get {all:Array Oper} {mode:Nat→Nat} (l:List Oper):∀ (j t:Nat),(qsOf all mode l j)[t]? = (l[t]?).map (fun o=>⟨depM o,maskOf (o.looksAt all),o.dst,mode (j + t)⟩):=by
 induction l with
 | nil=>intro j t;simp [qsOf]
 | cons o r ih =>
   intro j t
   cases t with
   | zero=>simp [qsOf]
   | succ t=>simp [qsOf,ih,Nat.add_assoc,Nat.add_comm 1 t]
def rdyF:List QO→Nat→Nat→List Nat
 | [],_,_=>[]
 | q :: r,L,j=>bif !L.testBit j && (q.dep &&& L == q.dep) then j :: rdyF r L (j + 1) else rdyF r L (j + 1)
def apartF (di:Option Nat) (li:Nat) (q:QO):Bool :=
 (match di with
  | some d => !q.look.testBit d && q.dst != some d
  | none=>true) &&
 (match q.dst with
  | some d => !li.testBit d
  | none=>true)
def qgo (i m:Nat) (di:Option Nat) (li L:Nat):List QO→Nat→Nat→Bool
 | [],_,_=>true
 | q :: r,j,D =>
   (j == i || L.testBit j || q.dep.testBit i || apartF di li q) &&
   bif (q.dep &&& (D ||| 1 <<< i)) != 0 then !L.testBit j && forceN (D ||| 1 <<< j) (qgo i m di li L r (j + 1)) else (L.testBit j || j == i || beside m q.md) && qgo i m di li L r (j + 1) D
def quietF (qs:List QO) (L i m:Nat):Bool:=match qs[i]? with
 | none=>false
 | some q => !L.testBit i && (q.dep &&& L == q.dep) && decide (q.md≤2) && qgo i m q.dst q.look L qs 0 0
def planFF (qs:List QO):List (Nat × Nat)→Nat→Bool
 | [],L=>(rdyF qs L 0).isEmpty
 | (i,m) :: r,L=>(if m≤2 then quietF qs L i m else (match qs[i]? with|some q=>q.md == m|none=>false) && rdyF qs L 0 == [i]) && forceN (L ||| 1 <<< i) (planFF qs r)
structure LR (n:Nat) (listed:Array Bool) (L:Nat):Prop where
 size:listed.size=n
 bit:∀ k,listed.getD k false=L.testBit k
theorem LR.bitT {n:Nat} {listed:Array Bool} {L k:Nat} (h:LR n listed L) (hk:k<n):listed.getD k true=L.testBit k:=by
 rw [← h.bit k]
 have:k<listed.size:=h.size ▸ hk
 simp [Array.getD,this]
theorem ready_eq {ops:List Oper} {mode:Nat→Nat} {listed:Array Bool} {L:Nat} (h:LR ops.length listed L):Region.ready .any ops.toArray listed=rdyF (qsOf ops.toArray mode ops 0) L 0:=by
 unfold Region.ready
 have key:∀ (suf:List Oper) (j:Nat),(∀ t o,suf[t]? = some o→ops[j + t]? = some o)→j + suf.length≤ops.length →
  (List.range' j suf.length).filter (fun i => !listed.getD i true && ((ops.toArray[i]?).map (fun o:Oper=>o.after.all fun e => !Region.binds .any e || listed.getD e.on false)).getD false)=rdyF (qsOf ops.toArray mode suf j) L j:=by
  intro suf
  induction suf with
  | nil=>intro j _ _;rfl
  | cons o r ih =>
    intro j hs hl
    have hj:ops.toArray[j]? = some o:=by have:=hs 0 o rfl;simpa using this
    have hlt:j<ops.length:=by simp at hl;omega
    have ih:=ih (j + 1) (fun t o' ht=>by have:=hs (t + 1) o' (by simpa using ht);rwa [show j + (t + 1)=j + 1 + t by omega] at this) (by simp at hl;omega)
    rw [List.length_cons,List.range'_succ,List.filter_cons,ih]
    have e1:(o.after.all fun e => !Region.binds .any e || listed.getD e.on false)=(depM o &&& L == depM o):=by
     rw [Bool.eq_iff_iff,dep_all,Array.all_eq_true']
     constructor
     ·intro hh e he hb;have:=hh e he;rw [hb,h.bit] at this;simpa using this
     ·intro hh e he;cases hb:Region.binds .any e
      ·rfl
      ·rw [h.bit,hh e he hb];rfl
    rw [hj,h.bitT hlt]
    simp only [Option.map_some,Option.getD_some,e1,qsOf,rdyF,Bool.cond_eq_ite]
 have:=key ops 0 (fun t o ht=>by simpa using ht) (by simp)
 rw [← this,List.range_eq_range']
 simp
theorem push_getD (A:Array Bool) (b:Bool) (k:Nat):(A.push b).getD k false=if k=A.size then b else A.getD k false:=by
 simp only [Array.getD,Array.size_push]
 by_cases h1:k<A.size
 ·rw [dif_pos h1,dif_pos (by omega),if_neg (by omega)]
  simp [Array.getInternal_eq_getElem,Array.getElem_push,h1]
 ·by_cases h2:k=A.size
  ·subst h2;simp [Array.getInternal_eq_getElem]
  ·rw [dif_neg h1,dif_neg (by omega),if_neg h2]
theorem qgo_sound {ops:List Oper} {mode:Nat→Nat} {i m L:Nat} {listed:Array Bool} {oi:Oper} (hL:LR ops.length listed L) :
 ∀ (suf:List Oper) (j:Nat) (Dp:Array Bool) (D:Nat),Dp.size=j→(∀ k,Dp.getD k false=D.testBit k)→(∀ t o,suf[t]? = some o→ops[j + t]? = some o) →
   qgo i m oi.dst (maskOf (oi.looksAt ops.toArray)) L (qsOf ops.toArray mode suf j) j D=true →
   (∀ k,Dp.getD k false=true→(suf.foldl (fun D o=>D.push (o.after.any fun e=>Region.binds .any e && (e.on == i || D.getD e.on false))) Dp).getD k false=true) ∧
   (∀ k,k<j→(suf.foldl (fun D o=>D.push (o.after.any fun e=>Region.binds .any e && (e.on == i || D.getD e.on false))) Dp).getD k false=Dp.getD k false) ∧
   ∀ t o,suf[t]? = some o →
     (((suf.foldl (fun D o=>D.push (o.after.any fun e=>Region.binds .any e && (e.on == i || D.getD e.on false))) Dp).getD (j + t) false=true→listed.getD (j + t) false=false ∧
         ∃ e ∈ o.after,Region.binds .any e=true∧(e.on=i∨(suf.foldl (fun D o=>D.push (o.after.any fun e=>Region.binds .any e && (e.on == i || D.getD e.on false))) Dp).getD e.on false=true)) ∧
       ((suf.foldl (fun D o=>D.push (o.after.any fun e=>Region.binds .any e && (e.on == i || D.getD e.on false))) Dp).getD (j + t) false=false→listed.getD (j + t) true=true∨j + t=i∨beside m (mode (j + t))=true)) ∧
     (j + t=i∨listed.getD (j + t) true=true∨(∃ e ∈ o.after,Region.binds .any e=true∧e.on=i)∨oi.apart ops.toArray o=true):=by
 intro suf
 induction suf with
 | nil=>intro j Dp D _ _ _ _;exact ⟨fun k h=>h,fun k _=>rfl,fun t o h=>by simp at h⟩
 | cons o r ih =>
   intro j Dp D hsz hD hs hq
   have hj:ops[j]? = some o:=by have:=hs 0 o rfl;simpa using this
   have hlt:j<ops.length:=(List.getElem?_eq_some_iff.1 hj).1
   have hsr:∀ t o',r[t]? = some o'→ops[j + 1 + t]? = some o':=fun t o' ht=>by have:=hs (t + 1) o' (by simpa using ht);rwa [show j + (t + 1)=j + 1 + t by omega] at this
   simp only [qsOf,qgo,Bool.and_eq_true,Bool.or_eq_true,beq_iff_eq,Bool.cond_eq_ite,forceN_eq] at hq
   obtain ⟨hfr,hq⟩:=hq
   have hb:(o.after.any fun e=>Region.binds .any e && (e.on == i || Dp.getD e.on false))=((depM o &&& (D ||| 1 <<< i)) != 0):=by
    rw [Bool.eq_iff_iff,dep_any,Array.any_eq_true']
    constructor
    ·rintro ⟨e,he,h2⟩
     simp only [Bool.and_eq_true,Bool.or_eq_true,beq_iff_eq] at h2
     refine ⟨e,he,h2.1,?_⟩
     rw [Nat.testBit_or,test_one,← hD]
     rcases h2.2 with h3|h3
     ·simp [h3]
     ·rw [h3];rfl
    ·rintro ⟨e,he,h2,h3⟩
     refine ⟨e,he,?_⟩
     rw [Nat.testBit_or,test_one,← hD] at h3
     simp only [Bool.and_eq_true,Bool.or_eq_true,beq_iff_eq] at h3 ⊢
     exact ⟨h2,h3.symm⟩
   have hF:j=i∨listed.getD j true=true∨(∃ e ∈ o.after,Region.binds .any e=true∧e.on=i)∨oi.apart ops.toArray o=true:=by
    rcases hfr with ((h|h)|h)|h
    ·exact .inl h
    ·exact .inr (.inl (by rw [hL.bitT hlt];exact h))
    ·exact .inr (.inr (.inl ((depM_test o i).1 h)))
    ·refine .inr (.inr (.inr ?_))
     rw [← h];unfold Oper.apart apartF
     simp only [maskOf_test]
     cases oi.dst<;>cases o.dst<;>rfl
   rw [List.foldl_cons,hb]
   cases hw:(depM o &&& (D ||| 1 <<< i)) != 0 with
   | true =>
     rw [hw,if_pos rfl] at hq
     simp only [Bool.and_eq_true,Bool.not_eq_true'] at hq
     have ih:=ih (j + 1) (Dp.push true) (D ||| 1 <<< j) (by simp [hsz]) (fun k=>by
      rw [push_getD,Nat.testBit_or,test_one,hsz,hD]
      by_cases h:k=j
      ·simp [h]
      ·simp [h]) hsr hq.2
     obtain ⟨i1,i2,i3⟩:=ih
     have mono:∀ k,Dp.getD k false=true→(Dp.push true).getD k false=true:=fun k hk=>by rw [push_getD];split<;>simp_all
     have self:(r.foldl (fun D o=>D.push (o.after.any fun e=>Region.binds .any e && (e.on == i || D.getD e.on false))) (Dp.push true)).getD j false=true:=by
      rw [i2 j (by omega),push_getD,if_pos hsz.symm]
     refine ⟨fun k hk=>i1 k (mono k hk),fun k hk=>?_,fun t o' ht=>?_⟩
     ·rw [i2 k (by omega),push_getD,if_neg (by omega)]
     ·cases t with
      | zero =>
        cases (show o=o' by simpa using ht)
        refine ⟨⟨fun _=>⟨by rw [Nat.add_zero,hL.bit];exact hq.1,?_⟩,fun h0=>by rw [Nat.add_zero,self] at h0;cases h0⟩,hF⟩
        rw [hw] at hb
        obtain ⟨e,he,h2⟩:=Array.any_eq_true'.1 hb
        simp only [Bool.and_eq_true,Bool.or_eq_true,beq_iff_eq] at h2
        exact ⟨e,he,h2.1,h2.2.imp id fun h=>i1 _ (mono _ h)⟩
      | succ t=>rw [show j + (t + 1)=j + 1 + t by omega];exact i3 t o' (by simpa using ht)
   | false =>
     rw [hw,if_neg (by decide)] at hq
     simp only [Bool.and_eq_true,Bool.or_eq_true,beq_iff_eq] at hq
     have ih:=ih (j + 1) (Dp.push false) D (by simp [hsz]) (fun k=>by
      rw [push_getD]
      by_cases h:k=Dp.size
      ·rw [if_pos h,← hD];simp [Array.getD,h]
      ·rw [if_neg h,hD]) hsr hq.2
     obtain ⟨i1,i2,i3⟩:=ih
     have mono:∀ k,Dp.getD k false=true→(Dp.push false).getD k false=true:=fun k hk=>by
      rw [push_getD];split
      ·rename_i h;rw [h] at hk;simp [Array.getD] at hk
      ·exact hk
     have self:(r.foldl (fun D o=>D.push (o.after.any fun e=>Region.binds .any e && (e.on == i || D.getD e.on false))) (Dp.push false)).getD j false=false:=by
      rw [i2 j (by omega),push_getD,if_pos hsz.symm]
     refine ⟨fun k hk=>i1 k (mono k hk),fun k hk=>?_,fun t o' ht=>?_⟩
     ·rw [i2 k (by omega),push_getD,if_neg (by omega)]
     ·cases t with
      | zero =>
        cases (show o=o' by simpa using ht)
        refine ⟨⟨fun h0=>(by rw [Nat.add_zero,self] at h0;cases h0),fun _=>?_⟩,hF⟩
        rcases hq.1 with (h|h)|h
        ·exact .inl (by rw [Nat.add_zero,hL.bitT hlt];exact h)
        ·exact .inr (.inl h)
        ·exact .inr (.inr h)
      | succ t=>rw [show j + (t + 1)=j + 1 + t by omega];exact i3 t o' (by simpa using ht)
theorem quietF_sound {ops:List Oper} {mode:Nat→Nat} {i m L:Nat} {listed:Array Bool} (hL:LR ops.length listed L) (h:quietF (qsOf ops.toArray mode ops 0) L i m=true):quietOk ops.toArray mode listed i m=true∧i<ops.length:=by
 unfold quietF at h
 rw [qsOf_get] at h
 cases ho:ops[i]? with
 | none=>rw [ho] at h;cases h
 | some oi =>
   rw [ho] at h
   simp only [Option.map_some,Bool.and_eq_true,Nat.zero_add,decide_eq_true_eq,Bool.not_eq_true'] at h
   obtain ⟨⟨⟨h1,h2⟩,h3⟩,h4⟩:=h
   have hi:i<ops.length:=(List.getElem?_eq_some_iff.1 ho).1
   have hoA:ops.toArray[i]? = some oi:=by simpa using ho
   obtain ⟨_,_,q⟩:=qgo_sound (oi:=oi) hL ops 0 #[] 0 rfl (fun k=>by simp [Array.getD]) (fun t o ht=>by simpa using ht) h4
   have hW:waits ops.toArray i=ops.foldl (fun D o=>D.push (o.after.any fun e=>Region.binds .any e && (e.on == i || D.getD e.on false))) #[]:=by
    unfold waits;simp
   rw [← hW] at q
   refine ⟨?_,hi⟩
   unfold quietOk
   simp only [Bool.and_eq_true,List.all_eq_true,List.mem_range,decide_eq_true_eq]
   refine ⟨⟨⟨?_,?_⟩,h3⟩,?_⟩
   ·simp only [Region.ready,List.contains_iff_mem,List.mem_filter,List.mem_range,hoA,hL.bitT hi,h1,Option.map_some,Option.getD_some,Bool.not_false,Bool.true_and]
    refine ⟨by simpa using hi,?_⟩
    rw [Array.all_eq_true']
    intro e he
    cases hb:Region.binds .any e
    ·rfl
    ·rw [hL.bit,(dep_all oi L).1 h2 e he hb];rfl
   ·unfold Region.free
    rw [hoA]
    simp only [List.all_eq_true,List.mem_range]
    intro j hj
    have hj':j<ops.length:=by simpa using hj
    have:=(q j ops[j] (by simp)).2
    rw [Nat.zero_add] at this
    have hjA:ops.toArray[j]? = some ops[j]:=by simp
    rw [hjA]
    simp only [Bool.or_eq_true,beq_iff_eq]
    rcases this with h|h|h|h
    ·exact .inl (.inl h)
    ·exact .inl (.inr h)
    ·obtain ⟨e,he,hb,hon⟩:=h
     refine .inr (.inl (Array.any_eq_true'.2 ⟨e,he,?_⟩))
     simp [hb,hon]
    ·exact .inr (.inr h)
   ·intro j hj
    have hj':j<ops.length:=by simpa using hj
    have:=(q j ops[j] (by simp)).1
    rw [Nat.zero_add] at this
    have hjA:ops.toArray[j]? = some ops[j]:=by simp
    rw [hjA]
    cases hd:(waits ops.toArray i).getD j false with
    | true =>
      obtain ⟨h5,e,he,hb,h6⟩:=this.1 hd
      rw [h5]
      simp only [Bool.not_true,Bool.false_or,Bool.not_false,Bool.true_and,Bool.or_true,Bool.true_or]
      refine ⟨Array.any_eq_true'.2 ⟨e,he,?_⟩,trivial⟩
      simpa [hb] using h6
    | false =>
      have h5:=this.2 hd
      simp only [Bool.not_false,Bool.true_or,Bool.or_false,Bool.or_eq_true,beq_iff_eq,true_and]
      rcases h5 with h|h|h
      ·exact .inl (.inl h)
      ·exact .inl (.inr h)
      ·exact .inr h
theorem LR.put {n i L:Nat} {listed:Array Bool} (h:LR n listed L) (hi:i<n):LR n (listed.setIfInBounds i true) (L ||| 1 <<< i):=by
 refine ⟨by simp [h.size],fun k=>?_⟩
 rw [Nat.testBit_or,test_one,← h.bit]
 have hs:=h.size
 by_cases e:k=i
 ·subst e;simp [Array.getD,hs,hi,Array.getInternal_eq_getElem]
 ·have e':i≠k:=fun x=>e x.symm
  have hb:(k == i)=false:=by simpa using e
  rw [hb,Bool.or_false]
  by_cases hk:k<listed.size
  ·simp [Array.getD,hk,Array.getInternal_eq_getElem,e']
  ·simp [Array.getD,hk]
variable {P:Program} {N:DEnv→Store→Prop} {X:Nat→DEnv→Store→Prop} {R:DEnv→Store→Prop} {e:DEnv} {S:Store}
end Go.V
namespace Go.V
open Go Go.RowKit
def graft:PT→PT→PT
 | .nil,r=>r
 | .lin pl t,r=>.lin pl (graft t r)
 | .fork i m a j k b,r=>.fork i m (graft a r) j k (graft b r)
 | .fork3 i m a j k b p q c,r=>.fork3 i m (graft a r) j k (graft b r) p q (graft c r)
 | .fork4 i m a j k b p q c s u d,r=>.fork4 i m (graft a r) j k (graft b r) p q (graft c r) s u (graft d r)
 | .mix cs ars t,r=>.mix cs ars (graft t r)
def chain:List PT→PT
 | []=>.nil
 | t :: r=>graft t (chain r)
def stepF (qs:List QO) (L i m:Nat):Bool:=if m≤2 then quietF qs L i m else (match qs[i]? with|some q=>q.md == m|none=>false) && rdyF qs L 0 == [i]
def linF (qs:List QO):List (Nat × Nat)→Nat→(Nat→Option Nat)→Option Nat
 | [],L,k=>k L
 | (i,m) :: r,L,k=>if stepF qs L i m=true then linF qs r (L ||| 1 <<< i) k else none
def isAct (qs:List QO) (i m:Nat):Bool:=decide (3≤m) && (match qs[i]? with|some q=>q.md == m|none=>false)
def endF (qs:List QO):PT→Nat→Option Nat
 | .nil,L=>some L
 | .lin pl r,L=>linF qs pl L fun L'=>endF qs r L'
 | .fork i m a j k b,L=>if isAct qs i m && isAct qs j k && rdyF qs L 0 == [i,j] && a.size == b.size then
    (match endF qs a (L ||| 1 <<< i),endF qs b (L ||| 1 <<< j) with|some x,some y=>if x == y then some x else none|_,_=>none) else none
 | .fork3 i m a j k b p q c,L=>if isAct qs i m && isAct qs j k && isAct qs p q && rdyF qs L 0 == [i,j,p] && a.size == b.size && a.size == c.size then
    (match endF qs a (L ||| 1 <<< i),endF qs b (L ||| 1 <<< j),endF qs c (L ||| 1 <<< p) with|some x,some y,some z=>if x == y && x == z then some x else none|_,_,_=>none) else none
 | .fork4 i m a j k b p q c s u d,L=>if isAct qs i m && isAct qs j k && isAct qs p q && isAct qs s u && rdyF qs L 0 == [i,j,p,s] && a.size == b.size && a.size == c.size && a.size == d.size then
    (match endF qs a (L ||| 1 <<< i),endF qs b (L ||| 1 <<< j),endF qs c (L ||| 1 <<< p),endF qs d (L ||| 1 <<< s) with|some x,some y,some z,some w=>if x == y && x == z && x == w then some x else none|_,_,_,_=>none) else none
 | .mix _ _ _,_=>none
def chainF (qs:List QO):List PT→Nat→Bool
 | [],L=>(rdyF qs L 0).isEmpty
 | t :: r,L=>match endF qs t L with|some L'=>forceN L' (chainF qs r)|none=>false
def planChain (ops:Array Oper) (ts:List PT):Bool:=(Region.noSelect ops && (chain ts).size == ops.size) && mkQ ops (modeIn (chain ts).pairs) ops.toList 0 (fun qs=>chainF qs ts 0)
theorem lenF_add (pl:List (Nat × Nat)) (a b:Nat):lenF pl (a + b)=lenF pl a + b:=by
 induction pl with
 | nil=>rfl
 | cons x r ih=>simp only [lenF,ih];omega
theorem graft_size:∀ (t r:PT),(graft t r).size=t.size + r.size
 | .nil,r=>by simp [graft,PT.size]
 | .lin pl t,r=>by simp only [graft,PT.size,graft_size t r,lenF_add]
 | .fork i m a j k b,r=>by simp only [graft,PT.size,graft_size a r];omega
 | .fork3 i m a j k b p q c,r=>by simp only [graft,PT.size,graft_size a r];omega
 | .fork4 i m a j k b p q c s u d,r=>by simp only [graft,PT.size,graft_size a r];omega
 | .mix cs ars t,r=>by simp only [graft,PT.size,graft_size t r];omega
section
variable {ops:List Oper} {mode:Nat→Nat}
theorem step_sound {i m L:Nat} {listed:Array Bool} (h:LR ops.length listed L) (h1:stepF (qsOf ops.toArray mode ops 0) L i m=true) :
 stepOk ops.toArray mode listed i m=true∧LR ops.length (listed.setIfInBounds i true) (L ||| 1 <<< i):=by
 unfold stepF at h1
 unfold stepOk
 by_cases hm:m≤2
 ·rw [if_pos hm] at h1 ⊢
  obtain ⟨h3,h4⟩:=quietF_sound h h1
  exact ⟨h3,h.put h4⟩
 ·rw [if_neg hm] at h1 ⊢
  simp only [Bool.and_eq_true] at h1
  rw [qsOf_get] at h1
  cases ho:ops[i]? with
  | none=>rw [ho] at h1;cases h1.1
  | some oi =>
    rw [ho] at h1
    simp only [Option.map_some,Nat.zero_add] at h1
    have hi:i<ops.length:=(List.getElem?_eq_some_iff.1 ho).1
    refine ⟨?_,h.put hi⟩
    rw [ready_eq (mode:=mode) h,Bool.and_eq_true]
    exact h1
theorem linF_sound {k:Nat→Option Nat} {x:Nat}:∀ (pl:List (Nat × Nat)) (L:Nat) (listed:Array Bool),LR ops.length listed L→linF (qsOf ops.toArray mode ops 0) pl L k=some x→∃ l' L',planL ops.toArray mode pl listed=some l'∧LR ops.length l' L'∧k L'=some x
 | [],L,listed,h,hp=>⟨listed,L,rfl,h,hp⟩
 | (i,m) :: r,L,listed,h,hp=>by
   simp only [linF] at hp
   split at hp
   ·rename_i h1
    obtain ⟨s1,s2⟩:=step_sound h h1
    obtain ⟨l',L',e1,e2,e3⟩:=linF_sound r _ _ s2 hp
    refine ⟨l',L',?_,e2,e3⟩
    simp only [planL]
    rw [if_pos s1];exact e1
   ·cases hp
theorem isAct_sound {i m:Nat} (h:isAct (qsOf ops.toArray mode ops 0) i m=true):decide (3≤m)=true∧(mode i == m)=true∧i<ops.length:=by
 unfold isAct at h
 rw [Bool.and_eq_true,qsOf_get] at h
 cases ho:ops[i]? with
 | none=>rw [ho] at h;cases h.2
 | some oi =>
   rw [ho] at h
   simp only [Option.map_some,Nat.zero_add] at h
   exact ⟨h.1,h.2,(List.getElem?_eq_some_iff.1 ho).1⟩
theorem endF_sound {r:PT} {x:Nat} (hr:∀ l',LR ops.length l' x→planT ops.toArray mode r l'=true):∀ (t:PT) (L:Nat) (listed:Array Bool),LR ops.length listed L→endF (qsOf ops.toArray mode ops 0) t L=some x→planT ops.toArray mode (graft t r) listed=true
 | .nil,L,listed,h,hp=>by
   simp only [endF,Option.some.injEq] at hp
   subst hp
   exact hr _ h
 | .lin pl t,L,listed,h,hp=>by
   simp only [endF] at hp
   obtain ⟨l',L',e1,e2,e3⟩:=linF_sound pl L listed h hp
   simp only [graft,planT,e1]
   exact endF_sound hr t _ _ e2 e3
 | .fork i m a j k b,L,listed,h,hp=>by
   simp only [endF] at hp
   split at hp
   ·rename_i h1
    simp only [Bool.and_eq_true,beq_iff_eq] at h1
    obtain ⟨⟨⟨h1,h2⟩,h3⟩,h4⟩:=h1
    obtain ⟨a1,a2,a3⟩:=isAct_sound h1
    obtain ⟨b1,b2,b3⟩:=isAct_sound h2
    split at hp
    ·rename_i u v hu hv
     split at hp
     ·rename_i huv
      rw [beq_iff_eq] at huv
      simp only [Option.some.injEq] at hp
      subst huv hp
      simp only [graft,planT,Bool.and_eq_true,beq_iff_eq,graft_size,h4,ready_eq (mode:=mode) h,h3]
      exact ⟨⟨⟨⟨⟨⟨a1,b1⟩,beq_iff_eq.1 a2⟩,beq_iff_eq.1 b2⟩,trivial⟩,trivial⟩,endF_sound hr a _ _ (h.put a3) hu,endF_sound hr b _ _ (h.put b3) hv⟩
     ·cases hp
    ·cases hp
   ·cases hp
 | .fork3 i m a j k b p q c,L,listed,h,hp=>by
   simp only [endF] at hp
   split at hp
   ·rename_i h1
    simp only [Bool.and_eq_true,beq_iff_eq] at h1
    obtain ⟨⟨⟨⟨⟨h1,h2⟩,h5⟩,h3⟩,h4⟩,h6⟩:=h1
    obtain ⟨a1,a2,a3⟩:=isAct_sound h1
    obtain ⟨b1,b2,b3⟩:=isAct_sound h2
    obtain ⟨c1,c2,c3⟩:=isAct_sound h5
    split at hp
    ·rename_i u v w hu hv hw
     split at hp
     ·rename_i huv
      rw [Bool.and_eq_true,beq_iff_eq,beq_iff_eq] at huv
      obtain ⟨huv,huw⟩:=huv
      simp only [Option.some.injEq] at hp
      subst huv huw hp
      simp only [graft,planT,Bool.and_eq_true,beq_iff_eq,graft_size,h4,h6,ready_eq (mode:=mode) h,h3]
      rw [← h4] at *
      exact ⟨⟨⟨⟨⟨⟨⟨⟨⟨a1,b1⟩,c1⟩,beq_iff_eq.1 a2⟩,beq_iff_eq.1 b2⟩,beq_iff_eq.1 c2⟩,trivial⟩,trivial⟩,by omega⟩,⟨endF_sound hr a _ _ (h.put a3) hu,endF_sound hr b _ _ (h.put b3) hv⟩,endF_sound hr c _ _ (h.put c3) hw⟩
     ·cases hp
    ·cases hp
   ·cases hp
 | .fork4 i m a j k b p q c s u d,L,listed,h,hp=>by
   simp only [endF] at hp
   split at hp
   ·rename_i h1
    simp only [Bool.and_eq_true,beq_iff_eq] at h1
    obtain ⟨⟨⟨⟨⟨⟨⟨h1,h2⟩,h5⟩,h7⟩,h3⟩,h4⟩,h6⟩,h8⟩:=h1
    obtain ⟨a1,a2,a3⟩:=isAct_sound h1
    obtain ⟨b1,b2,b3⟩:=isAct_sound h2
    obtain ⟨c1,c2,c3⟩:=isAct_sound h5
    obtain ⟨d1,d2,d3⟩:=isAct_sound h7
    split at hp
    ·rename_i e f g w he hf hg hw
     split at hp
     ·rename_i huv
      rw [Bool.and_eq_true,Bool.and_eq_true,beq_iff_eq,beq_iff_eq,beq_iff_eq] at huv
      obtain ⟨⟨huv,huw⟩,hux⟩:=huv
      simp only [Option.some.injEq] at hp
      subst huv huw hux hp
      simp only [graft,planT,Bool.and_eq_true,beq_iff_eq,graft_size,ready_eq (mode:=mode) h,h3]
      exact ⟨⟨⟨⟨⟨⟨⟨⟨⟨⟨⟨⟨a1,b1⟩,c1⟩,d1⟩,beq_iff_eq.1 a2⟩,beq_iff_eq.1 b2⟩,beq_iff_eq.1 c2⟩,beq_iff_eq.1 d2⟩,trivial⟩,by omega⟩,by omega⟩,by omega⟩,⟨⟨endF_sound hr a _ _ (h.put a3) he,endF_sound hr b _ _ (h.put b3) hf⟩,endF_sound hr c _ _ (h.put c3) hg⟩,endF_sound hr d _ _ (h.put d3) hw⟩
     ·cases hp
    ·cases hp
   ·cases hp
 | .mix _ _ _,L,listed,h,hp=>by simp only [endF] at hp;cases hp
theorem chainF_sound:∀ (ts:List PT) (L:Nat) (listed:Array Bool),LR ops.length listed L→chainF (qsOf ops.toArray mode ops 0) ts L=true→planT ops.toArray mode (chain ts) listed=true
 | [],L,listed,h,hp=>by
   simp only [chainF] at hp
   simp only [chain,planT]
   rw [ready_eq (mode:=mode) h];exact hp
 | t :: r,L,listed,h,hp=>by
   simp only [chainF] at hp
   split at hp
   ·rename_i x hx
    rw [forceN_eq] at hp
    exact endF_sound (fun l' hl=>chainF_sound r x l' hl hp) t L listed h hx
   ·cases hp
end
theorem planChain_sound {ops:List Oper} {ts:List PT} (h:planChain ops.toArray ts=true):planTok ops.toArray (chain ts)=true:=by
 unfold planChain at h
 unfold planTok
 rw [mkQ_eq] at h
 simp only [Bool.and_eq_true] at h ⊢
 refine ⟨h.1,chainF_sound ts 0 _ ⟨by simp,fun k=>?_⟩ h.2⟩
 simp [Array.getD]
section
variable {P:Program} {ops:List Oper}
theorem pdT_graft {N:DEnv→Store→Prop} {r:PT}:∀ t:PT,pdT P ops N (graft t r)=pdT P ops (pdT P ops N r) t
 | .nil=>rfl
 | .lin pl t=>by funext e S;simp only [graft,pdT];rw [pdT_graft t]
 | .fork i m a j k b=>by funext e S;simp only [graft,pdT];rw [pdT_graft a,pdT_graft b]
 | .fork3 i m a j k b p q c=>by funext e S;simp only [graft,pdT];rw [pdT_graft a,pdT_graft b,pdT_graft c]
 | .fork4 i m a j k b p q c s u d=>by funext e S;simp only [graft,pdT];rw [pdT_graft a,pdT_graft b,pdT_graft c,pdT_graft d]
 | .mix cs ars t=>by funext e S;simp only [graft,pdT];rw [pdT_graft t]
end
def chainD (P:Program) (l:List Oper) (N:DEnv→Store→Prop):List PT→DEnv→Store→Prop
 | []=>N
 | t :: r=>pdT P l (chainD P l N r) t
theorem chainD_eq {P:Program} {l:List Oper} {N:DEnv→Store→Prop}:∀ ts:List PT,chainD P l N ts=pdT P l N (chain ts)
 | []=>rfl
 | t :: r=>by simp only [chainD,chain];rw [pdT_graft t,chainD_eq r]
variable {P:Program} {N:DEnv→Store→Prop} {X:Nat→DEnv→Store→Prop} {R:DEnv→Store→Prop} {e:DEnv} {S:Store} {l:List Oper}
theorem dj (P:Program) (id:Nat) (ts:List PT) {N:DEnv→Store→Prop} {X:Nat→DEnv→Store→Prop} {R:DEnv→Store→Prop} {e:DEnv} {S:Store} {l:List Oper} (hp:planChain l.toArray ts=true) (h:chainD P l N ts e S):pvc P (.region id l.toArray true) N X R e S :=
 pv_drawT (chain ts) (planChain_sound hp) (by rw [← chainD_eq];exact h)
end Go.V
namespace Go.V
open Go Go.RowKit Go.Proofs
theorem w1 {s:Bool} {k:Int} {n:Nat} (ho:n % 2=1) (hn:n<18446744073709551616) (h1 : -60000≤k) (h2:k≤60000):(⟨s,k,[n]⟩:Nu)=nuOf (dy s n k)∧OkD (dy s n k)∧rightB ⟨s,k,[n]⟩=true∧(⟨s,k,[n]⟩:Nu).val=dy s n k:=by
 have e:(⟨s,k,[n]⟩:Nu)=nuOf (dy s n k):=by rw [nuOf_odd ho,digs_small (by decide) (by omega) hn]
 have hk:OkD (dy s n k):=OkD_word hn (by omega) (by omega)
 refine ⟨e,hk,?_,?_⟩
 ·rw [e,rightB_nuOf,decide_eq_true hk]
 ·rw [e,val_nuOf]
end Go.V
