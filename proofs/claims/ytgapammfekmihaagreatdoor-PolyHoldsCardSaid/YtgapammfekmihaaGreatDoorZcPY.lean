/- Numbers over values as data: the document's values: their parts, sums, products. Numbers over values as data: the document's values: differences, order, right numbers. The statements' own small functions of layer 2: light. The seat's deck: numbers drawn from a list of words. A plan's check by bit masks: quick enough for the kernel at a region of a hundred operations. Plans with forks that join again, checked by bit masks. The statements' own small functions of layer 2: known, light. -/
import Derived.Test.YtgapammfekmihaaGreatDoorZcPX
import Derived.Test.YtgapammfekmihaaGreatDoorZcPU
import Derived.Test.YtgapammfekmihaaGreatDoorZcPC
set_option linter.unusedSimpArgs false
set_option linter.unusedVariables false
set_option maxRecDepth 100000
namespace Go.V
open Go Go.RowKit Go.Proofs
def qC4_61_1:List (Nat × Nat):=[(0,0),(1,2),(2,0),(3,1),(5,0),(6,2),(4,4),(7,0),(8,3)]
def qC4_106_3:List (Nat × Nat):=[(0,0),(1,2),(2,0),(3,2),(4,0),(5,0),(6,1),(7,0),(8,1),(10,0),(11,2),(12,0),(13,2),(14,0),(9,4),(15,0),(16,3)]
def qC4_103_6:List (Nat × Nat):=[(0,0),(1,1),(2,0),(3,1),(4,0),(5,0),(7,0),(8,2),(9,0),(10,2),(11,0),(12,0),(6,4),(13,3),(14,0),(15,0)]
def qC4_103_8:List (Nat × Nat):=[(0,0),(1,2),(2,0),(3,0),(5,0),(4,4),(6,3),(7,3)]
def qC4_103_11:List (Nat × Nat):=[(0,0),(1,2),(2,0),(3,0),(5,0),(4,4),(6,3),(7,3)]
def qC4_103_13:List (Nat × Nat):=[(0,0),(1,2),(2,0),(3,0),(5,0),(4,4),(6,3),(7,3)]
attribute [go_sem] qC4_61_1 qC4_106_3 qC4_103_6 qC4_103_8 qC4_103_11 qC4_103_13
def VA (d:Dyadic):D:=.agg [bl (fS d),W32 (D32 (fN d)),i64 (fE d)]
attribute [go_sem] VA
theorem D32_0:D32 0=[]:=digs_zero _
theorem N32_D32 (n:Nat):N32 (D32 n)=n:=nval_digs (by decide) n
theorem D32_b (n:Nat):B32 (D32 n):=digs_lt (by decide) n
theorem D32_l0 {n:Nat}:((D32 n).length=0)=(n=0):=by rw [List.length_eq_zero_iff];exact propext (digs_eq_nil (by decide))
theorem VA_0:VA 0=.agg [bl false,W32 [],i64 0]:=by unfold VA;rw [fN_zero,D32_0];rfl
theorem p_rOdd {k:Nat} {neg:Bool} {n:Nat} {e:Int} (hn:n<2 ^ k) (hk:k≤1073741824) (h1 : -1099511627776≤e) (h2:e≤1099511627776):PC Tryz.prog 147 [bl neg,W32 (D32 n),i64 e] fun d=>d=VA (dy neg n e):=by
 have hl:(D32 n).length≤k:=digs32_le hn
 have pZ:=p_rZeros (n:=n) (by omega)
 by_cases h0:n=0
 ·subst h0
  rw [dy_zero.2 rfl,VA_0,D32_0]
  refine PB (rs:=[.cell 6 90]) Tryz.func147 ?_
  exact Wk
 ·have ht:=tz_lt hn h0
  have pD:=p_rDown (n:=tz n) (D32_b n) (D32_nt n) (show (D32 n).length≤1099511627776 by omega) (by omega)
  rw [N32_D32] at pD
  obtain ⟨f1,f2,f3⟩:=f_of (neg:=neg) (e:=e) h0
  unfold VA
  rw [f1,f2,f3]
  have hl0:((D32 n).length=0)=False:=eq_false (by rw [D32_l0];exact h0)
  refine PB (rs:=[.cell 6 90]) Tryz.func147 ?_
  have ft:=hl0
  repeat (first|(with_reducible first|refine pv_seq fun K hK=>?_|((first|refine hK _ _ ?_|(clear hK;refine hK _ _ ?_)|(clear hK;clear hK;refine hK _ _ ?_));clear hK;try clear K))| refine W ?_|exact Z|with_reducible intro b)
  refine call_pc pD ?_
  rintro d ⟨b,rfl⟩
  exact Wk
theorem p_rOf {d:Dyadic} (hd:OkD d):PC Tryz.prog 61 [NU (nuOf d)] fun r=>r=VA d:=by
 have hl:=hd.len
 rw [nuOf_f] at hl
 simp only at hl
 have pP:=p_Part (xs:=D64 (fN d)) (digs_lt (by decide) _) (by show (digs _ _).length≤_;omega)
 rw [show N64 (D64 (fN d))=fN d from nval_digs (by decide) _] at pP
 unfold VA
 rw [nuOf_f]
 have d1:=@dl 1 qC4_61_1
 refine PB (rs:=[.cell 2 90]) Tryz.func61 ?_
 exact Wk
theorem p_rNum {k:Nat} {d:Dyadic} (hd:Bd k d) (hk:k≤1073741824):PC Tryz.prog 105 [VA d] fun r=>r=NE (numR d):=by
 have hl:(D32 (fN d)).length≤k:=digs32_le hd.1
 by_cases h0:d=0
 ·subst h0
  rw [VA_0,numR_zero]
  refine PB (rs:=[.cell 2 41,.tmp 3]) Tryz.func105 ?_
  exact Wk
 ·have hl0:((D32 (fN d)).length=0)=False:=eq_false (by rw [D32_l0];exact mt fN_eq_zero.1 h0)
  have pW:=p_Words (n:=fN d) (by omega)
  have hok:OkD d ↔ (D64 (fN d)).length≤64 ∧ -65536≤fE d∧fE d≤65536:=by
   unfold OkD;rw [nuOf_f];exact ⟨fun h=>⟨h.1,h.2,h.3⟩,fun h=>⟨h.1,h.2.1,h.2.2⟩⟩
  have hnu:OkD d→numR d=(⟨fS d,fE d,D64 (fN d)⟩,0):=fun h=>by rw [numR_ok h,nuOf_f]
  have hno:¬ OkD d→numR d=(nu0,2):=numR_over
  unfold VA
  generalize numR d=r at *
  generalize fS d=s at *
  generalize fE d=e at *
  generalize fN d=n at *
  refine PB (rs:=[.cell 2 41,.tmp 3]) Tryz.func105 ?_
  have ft:=hl0
  repeat (first|(with_reducible first|refine pv_seq fun K hK=>?_|((first|refine hK _ _ ?_|(clear hK;refine hK _ _ ?_)|(clear hK;clear hK;refine hK _ _ ?_));clear hK;try clear K))| refine W0 ?_|exact Z|with_reducible intro b)
  refine call_is pW ?_
  by_cases g1:(64:Int)<((D64 n).length:Int)
  ·have ft:=(eq_true g1)
   repeat (first|(with_reducible first|refine pv_seq fun K hK=>?_|((first|refine hK _ _ ?_|(clear hK;refine hK _ _ ?_)|(clear hK;clear hK;refine hK _ _ ?_));clear hK;try clear K))| refine W0 ?_|exact Z|with_reducible intro b)
   rw [hno fun h=>by have:=hok.1 h;omega];try rfl
  ·by_cases g2:e < -65536
   ·have ft:=And.intro (eq_false g1) (eq_true g2)
    repeat (first|(with_reducible first|refine pv_seq fun K hK=>?_|((first|refine hK _ _ ?_|(clear hK;refine hK _ _ ?_)|(clear hK;clear hK;refine hK _ _ ?_));clear hK;try clear K))| refine W0 ?_|exact Z|with_reducible intro b)
    rw [hno fun h=>by have:=hok.1 h;omega];try rfl
   ·by_cases g3:65536<e
    ·have ft:=And.intro (eq_false g1) (And.intro (eq_false g2) (eq_true g3))
     repeat (first|(with_reducible first|refine pv_seq fun K hK=>?_|((first|refine hK _ _ ?_|(clear hK;refine hK _ _ ?_)|(clear hK;clear hK;refine hK _ _ ?_));clear hK;try clear K))| refine W0 ?_|exact Z|with_reducible intro b)
     rw [hno fun h=>by have:=hok.1 h;omega];try rfl
    ·have ft:=And.intro (eq_false g1) (And.intro (eq_false g2) (eq_false g3))
     repeat (first|(with_reducible first|refine pv_seq fun K hK=>?_|((first|refine hK _ _ ?_|(clear hK;refine hK _ _ ?_)|(clear hK;clear hK;refine hK _ _ ?_));clear hK;try clear K))| refine W0 ?_|exact Z|with_reducible intro b)
     rw [hnu (hok.2 (by omega))];try rfl
theorem p_rMake {k:Nat} {neg:Bool} {w:List Nat} {e:Int} (hb:B64 w) (hl:w.length≤k) (hk:k≤1048576) (he:R64 e):PC Tryz.prog 108 [bl neg,W64 w,i64 e] fun d=>d=NE (numR (dy neg (N64 w) e)):=by
 unfold R64 at he
 have hn:N64 w<2 ^ (64 * k):=by
  rw [Nat.pow_mul]
  exact Nat.lt_of_lt_of_le (nval_lt (by decide) w hb) (Nat.pow_le_pow_right (by decide) hl)
 have hlD:(D32 (N64 w)).length≤64 * k:=digs32_le hn
 have pP:=p_Part hb (by omega)
 have pZ:=p_rZeros (n:=N64 w) (by omega)
 by_cases h0:N64 w=0
 ·rw [h0,D32_0] at pP
  rw [dy_zero.2 h0,numR_zero]
  refine PB (rs:=[.cell 6 41,.tmp 7]) Tryz.func108 ?_
  exact Wk
 ·have ht:=tz_lt hn h0
  have hl0:((D32 (N64 w)).length=0)=False:=eq_false (by rw [D32_l0];exact h0)
  have hnu:=nuOf_dy (neg:=neg) (e:=e) h0
  have hover:65536<e∨e < -65536 - (tz (N64 w):Int)→¬ OkD (dy neg (N64 w) e):=by
   intro h hk
   have h2:(nuOf (dy neg (N64 w) e)).exp≤65536:=hk.hi
   have h3 : -65536≤(nuOf (dy neg (N64 w) e)).exp:=hk.lo
   rw [hnu] at h2 h3
   simp only at h2 h3
   omega
  refine PB (rs:=[.cell 6 41,.tmp 7]) Tryz.func108 ?_
  have ft:=hl0
  repeat (first|(with_reducible first|refine pv_seq fun K hK=>?_|((first|refine hK _ _ ?_|(clear hK;refine hK _ _ ?_)|(clear hK;clear hK;refine hK _ _ ?_));clear hK;try clear K))| refine W ?_|exact Z|with_reducible intro b)
  by_cases g1:65536<e
  ·have ft:=(eq_true g1)
   repeat (first|(with_reducible first|refine pv_seq fun K hK=>?_|((first|refine hK _ _ ?_|(clear hK;refine hK _ _ ?_)|(clear hK;clear hK;refine hK _ _ ?_));clear hK;try clear K))| refine W0 ?_|exact Z|with_reducible intro b)
   rw [numR_over (hover (.inl g1))];try rfl
  ·by_cases g2:e < -65536 - (tz (N64 w):Int)
   ·have ft:=And.intro (eq_false g1) (eq_true g2)
    repeat (first|(with_reducible first|refine pv_seq fun K hK=>?_|((first|refine hK _ _ ?_|(clear hK;refine hK _ _ ?_)|(clear hK;clear hK;refine hK _ _ ?_));clear hK;try clear K))| refine W ?_|exact Z|with_reducible intro b)
    rw [numR_over (hover (.inr g2))];try rfl
   ·have ft:=And.intro (eq_false g1) (eq_false g2)
    repeat (first|(with_reducible first|refine pv_seq fun K hK=>?_|((first|refine hK _ _ ?_|(clear hK;refine hK _ _ ?_)|(clear hK;clear hK;refine hK _ _ ?_));clear hK;try clear K))| refine W ?_|exact Z|with_reducible intro b)
    repeat (first|(with_reducible first|refine pv_seq fun K hK=>?_|((first|refine hK _ _ ?_|(clear hK;refine hK _ _ ?_)|(clear hK;clear hK;refine hK _ _ ?_));clear hK;try clear K))| refine W0 ?_|exact Z|with_reducible intro b|refine call_is (by exact (p_rOdd (neg:=neg) (e:=e) hn (by omega) (by omega) (by omega))) ?_)
    refine call_is (p_rNum (k:=65536 + 64 * k + 64 * k) ?_ (by omega)) ?_
    ·refine Bd.mono (Bd.of (k:=65536 + 64 * k) hn (by omega) (by omega)) (by omega)
    ·exact Wk
theorem p_rTurned {d:Dyadic}:PC Tryz.prog 186 [VA d] fun r=>r=VA (-d):=by
 by_cases h0:d=0
 ·subst h0
  rw [show -(0:Dyadic)=0 from rfl,VA_0]
  refine PB (rs:=[.cell 2 90]) Tryz.func186 ?_
  exact Wk
 ·have hl0:(0<(D32 (fN d)).length)=True:=eq_true (by
   rcases Nat.eq_zero_or_pos (D32 (fN d)).length with h|h
   ·rw [D32_l0] at h;exact absurd (fN_eq_zero.1 h) h0
   ·exact h)
  obtain ⟨a,b,c⟩:=f_neg d h0
  unfold VA
  rw [a,b,c]
  refine PB (rs:=[.cell 2 90]) Tryz.func186 ?_
  have ft:=hl0
  exact Wk
theorem p_rSign {d:Dyadic}:PC Tryz.prog 104 [VA d] fun r=>r=i64 (sgnD d):=by
 by_cases h0:d=0
 ·subst h0
  rw [show sgnD 0=0 from by decide,VA_0]
  refine PB (rs:=[.tmp 2]) Tryz.func104 ?_
  exact Wk
 ·have hl0:((D32 (fN d)).length=0)=False:=eq_false (by rw [D32_l0];exact mt fN_eq_zero.1 h0)
  have hs:sgnD d=if fS d then -1 else 1:=by
   conv=>lhs;rw [← dy_f d]
   rw [sgnD_dy,if_neg (mt fN_eq_zero.1 h0)]
  rw [hs]
  unfold VA
  cases fS d
  ·refine PB (rs:=[.tmp 2]) Tryz.func104 ?_
   have ft:=hl0
   exact Wk
  ·refine PB (rs:=[.tmp 2]) Tryz.func104 ?_
   have ft:=hl0
   exact Wk
theorem p_rBy {k:Nat} {a b:Dyadic} (ha:Bd k a) (hb:Bd k b) (hk:k≤268435456):PC Tryz.prog 106 [VA a,VA b] fun r=>r=VA (a * b):=by
 have la:(D32 (fN a)).length≤k:=digs32_le ha.1
 have lb:(D32 (fN b)).length≤k:=digs32_le hb.1
 have pM:=p_rMul (D32_b (fN a)) (D32_b (fN b)) (by omega) (by omega)
 rw [N32_D32,N32_D32] at pM
 have a1:=ha.2.1;have a2:=ha.2.2;have b1:=hb.2.1;have b2:=hb.2.2
 by_cases h0:a=0
 ·subst h0
  rw [Dyadic.zero_mul,VA_0]
  unfold VA
  have d1:=@dl 3 qC4_106_3
  refine PB (rs:=[.cell 4 90]) Tryz.func106 ?_
  exact Wk
 ·have hl0:((D32 (fN a)).length=0)=False:=eq_false (by rw [D32_l0];exact mt fN_eq_zero.1 h0)
  by_cases h1:b=0
  ·subst h1
   rw [Dyadic.mul_zero,VA_0]
   unfold VA
   have d1:=@dl 3 qC4_106_3
   refine PB (rs:=[.cell 4 90]) Tryz.func106 ?_
   have ft:=hl0
   exact Wk
  ·have hl1:((D32 (fN b)).length=0)=False:=eq_false (by rw [D32_l0];exact mt fN_eq_zero.1 h1)
   obtain ⟨x,y,z⟩:=mul_odd h0 h1
   unfold VA
   rw [x,y,z]
   have d1:=@dl 3 qC4_106_3
   refine PB (rs:=[.cell 4 90]) Tryz.func106 ?_
   have ft:=And.intro hl0 hl1
   exact Wk
set_option maxHeartbeats 1000000 in
theorem p_rPlus {k:Nat} {a c:Dyadic} (ha:Bd k a) (hb:Bd k c) (hk:k≤67108864):PC Tryz.prog 103 [VA a,VA c] fun r=>r=VA (a + c):=by
 have la:(D32 (fN a)).length≤k:=digs32_le ha.1
 have lb:(D32 (fN c)).length≤k:=digs32_le hb.1
 have a1:=ha.2.1;have a2:=ha.2.2;have b1:=hb.2.1;have b2:=hb.2.2
 by_cases h0:a=0
 ·subst h0
  rw [Dyadic.zero_add,VA_0]
  unfold VA
  have d1:=@dl 6 qC4_103_6
  have d2:=@dl 8 qC4_103_8
  have d3:=@dl 11 qC4_103_11
  have d4:=@dl 13 qC4_103_13
  refine PB (rs:=[.cell 4 90]) Tryz.func103 ?_
  exact Wk
 ·have hl0:((D32 (fN a)).length=0)=False:=eq_false (by rw [D32_l0];exact mt fN_eq_zero.1 h0)
  by_cases h1:c=0
  ·subst h1
   rw [Dyadic.add_zero,VA_0]
   unfold VA
   have d1:=@dl 6 qC4_103_6
   have d2:=@dl 8 qC4_103_8
   have d3:=@dl 11 qC4_103_11
   have d4:=@dl 13 qC4_103_13
   refine PB (rs:=[.cell 4 90]) Tryz.func103 ?_
   have ft:=hl0
   exact Wk
  ·have hl1:((D32 (fN c)).length=0)=False:=eq_false (by rw [D32_l0];exact mt fN_eq_zero.1 h1)
   obtain ⟨e,i,j,hm,hi,hj⟩:=low_e a c
   have e1 : -(k:Int)≤e:=by rw [← hm];split<;>assumption
   have e2:e≤k:=by rw [← hm];split<;>assumption
   have i1:i≤2 * k:=by omega
   have j1:j≤2 * k:=by omega
   have x:=up_lt2 ha.1 i1
   have y:=up_lt2 hb.1 j1
   have hp:(2:Nat) ^ (k + 2 * k) + 2 ^ (k + 2 * k)=2 ^ (3 * k + 1):=by rw [show k + 2 * k=3 * k by omega,Nat.pow_succ];omega
   have lx:(D32 (fN a * 2 ^ i)).length≤k + 2 * k:=digs32_le x
   have ly:(D32 (fN c * 2 ^ j)).length≤k + 2 * k:=digs32_le y
   have ea:=up_f hi
   have eb:=up_f hj
   have pA:=p_rLeft (n:=i) (D32_b (fN a)) (by omega) (by omega)
   have pB:=p_rLeft (n:=j) (D32_b (fN c)) (by omega) (by omega)
   rw [N32_D32] at pA pB
   generalize hX:fN a * 2 ^ i=X at *
   generalize hY:fN c * 2 ^ j=Y at *
   have hab:a + c=dy (fS a) X e + dy (fS c) Y e:=by rw [← ea,← eb]
   unfold VA
   have d1:=@dl 6 qC4_103_6
   have d2:=@dl 8 qC4_103_8
   have d3:=@dl 11 qC4_103_11
   have d4:=@dl 13 qC4_103_13
   refine PB (rs:=[.cell 4 90]) Tryz.func103 ?_
   have ft:=And.intro hl0 (And.intro hl1 (And.intro hm (And.intro hi hj)))
   repeat (first|(with_reducible first|refine pv_seq fun K hK=>?_|((first|refine hK _ _ ?_|(clear hK;refine hK _ _ ?_)|(clear hK;clear hK;refine hK _ _ ?_));clear hK;try clear K))| refine W ?_|exact Z|with_reducible intro b)
   by_cases hs:fS a=fS c
   ·rw [← hs,dy_add] at hab
    have pS:=p_rAdd (D32_b X) (D32_b Y) (by omega) (by omega)
    rw [N32_D32,N32_D32] at pS
    have hbq:(fS a == fS c)=true:=by rw [hs];exact beq_self_eq_true _
    have ft:=hbq
    repeat (first|(with_reducible first|refine pv_seq fun K hK=>?_|((first|refine hK _ _ ?_|(clear hK;refine hK _ _ ?_)|(clear hK;clear hK;refine hK _ _ ?_));clear hK;try clear K))| refine W ?_|exact Z|with_reducible intro b)
    refine call_is (p_rOdd (neg:=fS a) (n:=X + Y) (e:=e) (k:=3 * k + 1) (by omega) (by omega) (by omega) (by omega)) ?_
    rw [← hab]
    exact Wk
   ·have hbq:(fS a == fS c)=false:=by
     generalize fS a=p at *
     generalize fS c=q at *
     cases p<;>cases q<;>simp at hs ⊢
    have pC:=p_rCmp (m:=X) (n:=Y) (by omega) (by omega)
    have ft:=hbq
    repeat (first|(with_reducible first|refine pv_seq fun K hK=>?_|((first|refine hK _ _ ?_|(clear hK;refine hK _ _ ?_)|(clear hK;clear hK;refine hK _ _ ?_));clear hK;try clear K))| refine W0 ?_|exact Z|with_reducible intro b)
    refine call_is pC ?_
    rcases Nat.lt_trichotomy X Y with h|h|h
    ·have hc:cmpI (X:Int) (Y:Int) = -1:=by unfold cmpI;rw [if_pos (by omega)]
     rw [hc]
     rw [Dyadic.add_comm (dy (fS a) X e),dy_sub (Ne.symm hs) (by omega)] at hab
     have pS:=p_rSub (D32_b Y) (D32_b X) (by omega) (by rw [N32_D32,N32_D32];omega)
     rw [N32_D32,N32_D32] at pS
     have ft:=true_and
     repeat (first|(with_reducible first|refine pv_seq fun K hK=>?_|((first|refine hK _ _ ?_|(clear hK;refine hK _ _ ?_)|(clear hK;clear hK;refine hK _ _ ?_));clear hK;try clear K))| refine W ?_|exact Z|with_reducible intro b)
     refine call_is (p_rOdd (neg:=fS c) (n:=Y - X) (e:=e) (k:=3 * k + 1) (by omega) (by omega) (by omega) (by omega)) ?_
     rw [← hab]
     exact Wk
    ·have hc:cmpI (X:Int) (Y:Int)=0:=by unfold cmpI;rw [if_neg (by omega),if_neg (by omega)]
     rw [hc]
     rw [dy_sub hs (by omega),h,Nat.sub_self,dy_zero.2 rfl] at hab
     have ft:=true_and
     repeat (first|(with_reducible first|refine pv_seq fun K hK=>?_|((first|refine hK _ _ ?_|(clear hK;refine hK _ _ ?_)|(clear hK;clear hK;refine hK _ _ ?_));clear hK;try clear K))| refine W0 ?_|exact Z|with_reducible intro b)
     rw [hab];exact VA_0.symm
    ·have hc:cmpI (X:Int) (Y:Int)=1:=by unfold cmpI;rw [if_neg (by omega),if_pos (by omega)]
     rw [hc]
     rw [dy_sub hs (by omega)] at hab
     have pS:=p_rSub (D32_b X) (D32_b Y) (by omega) (by rw [N32_D32,N32_D32];omega)
     rw [N32_D32,N32_D32] at pS
     have ft:=true_and
     repeat (first|(with_reducible first|refine pv_seq fun K hK=>?_|((first|refine hK _ _ ?_|(clear hK;refine hK _ _ ?_)|(clear hK;clear hK;refine hK _ _ ?_));clear hK;try clear K))| refine W ?_|exact Z|with_reducible intro b)
     refine call_is (p_rOdd (neg:=fS a) (n:=X - Y) (e:=e) (k:=3 * k + 1) (by omega) (by omega) (by omega) (by omega)) ?_
     rw [← hab]
     exact Wk
end Go.V
namespace Go.V
open Go Go.RowKit Go.Proofs
def qC5_161_1:List (Nat × Nat):=[(0,2),(1,1),(2,4),(3,3),(4,3)]
def qC5_166_3:List (Nat × Nat):=[(0,1),(2,2),(1,4),(3,3),(4,3),(5,0)]
attribute [go_sem] qC5_161_1 qC5_166_3
theorem p_rLess {k:Nat} {a b:Dyadic} (ha:Bd k a) (hb:Bd k b) (hk:k≤67108864):PC Tryz.prog 161 [VA a,VA b] fun r=>r=VA (a - b):=by
 have e:a - b=a + -b:=by grind
 have pT:=p_rTurned (d:=b)
 have pP:=p_rPlus ha hb.neg hk
 rw [e]
 unfold VA at *
 have d1:=@dl 1 qC5_161_1
 refine PB (rs:=[.cell 4 90]) Tryz.func161 ?_
 exact Wk
theorem p_rOrder {k:Nat} {a b:Dyadic} (ha:Bd k a) (hb:Bd k b) (hk:k≤67108864):PC Tryz.prog 157 [VA a,VA b] fun r=>r=i64 (cmpD a b):=by
 have pL:=p_rLess ha hb hk
 have pS:=p_rSign (d:=a - b)
 rw [cmpD_sub]
 unfold VA at *
 refine PB (rs:=[.tmp 4]) Tryz.func157 ?_
 exact Wk
theorem p_rCmpNum {x y:Nu} (hx:B64 x.w) (hy:B64 y.w):PC Tryz.prog 166 [NU x,NU y] fun d=>d=i64 (if rightB x && rightB y then cmpD x.val y.val else 0):=by
 have pX:=p_rRight hx
 have pY:=p_rRight hy
 by_cases h:(rightB x && rightB y)=true
 ·rw [if_pos h]
  rw [Bool.and_eq_true] at h
  rw [h.1] at pX
  rw [h.2] at pY
  obtain ⟨a,ha,rfl⟩:=right_is hx h.1
  obtain ⟨b,hb,rfl⟩:=right_is hy h.2
  rw [val_nuOf,val_nuOf]
  have pA:=p_rOf ha
  have pB:=p_rOf hb
  have pO:=p_rOrder ha.bd hb.bd (by decide)
  generalize nuOf a=x at *
  generalize nuOf b=y at *
  obtain ⟨neg,exp,w⟩:=x
  obtain ⟨neg',exp',w'⟩:=y
  have d1:=@dl 3 qC5_166_3
  refine PB (rs:=[.tmp 4]) Tryz.func166 ?_
  exact Wk
 ·rw [if_neg h]
  generalize rightB x=r at *
  generalize rightB y=s at *
  obtain ⟨neg,exp,w⟩:=x
  obtain ⟨neg',exp',w'⟩:=y
  have d1:=@dl 3 qC5_166_3
  refine PB (rs:=[.tmp 4]) Tryz.func166 ?_
  repeat (first|(with_reducible first|refine pv_seq fun K hK=>?_|((first|refine hK _ _ ?_|(clear hK;refine hK _ _ ?_)|(clear hK;clear hK;refine hK _ _ ?_));clear hK;try clear K))| refine W0 ?_|exact Z|with_reducible intro b)
  refine call_is pX ?_
  cases r
  ·exact Wk
  ·obtain rfl:s=false:=by simpa using h
   exact Wk
theorem p_rWhole {n:Int} (hn:R64 n):PC Tryz.prog 107 [i64 n] fun d=>d=VA (dy (decide (n<0)) n.natAbs 0):=by
 unfold R64 at hn
 have hwl:B64 [n.natAbs]:=by intro x hx;rw [List.mem_singleton.1 hx];omega
 have pP:=p_Part hwl (by simp)
 rw [show N64 [n.natAbs]=n.natAbs by simp [nval]] at pP
 have pO:=p_rOdd (k:=64) (neg:=decide (n<0)) (n:=n.natAbs) (e:=0) (by omega) (by decide) (by decide) (by decide)
 by_cases hn0:n<0
 ·have e1:IntKind.u64.wrap n=((18446744073709551616 - n.natAbs:Nat):Int):=by simp [IntKind.wrap,IntKind.signed,IntKind.bits];omega
  have e2:IntKind.u64.wrap (0 - ((18446744073709551616 - n.natAbs:Nat):Int))=(n.natAbs:Int):=by simp [IntKind.wrap,IntKind.signed,IntKind.bits];omega
  have hd:decide (n<0)=true:=decide_eq_true hn0
  rw [hd] at pO ⊢
  generalize dy true n.natAbs 0=v at *
  refine PB (rs:=[.cell 2 90]) Tryz.func107 ?_
  have ft:=And.intro e1 (And.intro e2 (eq_true hn0))
  exact Wk
 ·have e1:IntKind.u64.wrap n=(n.natAbs:Int):=by simp [IntKind.wrap,IntKind.signed,IntKind.bits];omega
  have hd:decide (n<0)=false:=decide_eq_false hn0
  rw [hd] at pO ⊢
  generalize dy false n.natAbs 0=v at *
  refine PB (rs:=[.cell 2 90]) Tryz.func107 ?_
  have ft:=And.intro e1 (eq_false hn0)
  exact Wk
end Go.V
namespace Go.V
open Go Go.RowKit Go.Proofs
def eU (x:Nu):List G:=[.lit (.bool x.neg),.lit (.int .i64 x.exp),eS (eK .u64) x.w]
theorem eU_0 {x:Nu}:(eU x)=[.lit (.bool x.neg),.lit (.int .i64 x.exp),eS (eK .u64) x.w]:=rfl
end Go.V
namespace Go.V
open Go Go.RowKit Go.Proofs
def qC8_67_2:List (Nat × Nat):=[(0,0),(1,0),(2,0),(3,1),(4,0),(5,0),(6,0),(7,1),(8,0),(9,0)]
def qC8_67_3:List (Nat × Nat):=[(0,0),(1,0),(2,0),(3,1),(4,0),(5,0),(6,0),(7,1),(8,0),(9,1),(10,0)]
attribute [go_sem] qC8_67_2 qC8_67_3
theorem p_next {k:Nm} {S:Store} {Q:D→Store→Prop} {b i:Nat} {w:List Nat} (hS:S k=some ⟨b,2,0,[[W64 w,i64 i]]⟩) (hb:B64 w) (hi:i≤1099511627776)
 (hQ:Q (.g (.lit (.int .u64 ((w.getD i 0:Nat):Int)))) (updS S k (some ⟨b,2,0,[[W64 w,i64 ((i + 1:Nat):Int)]]⟩))):PFC Tryz.prog 67 [.ptr k b 0 0 2] S Q:=by
 have d1:=@dl 2 qC8_67_2
 have d2:=@dl 3 qC8_67_3
 refine PFB (rs:=[.tmp 2]) Tryz.func67 ?_
 by_cases h:i<w.length
 ·have k1:((i:Int)<(w.length:Int))=True:=eq_true (by omega)
  have ft:=And.intro hS k1
  repeat (first|(with_reducible first|refine pv_seq fun K hK=>?_|((first|refine hK _ _ ?_|(clear hK;refine hK _ _ ?_)|(clear hK;clear hK;refine hK _ _ ?_));clear hK;try clear K))| refine W0 ?_|exact Z|with_reducible intro b)
  exact hQ
 ·have k1:((i:Int)<(w.length:Int))=False:=eq_false (by omega)
  have ft:=And.intro hS k1
  repeat (first|(with_reducible first|refine pv_seq fun K hK=>?_|((first|refine hK _ _ ?_|(clear hK;refine hK _ _ ?_)|(clear hK;clear hK;refine hK _ _ ?_));clear hK;try clear K))| refine W0 ?_|exact Z|with_reducible intro b)
  have g:w.getD i 0=0:=by simp [List.getD,h]
  rw [g] at hQ
  exact hQ
theorem p_snum {neg:Bool} {w:List Nat} {e:Int} (hb:B64 w) (hl:w.length≤100) (he:R64 e):PC Tryz.prog 68 [bl neg,W64 w,i64 e] fun d=>d=NU (numR (dy neg (N64 w) e)).1:=by
 have pM:=p_rMake (neg:=neg) (e:=e) (k:=100) hb hl (by decide) he
 generalize numR (dy neg (N64 w) e)=q at *
 obtain ⟨⟨s,x,y⟩,r⟩:=q
 refine PB (rs:=[.cell 6 41]) Tryz.func68 ?_
 exact Wk
def rOf (k:Nm):Nm:=if k=.r 0 0 then .l 5 else .up k
theorem rOf_inj (k k':Nm) (h:rOf k=rOf k'):k=k':=by
 unfold rOf at h
 by_cases h1:k=.r 0 0<;>by_cases h2:k'=.r 0 0
 ·rw [h1,h2]
 ·rw [if_pos h1,if_neg h2] at h;cases h
 ·rw [if_neg h1,if_pos h2] at h;cases h
 ·rw [if_neg h1,if_neg h2] at h;injection h
theorem p_Of {S:Store} {Q:D→Store→Prop} {w:List Nat} (hQ:∀ b,Q (.ptr (.r 0 0) b 0 0 2) (updS S (.r 0 0) (some ⟨b,2,0,[[W64 w,i64 0]]⟩))):PFC Tryz.prog 21 [W64 w] S Q:=by
 refine PRB rOf (fun _=>.r 0 0) rOf_inj (rs:=[.tmp 2]) Tryz.func21 ?_
 repeat (first|(with_reducible first|refine pv_seq fun K hK=>?_|((first|refine hK _ _ ?_|(clear hK;refine hK _ _ ?_)|(clear hK;clear hK;refine hK _ _ ?_));clear hK;try clear K))| refine W0 ?_|exact Z|with_reducible intro b)
 refine (congrArg (Q _) (Store.ext2 (fun k=>?_) (by rfl))).mpr (hQ b)
 dsimp only
 by_cases h:k=.r 0 0
 ·subst h;simp [rOf,updS];rfl
 ·have h2:rOf k=.up k:=if_neg h
  rw [h2];simp [updS,upS,upF,h]
theorem p_small {k:Nm} {S:Store} {Q:D→Store→Prop} {b i:Nat} {w:List Nat} (hS:S k=some ⟨b,2,0,[[W64 w,i64 i]]⟩) (hb:B64 w) (hi:i≤1099511627776)
 (hQ:∀ neg n e,n<64 → -6≤e→e≤2→Q (NU (numR (dy neg n e)).1) (updS S k (some ⟨b,2,0,[[W64 w,i64 ((i + 1:Nat):Int)]]⟩))):PFC Tryz.prog 31 [.ptr k b 0 0 2] S Q:=by
 refine PFB (rs:=[.cell 2 41]) Tryz.func31 ?_
 have ft:=hS
 repeat (first|(with_reducible first|refine pv_seq fun K hK=>?_|((first|refine hK _ _ ?_|(clear hK;refine hK _ _ ?_)|(clear hK;clear hK;refine hK _ _ ?_));clear hK;try clear K))| refine W0 ?_|exact Z|with_reducible intro b)
 refine p_next (i:=i) (by simp -implicitDefEqProofs only [updS,upS];exact hS) hb hi ?_
 repeat (first|(with_reducible first|refine pv_seq fun K hK=>?_|((first|refine hK _ _ ?_|(clear hK;refine hK _ _ ?_)|(clear hK;clear hK;refine hK _ _ ?_));clear hK;try clear K))| refine W0 ?_|exact Z|with_reducible intro b)
 have hx:w.getD i 0<18446744073709551616:=get_lt hb (by decide) i
 generalize w.getD i 0=x at *
 obtain ⟨e,he,h1,h2⟩:∃ e:Int,IntKind.i64.wrap (((x:Int).fdiv 128).tmod 9) - 6=e ∧ -6≤e∧e≤2:=by
  refine ⟨_,rfl,?_⟩
  have h3:((x:Int).fdiv 128).tmod 9=((x / 128 % 9:Nat):Int):=by
   rw [Int.fdiv_eq_ediv_of_nonneg _ (by decide),Int.tmod_eq_emod_of_nonneg (by omega)];omega
  have h4:x / 128 % 9<9:=Nat.mod_lt _ (by decide)
  rw [h3,show IntKind.i64.wrap ((x / 128 % 9:Nat):Int)=((x / 128 % 9:Nat):Int) by simp [IntKind.wrap,IntKind.signed,IntKind.bits];omega]
  omega
 rw [he]
 obtain ⟨m,hm,hm2⟩:∃ m:Nat,bitsV BinOp.and IntKind.u64 ((x / 2:Nat):Int) 63=(m:Int)∧m<64:=by
  exact ⟨(x / 2) &&& 63,and64_nat (x / 2) 63 (by omega) (by decide),Nat.lt_of_le_of_lt Nat.and_le_right (by decide)⟩
 rw [hm]
 refine ⟨by unfold R64;omega,?_⟩
 refine PFC.coe ?_
 simp -implicitDefEqProofs only [ft,go_sem,seval]
 generalize decide (bitsV BinOp.and IntKind.u64 (x:Int) 1=1)=neg
 have pN:=p_snum (neg:=neg) (w:=[m]) (e:=e) (by intro z hz;rw [List.mem_singleton.1 hz];omega) (by simp) (by unfold R64;omega)
 rw [show N64 [m]=m by simp [N64,nval]] at pN
 have hq:=hQ neg m e hm2 h1 h2
 generalize numR (dy neg m e)=q at pN hq
 obtain ⟨⟨s,y,v⟩,r⟩:=q
 repeat (first|(with_reducible first|refine pv_seq fun K hK=>?_|((first|refine hK _ _ ?_|(clear hK;refine hK _ _ ?_)|(clear hK;clear hK;refine hK _ _ ?_));clear hK;try clear K))| refine W ?_|exact Z|with_reducible intro b)
 exact hq
end Go.V
namespace Go.V
open Go Go.RowKit
variable {P:Program} {N:DEnv→Store→Prop} {X:Nat→DEnv→Store→Prop} {R:DEnv→Store→Prop} {e:DEnv} {S:Store}
end Go.V
namespace Go.V
open Go Go.RowKit
def graft:PT→PT→PT
 | .nil,r=>r
 | .lin pl t,r=>.lin pl (graft t r)
 | .fork i m a j k b,r=>.fork i m (graft a r) j k (graft b r)
 | .fork3 i m a j k b p q c,r=>.fork3 i m (graft a r) j k (graft b r) p q (graft c r)
 | .fork4 i m a j k b p q c s u d,r=>.fork4 i m (graft a r) j k (graft b r) p q (graft c r) s u (graft d r)
 | .mix cs ars t,r=>.mix cs ars (graft t r)
def chain:List PT→PT
 | []=>.nil
 | t :: r=>graft t (chain r)
section
variable {ops:List Oper} {mode:Nat→Nat}
end
section
variable {P:Program} {ops:List Oper}
end
variable {P:Program} {N:DEnv→Store→Prop} {X:Nat→DEnv→Store→Prop} {R:DEnv→Store→Prop} {e:DEnv} {S:Store} {l:List Oper}
end Go.V
namespace Go.V
open Go Go.RowKit Go.Proofs
theorem w1 {s:Bool} {k:Int} {n:Nat} (ho:n % 2=1) (hn:n<18446744073709551616) (h1 : -60000≤k) (h2:k≤60000):(⟨s,k,[n]⟩:Nu)=nuOf (dy s n k)∧OkD (dy s n k)∧rightB ⟨s,k,[n]⟩=true∧(⟨s,k,[n]⟩:Nu).val=dy s n k:=by
 have e:(⟨s,k,[n]⟩:Nu)=nuOf (dy s n k):=by rw [nuOf_odd ho,digs_small (by decide) (by omega) hn]
 have hk:OkD (dy s n k):=OkD_word hn (by omega) (by omega)
 refine ⟨e,hk,?_,?_⟩
 ·rw [e,rightB_nuOf,decide_eq_true hk]
 ·rw [e,val_nuOf]
end Go.V
