/- Intervals: plain laws. No program, no model. Intervals: parts of the operands, powers, quotients; plain laws. No program, no model. Package iv over values as data: which intervals are right, copies, sums and differences, products. Package iv over values as data: what lies in what, hull, meet, opposites, amounts. Package iv over values as data: meet, opposites, amounts; outward, sums, differences, products. Package iv over values as data: sums, differences, products. The document's intervals over values as data: which are right, what lies in what, hull, meet, opposites, amounts. The document's intervals over values as data: least, greatest product, powers, ends. The statements' own small functions of layer 5: light. Package iv over values as data: products, quotients. Package iv over values as data: quotients. Package iv over values as data: width. Package iv over values as data: middles. Package iv over values as data: radius. The document's intervals over values as data: quotients, the four operations. The document's intervals over values as data: sums, differences, products, quotients. Package iv over values as data: powers. The document's intervals over values as data: powers. The seat's deck: intervals, numbers and parts of intervals. The seat's deck: numbers in intervals, parts of intervals. The seat's deck: parts of intervals. The statements IvDrawn, IvFour of layer 5. Intervals of small numbers: what is reckoned of them fits; parts of the operands. Boxes and pieces over values as data: packages box and record. Series of intervals, plainly: coefficients of products, of polynomials, sums. Package series over values as data: coefficients of products; the document's. -/
import Derived.Test.YtgapammfekmihaaGreatDoorZcPX
import Derived.Test.YtgapammfekmihaaGreatDoorZcPZ
import Derived.Test.YtgapammfekmihaaGreatDoorZcPY
import Derived.Test.YtgapammfekmihaaGreatDoorZcPR
import Derived.Test.YtgapammfekmihaaGreatDoorZcPS
set_option linter.unusedVariables false
set_option linter.unusedSimpArgs false
set_option maxRecDepth 100000
namespace Go.V
open Go
theorem nn_mul {a b:Dyadic} (ha:0≤a) (hb:0≤b):0≤a * b:=by
 apply Dyadic.toRat_le_toRat_iff.1
 rw [Dyadic.toRat_mul]
 exact Rat.mul_nonneg (Dyadic.toRat_le_toRat_iff.2 ha) (Dyadic.toRat_le_toRat_iff.2 hb)
def loD (a b:Dyadic):Dyadic:=if b<a then b else a
def hiD (a b:Dyadic):Dyadic:=if a<b then b else a
theorem loD_le (a b:Dyadic):loD a b≤a∧loD a b≤b∧(loD a b=a∨loD a b=b):=by
 unfold loD;split
 ·exact ⟨by grind,by grind,.inr rfl⟩
 ·exact ⟨by grind,by grind,.inl rfl⟩
theorem hiD_ge (a b:Dyadic):a≤hiD a b∧b≤hiD a b∧(hiD a b=a∨hiD a b=b):=by
 unfold hiD;split
 ·exact ⟨by grind,by grind,.inr rfl⟩
 ·exact ⟨by grind,by grind,.inl rfl⟩
def minP (x y u v:Dyadic):Dyadic:=loD (loD (loD (x * u) (x * v)) (y * u)) (y * v)
def maxP (x y u v:Dyadic):Dyadic:=hiD (hiD (hiD (x * u) (x * v)) (y * u)) (y * v)
def leastR (x y u v:Dyadic):Dyadic :=
 if 0≤x∧0≤u then x * u else if 0≤x then y * u else if 0≤u then x * v else if y≤0∧v≤0 then y * v else if y * u<x * v then y * u else x * v
theorem minP_spec (x y u v:Dyadic):(minP x y u v≤x * u∧minP x y u v≤x * v∧minP x y u v≤y * u∧minP x y u v≤y * v)∧(minP x y u v=x * u∨minP x y u v=x * v∨minP x y u v=y * u∨minP x y u v=y * v):=by
 unfold minP
 have h1:=loD_le (x * u) (x * v)
 generalize loD (x * u) (x * v)=m1 at *
 have h2:=loD_le m1 (y * u)
 generalize loD m1 (y * u)=m2 at *
 have h3:=loD_le m2 (y * v)
 generalize loD m2 (y * v)=m3 at *
 grind
theorem maxP_spec (x y u v:Dyadic):(x * u≤maxP x y u v∧x * v≤maxP x y u v∧y * u≤maxP x y u v∧y * v≤maxP x y u v)∧(maxP x y u v=x * u∨maxP x y u v=x * v∨maxP x y u v=y * u∨maxP x y u v=y * v):=by
 unfold maxP
 have h1:=hiD_ge (x * u) (x * v)
 generalize hiD (x * u) (x * v)=m1 at *
 have h2:=hiD_ge m1 (y * u)
 generalize hiD m1 (y * u)=m2 at *
 have h3:=hiD_ge m2 (y * v)
 generalize hiD m2 (y * v)=m3 at *
 grind
theorem leastR_eq {x y u v:Dyadic} (hx:x≤y) (hu:u≤v):leastR x y u v=minP x y u v:=by
 have s:=minP_spec x y u v
 generalize minP x y u v=m at *
 have p1:0≤x→0≤x * (v - u):=fun h=>nn_mul h (by grind)
 have p2:0≤y→0≤y * (v - u):=fun h=>nn_mul h (by grind)
 have p3:0≤u→0≤(y - x) * u:=fun h=>nn_mul (by grind) h
 have p4:0≤v→0≤(y - x) * v:=fun h=>nn_mul (by grind) h
 have n1:x≤0→0≤(-x) * (v - u):=fun h=>nn_mul (by grind) (by grind)
 have n2:y≤0→0≤(-y) * (v - u):=fun h=>nn_mul (by grind) (by grind)
 have n3:u≤0→0≤(y - x) * (-u):=fun h=>nn_mul (by grind) (by grind)
 have n4:v≤0→0≤(y - x) * (-v):=fun h=>nn_mul (by grind) (by grind)
 unfold leastR
 by_cases a1:0≤x
 ·by_cases a2:0≤u
  ·rw [if_pos ⟨a1,a2⟩]
   have q1:=p1 a1;have q2:=p3 a2;have q3:=p2 (by grind)
   grind
  ·rw [if_neg (fun h=>a2 h.2),if_pos a1]
   have q1:=n3 (by grind);have q2:=p2 (by grind);have q3:=p1 a1
   grind
 ·rw [if_neg (fun h=>a1 h.1),if_neg a1]
  by_cases a2:0≤u
  ·rw [if_pos a2]
   have q1:=n1 (by grind);have q2:=p4 (by grind);have q3:=p3 a2
   grind
  ·rw [if_neg a2]
   by_cases a3:y≤0∧v≤0
   ·rw [if_pos a3]
    have q1:=n2 a3.1;have q2:=n4 a3.2;have q3:=n1 (by grind);have q4:=n3 (by grind)
    grind
   ·rw [if_neg a3]
    have r1:0≤(-x) * (-u):=nn_mul (by grind) (by grind)
    by_cases a4:y≤0
    ·have r2:0≤(-x) * v:=nn_mul (by grind) (by grind)
     have r3:0≤(-y) * (-u):=nn_mul (by grind) (by grind)
     have r4:0≤(y - x) * v:=nn_mul (by grind) (by grind)
     have r5:=n2 a4
     split<;>grind
    ·by_cases a5:v≤0
     ·have r2:0≤y * (-u):=nn_mul (by grind) (by grind)
      have r3:0≤y * (v - u):=p2 (by grind)
      have r4:0≤(-x) * (-v):=nn_mul (by grind) (by grind)
      split<;>grind
     ·have r2:0≤y * (-u):=nn_mul (by grind) (by grind)
      have r3:0≤(-x) * v:=nn_mul (by grind) (by grind)
      have r4:0≤y * v:=nn_mul (by grind) (by grind)
      split<;>grind
theorem greatR_eq {x y u v:Dyadic} (hx:x≤y) (hu:u≤v) : - leastR (-y) (-x) u v=maxP x y u v:=by
 rw [leastR_eq (by grind) hu]
 have s:=minP_spec (-y) (-x) u v
 have t:=maxP_spec x y u v
 generalize minP (-y) (-x) u v=m at *
 generalize maxP x y u v=n at *
 have e1 : -y * u = -(y * u):=by grind
 have e2 : -y * v = -(y * v):=by grind
 have e3 : -x * u = -(x * u):=by grind
 have e4 : -x * v = -(x * v):=by grind
 rw [e1,e2,e3,e4] at s
 grind
theorem prod_in {x y u v a b:Dyadic} (h1:x≤a) (h2:a≤y) (h3:u≤b) (h4:b≤v):minP x y u v≤a * b∧a * b≤maxP x y u v:=by
 have s:=minP_spec x y u v
 have t:=maxP_spec x y u v
 generalize minP x y u v=m at *
 generalize maxP x y u v=n at *
 obtain ⟨⟨s1,s2,s3,s4⟩,_⟩:=s
 obtain ⟨⟨t1,t2,t3,t4⟩,_⟩:=t
 have key:∀ c:Dyadic,m≤c * u→m≤c * v→c * u≤n→c * v≤n→m≤c * b∧c * b≤n:=by
  intro c c1 c2 c3 c4
  by_cases hc:0≤c
  ·have p1:0≤c * (b - u):=nn_mul hc (by grind)
   have p2:0≤c * (v - b):=nn_mul hc (by grind)
   grind
  ·have p1:0≤(-c) * (b - u):=nn_mul (by grind) (by grind)
   have p2:0≤(-c) * (v - b):=nn_mul (by grind) (by grind)
   grind
 have k1:=key x s1 s2 t1 t2
 have k2:=key y s3 s4 t3 t4
 by_cases hb:0≤b
 ·have p1:0≤(a - x) * b:=nn_mul (by grind) hb
  have p2:0≤(y - a) * b:=nn_mul (by grind) hb
  grind
 ·have p1:0≤(a - x) * (-b):=nn_mul (by grind) (by grind)
  have p2:0≤(y - a) * (-b):=nn_mul (by grind) (by grind)
  grind
end Go.V
namespace Go.V
open Go
theorem minP_mono {x y u v x' y' u' v':Dyadic} (h1:x≤x') (h2:x'≤y') (h3:y'≤y) (h4:u≤u') (h5:u'≤v') (h6:v'≤v):minP x y u v≤minP x' y' u' v'∧maxP x' y' u' v'≤maxP x y u v:=by
 have c1:=prod_in (x:=x) (y:=y) (u:=u) (v:=v) (a:=x') (b:=u') (by grind) (by grind) (by grind) (by grind)
 have c2:=prod_in (x:=x) (y:=y) (u:=u) (v:=v) (a:=x') (b:=v') (by grind) (by grind) (by grind) (by grind)
 have c3:=prod_in (x:=x) (y:=y) (u:=u) (v:=v) (a:=y') (b:=u') (by grind) (by grind) (by grind) (by grind)
 have c4:=prod_in (x:=x) (y:=y) (u:=u) (v:=v) (a:=y') (b:=v') (by grind) (by grind) (by grind) (by grind)
 have s:=(minP_spec x' y' u' v').2
 have t:=(maxP_spec x' y' u' v').2
 constructor
 ·rcases s with s|s|s|s<;>rw [s]<;>grind
 ·rcases t with t|t|t|t<;>rw [t]<;>grind
def powD (x:Dyadic):Nat→Dyadic
 | 0=>1
 | k + 1=>powD x k * x
theorem powD_nn {x:Dyadic} (h:0≤x):∀ k,0≤powD x k
 | 0=>by show (0:Dyadic)≤1;decide
 | k + 1=>nn_mul (powD_nn h k) h
theorem powD_mono {x y:Dyadic} (h0:0≤x) (h:x≤y):∀ k,powD x k≤powD y k
 | 0=>by show (1:Dyadic)≤1;grind
 | k + 1=>by
   have ih:=powD_mono h0 h k
   have p1:0≤(powD y k - powD x k) * x:=nn_mul (by grind) h0
   have p2:0≤powD y k * (y - x):=nn_mul (powD_nn (by grind) k) (by grind)
   show powD x k * x≤powD y k * y
   grind
theorem powD_neg (x:Dyadic):∀ k,powD (-x) k=if k % 2=0 then powD x k else - powD x k
 | 0=>rfl
 | k + 1=>by
   show powD (-x) k * -x=if (k + 1) % 2=0 then powD x k * x else -(powD x k * x)
   rw [powD_neg x k]
   by_cases h:k % 2=0
   ·rw [if_pos h,if_neg (by omega)];grind
   ·rw [if_neg h,if_pos (by omega)];grind
theorem powD_zero {k:Nat} (h:0<k):powD 0 k=0:=by
 cases k with
 | zero=>omega
 | succ k=>show powD 0 k * 0=0;grind
def loP (x y:Dyadic) (k:Nat):Dyadic:=if 0<k∧k % 2=0∧x≤0∧0≤y then 0 else loD (powD x k) (powD y k)
def hiP (x y:Dyadic) (k:Nat):Dyadic:=hiD (powD x k) (powD y k)
theorem pow_in {x y t:Dyadic} {k:Nat} (h1:x≤t) (h2:t≤y):loP x y k≤powD t k∧powD t k≤hiP x y k:=by
 have s1:=loD_le (powD x k) (powD y k)
 have s2:=hiD_ge (powD x k) (powD y k)
 unfold loP hiP
 generalize loD (powD x k) (powD y k)=m at *
 generalize hiD (powD x k) (powD y k)=n at *
 have nt:=powD_neg t k
 have nx:=powD_neg x k
 have ny:=powD_neg y k
 by_cases ht:0≤t
 ·have a1:=powD_mono ht h2 k
  have a2:=powD_nn ht k
  by_cases hx:0≤x
  ·have a3:=powD_mono hx h1 k
   have a4:=powD_nn hx k
   by_cases hc:0<k∧k % 2=0∧x≤0∧0≤y
   ·rw [if_pos hc];constructor<;>grind
   ·rw [if_neg hc];constructor<;>grind
  ·by_cases he:k % 2=0
   ·by_cases hk:0<k
    ·rw [if_pos ⟨hk,he,by grind,by grind⟩];constructor<;>grind
    ·obtain rfl:k=0:=by omega
     rw [if_neg (by simp)]
     have e1:powD x 0=1:=rfl
     have e2:powD t 0=1:=rfl
     have e3:powD y 0=1:=rfl
     constructor<;>grind
   ·rw [if_neg (by omega)]
    rw [if_neg he] at nx
    have a5:=powD_nn (x := -x) (by grind) k
    constructor<;>grind
 ·have b1:=powD_mono (x := -t) (y := -x) (by grind) (by grind) k
  have b2:=powD_nn (x := -t) (by grind) k
  by_cases he:k % 2=0
  ·rw [if_pos he] at nt nx ny
   by_cases hy:0≤y
   ·by_cases hk:0<k
    ·rw [if_pos ⟨hk,he,by grind,by grind⟩];constructor<;>grind
    ·obtain rfl:k=0:=by omega
     rw [if_neg (by simp)]
     have e1:powD x 0=1:=rfl
     have e2:powD t 0=1:=rfl
     constructor<;>grind
   ·have b3:=powD_mono (x := -y) (y := -t) (by grind) (by grind) k
    rw [if_neg (by intro h;exact hy h.2.2.2)]
    constructor<;>grind
  ·rw [if_neg he] at nt nx ny
   rw [if_neg (by omega)]
   by_cases hy:0≤y
   ·have b4:=powD_nn hy k
    constructor<;>grind
   ·have b3:=powD_mono (x := -y) (y := -t) (by grind) (by grind) k
    constructor<;>grind
theorem loP_mem (x y:Dyadic) (k:Nat) (h:x≤y):∃ t,x≤t∧t≤y∧loP x y k=powD t k:=by
 unfold loP
 by_cases hc:0<k∧k % 2=0∧x≤0∧0≤y
 ·rw [if_pos hc];exact ⟨0,hc.2.2.1,hc.2.2.2,(powD_zero hc.1).symm⟩
 ·rw [if_neg hc]
  rcases (loD_le (powD x k) (powD y k)).2.2 with e|e
  ·exact ⟨x,by grind,h,e⟩
  ·exact ⟨y,h,by grind,e⟩
theorem hiP_mem (x y:Dyadic) (k:Nat) (h:x≤y):∃ t,x≤t∧t≤y∧hiP x y k=powD t k:=by
 unfold hiP
 rcases (hiD_ge (powD x k) (powD y k)).2.2 with e|e
 ·exact ⟨x,by grind,h,e⟩
 ·exact ⟨y,h,by grind,e⟩
theorem pow_mono {x y x' y':Dyadic} {k:Nat} (h1:x≤x') (h2:x'≤y') (h3:y'≤y):loP x y k≤loP x' y' k∧hiP x' y' k≤hiP x y k:=by
 obtain ⟨s,s1,s2,s3⟩:=loP_mem x' y' k h2
 obtain ⟨t,t1,t2,t3⟩:=hiP_mem x' y' k h2
 rw [s3,t3]
 exact ⟨(pow_in (by grind) (by grind)).1,(pow_in (by grind) (by grind)).2⟩
end Go.V
namespace Go.V
open Go Go.RowKit Go.Proofs
def qI1_167_1:List (Nat × Nat):=[(0,1),(2,2),(1,4),(3,3),(4,0),(5,3)]
attribute [go_sem] qI1_167_1
structure Iv where
 lo:Nu
 hi:Nu
def IV (a:Iv):D:=.agg [bl a.lo.neg,i64 a.lo.exp,W64 a.lo.w,bl a.hi.neg,i64 a.hi.exp,W64 a.hi.w]
def IE (p:Iv × Int):D:=.tup [IV p.1,i64 p.2]
attribute [go_sem] IV IE
def iv0:Iv:=⟨nu0,nu0⟩
def rightI (a:Iv):Bool:=rightB a.lo && rightB a.hi && decide (a.lo.val≤a.hi.val)
structure Wi (k:Nat) (a:Iv):Prop where
 lo:Wl k a.lo
 hi:Wl k a.hi
def ivD (x y:Dyadic):Iv:=⟨nuOf x,nuOf y⟩
theorem rightI_is {k:Nat} {a:Iv} (h:Wi k a) (hr:rightI a=true):∃ x y,OkD x∧OkD y∧x≤y∧a=ivD x y:=by
 unfold rightI at hr
 rw [Bool.and_eq_true,Bool.and_eq_true,decide_eq_true_eq] at hr
 obtain ⟨lo,hi⟩:=a
 obtain ⟨x,hx,rfl⟩:=right_is h.lo.b hr.1.1
 obtain ⟨y,hy,rfl⟩:=right_is h.hi.b hr.1.2
 refine ⟨x,y,hx,hy,?_,rfl⟩
 have:=hr.2
 simp only [val_nuOf] at this
 exact this
theorem rightI_D {x y:Dyadic} (hx:OkD x) (hy:OkD y):rightI (ivD x y)=decide (x≤y):=by
 unfold rightI ivD
 simp only [rightB_nuOf,val_nuOf,decide_eq_true hx,decide_eq_true hy,Bool.true_and]
theorem wi_D {x y:Dyadic} (hx:OkD x) (hy:OkD y):Wi 65536 (ivD x y):=⟨(hx.sz).wl,(hy.sz).wl⟩
theorem cmpD_le0' {a b:Dyadic}:(cmpD a b≤0)=(a≤b):=by
 apply propext
 unfold cmpD
 by_cases h1:a<b
 ·rw [if_pos h1];constructor
  ·intro _;grind
  ·intro _;decide
 ·rw [if_neg h1]
  by_cases h2:b<a
  ·rw [if_pos h2];constructor
   ·intro h;exact absurd h (by decide)
   ·intro h;grind
  ·rw [if_neg h2];constructor
   ·intro _;grind
   ·intro _;decide
theorem p_iRight {k:Nat} {a:Iv} (h:Wi k a):PC Tryz.prog 85 [IV a] fun d=>d=bl (rightI a):=by
 have pX:=p_nRight h.lo.b
 have pY:=p_nRight h.hi.b
 have pC:rightB a.lo=true→rightB a.hi=true→PC Tryz.prog 88 [NU a.lo,NU a.hi] fun d=>d=i64 (cmpD a.lo.val a.hi.val):=fun h1 h2=>p_eCmp (right_sz h.lo.b h1) (right_sz h.hi.b h2) (by decide)
 unfold rightI
 have k3:decide (cmpD a.lo.val a.hi.val≤0)=decide (a.lo.val≤a.hi.val):=decide_eq_decide.2 (Iff.of_eq cmpD_le0')
 rw [← k3]
 clear k3
 generalize cmpD a.lo.val a.hi.val=c at *
 generalize rightB a.lo=r at *
 generalize rightB a.hi=s at *
 obtain ⟨⟨n1,e1,w1⟩,⟨n2,e2,w2⟩⟩:=a
 cases r
 ·refine PB (rs:=[.tmp 2]) Tryz.func85 ?_
  exact Wk
 ·cases s
  ·refine PB (rs:=[.tmp 2]) Tryz.func85 ?_
   exact Wk
  ·have pC:=pC rfl rfl
   refine PB (rs:=[.tmp 2]) Tryz.func85 ?_
   exact Wk
theorem p_copied {x:Nu} (hl:x.w.length≤1099511627776):PC Tryz.prog 188 [NU x] fun d=>d=NU x:=by
 obtain ⟨neg,exp,w⟩:=x
 simp only at hl
 refine PB (rs:=[.cell 2 41]) Tryz.func188 ?_
 repeat (first|(with_reducible first|refine pv_seq fun K hK=>?_|((first|refine hK _ _ ?_|(clear hK;refine hK _ _ ?_)|(clear hK;clear hK;refine hK _ _ ?_));clear hK;try clear K))| refine W0 ?_|exact Z|with_reducible intro b)
 refine ⟨by rw [rS_len];omega,by rw [rS_len];omega,fun h0=>?_,fun h0 b' cap'=>?_⟩
 ·obtain rfl:w=[]:=by have:=congrArg List.length h0;simpa [rS_len] using this
  exact Wk
 ·repeat (first|(with_reducible first|refine pv_seq fun K hK=>?_|refine pv_reg ?_)|((with_reducible first|refine hK _ _ ?_|(clear hK;refine hK _ _ ?_)|(clear hK;clear hK;refine hK _ _ ?_));clear hK;try clear K)|simp -implicitDefEqProofs only [List.drop_zero,List.take_length,optLL_rS,true_and,go_sem,seval]|with_reducible intro b|(with_reducible refine And.intro ?_ ?_;· first|assumption|omega|(unfold R64;omega)))
  try rfl
theorem p_ofI {x y:Nu} (hx:x.w.length≤1099511627776) (hy:y.w.length≤1099511627776):PC Tryz.prog 167 [NU x,NU y] fun d=>d=IV ⟨x,y⟩:=by
 have pX:=p_copied hx
 have pY:=p_copied hy
 obtain ⟨n1,e1,w1⟩:=x
 obtain ⟨n2,e2,w2⟩:=y
 have d1:=@dl 1 qI1_167_1
 refine PB (rs:=[.cell 4 51]) Tryz.func167 ?_
 exact Wk
theorem p_OfI {x:Nu} (hx:x.w.length≤1099511627776):PC Tryz.prog 122 [NU x] fun d=>d=IV ⟨x,x⟩:=by
 have pO:=p_ofI hx hx
 obtain ⟨n1,e1,w1⟩:=x
 refine PB (rs:=[.cell 2 51]) Tryz.func122 ?_
 exact Wk
end Go.V
namespace Go.V
open Go Go.RowKit Go.Proofs
def hasR (a:Iv) (x:Nu):Bool:=rightI a && rightB x && decide (a.lo.val≤x.val) && decide (x.val≤a.hi.val)
theorem rightI_lo {a:Iv} (h:rightI a=true):rightB a.lo=true∧rightB a.hi=true∧a.lo.val≤a.hi.val:=by
 unfold rightI at h
 rw [Bool.and_eq_true,Bool.and_eq_true,decide_eq_true_eq] at h
 exact ⟨h.1.1,h.1.2,h.2⟩
theorem p_HasI {k:Nat} {a:Iv} {x:Nu} (h:Wi k a) (hx:B64 x.w):PC Tryz.prog 42 [IV a,NU x] fun d=>d=bl (hasR a x):=by
 have pR:=p_iRight h
 have pX:=p_nRight hx
 have pC:rightI a=true→rightB x=true→(PC Tryz.prog 88 [NU a.lo,NU x] fun d=>d=i64 (cmpD a.lo.val x.val))∧(PC Tryz.prog 88 [NU x,NU a.hi] fun d=>d=i64 (cmpD x.val a.hi.val)):=fun h1 h2=>by
  obtain ⟨r1,r2,_⟩:=rightI_lo h1
  exact ⟨p_eCmp (right_sz h.lo.b r1) (right_sz hx h2) (by decide),p_eCmp (right_sz hx h2) (right_sz h.hi.b r2) (by decide)⟩
 unfold hasR
 have k1:(cmpD a.lo.val x.val≤0)=(a.lo.val≤x.val):=cmpD_le0'
 have k2:(cmpD x.val a.hi.val≤0)=(x.val≤a.hi.val):=cmpD_le0'
 generalize cmpD a.lo.val x.val=c1 at *
 generalize cmpD x.val a.hi.val=c2 at *
 have k3:decide (c1≤0)=decide (a.lo.val≤x.val):=decide_eq_decide.2 (Iff.of_eq k1)
 have k4:decide (c2≤0)=decide (x.val≤a.hi.val):=decide_eq_decide.2 (Iff.of_eq k2)
 rw [← k3,← k4]
 clear k1 k2 k3 k4
 generalize rightI a=r at *
 generalize rightB x=s at *
 obtain ⟨⟨n1,e1,w1⟩,⟨n2,e2,w2⟩⟩:=a
 obtain ⟨n3,e3,w3⟩:=x
 cases r
 ·refine PB (rs:=[.tmp 4]) Tryz.func42 ?_
  exact Wk
 ·cases s
  ·refine PB (rs:=[.tmp 4]) Tryz.func42 ?_
   exact Wk
  ·obtain ⟨q1,q2⟩:=pC rfl rfl
   by_cases h1:c1≤0
   ·rw [decide_eq_true h1]
    refine PB (rs:=[.tmp 4]) Tryz.func42 ?_
    have ft:=(eq_true h1)
    exact Wk
   ·rw [decide_eq_false h1]
    refine PB (rs:=[.tmp 4]) Tryz.func42 ?_
    have ft:=(eq_false h1)
    exact Wk
theorem cmpD_0le {a b:Dyadic}:(0≤cmpD a b)=(b≤a):=by
 apply propext
 unfold cmpD
 by_cases h1:a<b
 ·rw [if_pos h1];constructor
  ·intro h;exact absurd h (by decide)
  ·intro h;grind
 ·rw [if_neg h1];constructor
  ·intro _;grind
  ·intro _;split<;>decide
theorem cmpD_1le {a b:Dyadic}:(1≤cmpD a b)=(b<a):=by
 apply propext
 unfold cmpD
 by_cases h1:a<b
 ·rw [if_pos h1];constructor
  ·intro h;exact absurd h (by decide)
  ·intro h;grind
 ·rw [if_neg h1]
  by_cases h2:b<a
  ·rw [if_pos h2];exact ⟨fun _=>h2,fun _=>by decide⟩
  ·rw [if_neg h2];exact ⟨fun h=>absurd h (by decide),fun h=>absurd h h2⟩
def endsR (a b:Iv) (n:Int):Bool:=rightI a && rightI b && decide (n≤cmpD a.lo.val b.lo.val) && decide (n≤cmpD b.hi.val a.hi.val)
theorem p_ends {k:Nat} {a b:Iv} {n:Int} (ha:Wi k a) (hb:Wi k b):PC Tryz.prog 89 [IV a,IV b,i64 n] fun d=>d=bl (endsR a b n):=by
 have pA:=p_iRight ha
 have pB:=p_iRight hb
 have pC:rightI a=true→rightI b=true→(PC Tryz.prog 88 [NU a.lo,NU b.lo] fun d=>d=i64 (cmpD a.lo.val b.lo.val))∧(PC Tryz.prog 88 [NU b.hi,NU a.hi] fun d=>d=i64 (cmpD b.hi.val a.hi.val)):=fun h1 h2=>by
  obtain ⟨r1,r2,_⟩:=rightI_lo h1
  obtain ⟨r3,r4,_⟩:=rightI_lo h2
  exact ⟨p_eCmp (right_sz ha.lo.b r1) (right_sz hb.lo.b r3) (by decide),p_eCmp (right_sz hb.hi.b r4) (right_sz ha.hi.b r2) (by decide)⟩
 unfold endsR
 generalize cmpD a.lo.val b.lo.val=c1 at *
 generalize cmpD b.hi.val a.hi.val=c2 at *
 generalize rightI a=r at *
 generalize rightI b=s at *
 obtain ⟨⟨n1,e1,w1⟩,⟨n2,e2,w2⟩⟩:=a
 obtain ⟨⟨n3,e3,w3⟩,⟨n4,e4,w4⟩⟩:=b
 cases r
 ·refine PB (rs:=[.tmp 6]) Tryz.func89 ?_
  exact Wk
 ·cases s
  ·refine PB (rs:=[.tmp 6]) Tryz.func89 ?_
   exact Wk
  ·obtain ⟨q1,q2⟩:=pC rfl rfl
   by_cases h1:n≤c1
   ·rw [decide_eq_true h1]
    refine PB (rs:=[.tmp 6]) Tryz.func89 ?_
    have ft:=(eq_true h1)
    exact Wk
   ·rw [decide_eq_false h1]
    refine PB (rs:=[.tmp 6]) Tryz.func89 ?_
    have ft:=(eq_false h1)
    exact Wk
theorem p_InI {k:Nat} {a b:Iv} (ha:Wi k a) (hb:Wi k b):PC Tryz.prog 43 [IV a,IV b] fun d=>d=bl (endsR a b 0):=by
 have pE:=p_ends (n:=0) ha hb
 generalize endsR a b 0=r at *
 obtain ⟨⟨n1,e1,w1⟩,⟨n2,e2,w2⟩⟩:=a
 obtain ⟨⟨n3,e3,w3⟩,⟨n4,e4,w4⟩⟩:=b
 refine PB (rs:=[.tmp 4]) Tryz.func43 ?_
 exact Wk
def minN (x y:Nu):Nu:=if y.val<x.val then y else x
def maxN (x y:Nu):Nu:=if x.val<y.val then y else x
theorem minN_val (x y:Nu):(minN x y).val=loD x.val y.val:=by unfold minN loD;split<;>rfl
theorem maxN_val (x y:Nu):(maxN x y).val=hiD x.val y.val:=by unfold maxN hiD;split<;>rfl
theorem minN_sz {k:Nat} {x y:Nu} (hx:Sz k x) (hy:Sz k y):Sz k (minN x y):=by unfold minN;split<;>assumption
theorem maxN_sz {k:Nat} {x y:Nu} (hx:Sz k x) (hy:Sz k y):Sz k (maxN x y):=by unfold maxN;split<;>assumption
theorem cmpD_lt0 {a b:Dyadic}:(cmpD a b<0)=(a<b):=by
 have:=cmpD_0le (a:=a) (b:=b)
 apply propext
 rw [← Int.not_le,this]
 constructor
 ·intro h;grind
 ·intro h;grind
theorem cmpD_0lt {a b:Dyadic}:(0<cmpD a b)=(b<a):=by rw [← cmpD_1le];rfl
theorem p_least {k:Nat} {x y:Nu} (hx:Sz k x) (hy:Sz k y) (hk:k≤67108864):PC Tryz.prog 169 [NU x,NU y] fun d=>d=NU (minN x y):=by
 have pC:=p_eCmp hy hx hk
 have k1:(cmpD y.val x.val<0)=(y.val<x.val):=cmpD_lt0
 unfold minN
 by_cases h:y.val<x.val
 ·rw [if_pos h]
  rw [eq_true h] at k1
  generalize cmpD y.val x.val=c at *
  obtain ⟨n1,e1,w1⟩:=x
  obtain ⟨n2,e2,w2⟩:=y
  refine PB (rs:=[.cell 4 41]) Tryz.func169 ?_
  have ft:=k1
  exact Wk
 ·rw [if_neg h]
  rw [eq_false h] at k1
  generalize cmpD y.val x.val=c at *
  obtain ⟨n1,e1,w1⟩:=x
  obtain ⟨n2,e2,w2⟩:=y
  refine PB (rs:=[.cell 4 41]) Tryz.func169 ?_
  have ft:=k1
  exact Wk
theorem p_greatest {k:Nat} {x y:Nu} (hx:Sz k x) (hy:Sz k y) (hk:k≤67108864):PC Tryz.prog 170 [NU x,NU y] fun d=>d=NU (maxN x y):=by
 have pC:=p_eCmp hy hx hk
 have k1:(0<cmpD y.val x.val)=(x.val<y.val):=cmpD_0lt
 unfold maxN
 by_cases h:x.val<y.val
 ·rw [if_pos h]
  rw [eq_true h] at k1
  generalize cmpD y.val x.val=c at *
  obtain ⟨n1,e1,w1⟩:=x
  obtain ⟨n2,e2,w2⟩:=y
  refine PB (rs:=[.cell 4 41]) Tryz.func170 ?_
  have ft:=k1
  exact Wk
 ·rw [if_neg h]
  rw [eq_false h] at k1
  generalize cmpD y.val x.val=c at *
  obtain ⟨n1,e1,w1⟩:=x
  obtain ⟨n2,e2,w2⟩:=y
  refine PB (rs:=[.cell 4 41]) Tryz.func170 ?_
  have ft:=k1
  exact Wk
end Go.V
namespace Go.V
open Go Go.RowKit Go.Proofs
def outR (p:Nat) (l h:Dyadic):Iv × Int:=if (numR (rd p false l)).2=0 then (if (numR (rd p true h)).2=0 then (⟨(numR (rd p false l)).1,(numR (rd p true h)).1⟩,0) else (iv0,2)) else (iv0,2)
theorem numR_err {d:Dyadic}:(numR d).2≠0→(numR d).2=2:=by
 unfold numR;split
 ·intro h;exact absurd rfl h
 ·intro _;rfl
theorem p_outward {k p:Nat} {x y:Nu} (hx:Sz k x) (hy:Sz k y) (hk:k≤16000000) (hp:p≤1024):PC Tryz.prog 126 [NU x,NU y,i64 p] fun d=>d=IE (outR p x.val y.val):=by
 have pL:=p_roundV (p:=p) (up:=false) hx hk hp
 have pH:=p_roundV (p:=p) (up:=true) hy hk hp
 unfold outR
 have e1:=numR_err (d:=rd p false x.val)
 have e2:=numR_err (d:=rd p true y.val)
 generalize numR (rd p false x.val)=q at *
 generalize numR (rd p true y.val)=r at *
 obtain ⟨⟨n1,x1,w1⟩,r1⟩:=q
 obtain ⟨⟨n2,x2,w2⟩,r2⟩:=r
 simp only at e1 e2
 obtain ⟨n3,x3,w3⟩:=x
 obtain ⟨n4,x4,w4⟩:=y
 by_cases h1:r1=0
 ·rw [if_pos h1]
  by_cases h2:r2=0
  ·rw [if_pos h2]
   refine PB (rs:=[.cell 6 51,.tmp 7]) Tryz.func126 ?_
   have ft:=And.intro (eq_true h1) (eq_true h2)
   exact Wk
  ·rw [if_neg h2]
   have h3:=e2 h2
   refine PB (rs:=[.cell 6 51,.tmp 7]) Tryz.func126 ?_
   have ft:=And.intro (eq_true h1) (eq_false h2)
   repeat (first|(with_reducible first|refine pv_seq fun K hK=>?_|((first|refine hK _ _ ?_|(clear hK;refine hK _ _ ?_)|(clear hK;clear hK;refine hK _ _ ?_));clear hK;try clear K))| refine W ?_|exact Z|with_reducible intro b)
   rw [h3];rfl
 ·rw [if_neg h1]
  have h3:=e1 h1
  refine PB (rs:=[.cell 6 51,.tmp 7]) Tryz.func126 ?_
  have ft:=(eq_false h1)
  repeat (first|(with_reducible first|refine pv_seq fun K hK=>?_|((first|refine hK _ _ ?_|(clear hK;refine hK _ _ ?_)|(clear hK;clear hK;refine hK _ _ ?_));clear hK;try clear K))| refine W ?_|exact Z|with_reducible intro b)
  rw [h3];rfl
end Go.V
namespace Go.V
open Go Go.RowKit Go.Proofs
def qI4_171_1:List (Nat × Nat):=[(0,1),(1,1),(3,2),(4,2),(2,4),(5,3),(6,3),(7,3)]
def qI4_87_3:List (Nat × Nat):=[(0,0),(1,1),(2,0),(3,1),(5,0),(6,2),(7,0),(8,2),(10,0),(4,4),(9,3),(11,3),(12,0),(13,0),(14,3),(15,0)]
attribute [go_sem] qI4_171_1 qI4_87_3
theorem p_validI {k:Nat} {a b:Iv} {p:Int} (ha:Wi k a) (hb:Wi k b):PC Tryz.prog 125 [IV a,IV b,i64 p] fun d=>d=bl (rightI a && rightI b && okP p):=by
 have pA:=p_iRight ha
 have pB:=p_iRight hb
 have pP:=p_Valid (p:=p)
 generalize rightI a=r at *
 generalize rightI b=s at *
 generalize okP p=t at *
 obtain ⟨⟨n1,e1,w1⟩,⟨n2,e2,w2⟩⟩:=a
 obtain ⟨⟨n3,e3,w3⟩,⟨n4,e4,w4⟩⟩:=b
 cases r
 ·refine PB (rs:=[.tmp 6]) Tryz.func125 ?_
  exact Wk
 ·cases s
  ·refine PB (rs:=[.tmp 6]) Tryz.func125 ?_
   exact Wk
  ·refine PB (rs:=[.tmp 6]) Tryz.func125 ?_
   exact Wk
def opI (a b:Iv) (p:Int) (l h:Dyadic):Iv × Int:=if rightI a && rightI b && okP p then outR p.toNat l h else (iv0,1)
theorem p_iAdd {k:Nat} {a b:Iv} {p:Int} (ha:Wi k a) (hb:Wi k b):PC Tryz.prog 87 [IV a,IV b,i64 p] fun d=>d=IE (opI a b p (a.lo.val + b.lo.val) (a.hi.val + b.hi.val)):=by
 have pV:=p_validI (p:=p) ha hb
 unfold opI
 by_cases h:(rightI a && rightI b && okP p)=true
 ·rw [if_pos h]
  rw [h] at pV
  rw [Bool.and_eq_true,Bool.and_eq_true] at h
  obtain ⟨m,rfl,h8,h256⟩:=okP_nat h.2
  obtain ⟨x,y,ox,oy,hxy,rfl⟩:=rightI_is ha h.1.1
  obtain ⟨u,v,ou,ov,huv,rfl⟩:=rightI_is hb h.1.2
  have pL:=p_eAdd ox.sz ou.sz (by decide)
  have pH:=p_eAdd oy.sz ov.sz (by decide)
  have pO:=fun (z1 z2:Nu) (h1:Sz (4 * 65536 + 1) z1) (h2:Sz (4 * 65536 + 1) z2) (v1:z1.val=x + u) (v2:z2.val=y + v)=>show PC Tryz.prog 126 [NU z1,NU z2,i64 (m:Nat)] fun d=>d=IE (outR m (x + u) (y + v)) from v1 ▸ v2 ▸ p_outward h1 h2 (by decide) (by omega)
  simp only [ivD,val_nuOf,Int.toNat_natCast] at *
  generalize outR m (x + u) (y + v)=q at *
  obtain ⟨⟨⟨n5,e5,w5⟩,⟨n6,e6,w6⟩⟩,r⟩:=q
  generalize nuOf x=X at *
  generalize nuOf y=Y at *
  generalize nuOf u=U at *
  generalize nuOf v=V at *
  obtain ⟨n1,e1,w1⟩:=X
  obtain ⟨n2,e2,w2⟩:=Y
  obtain ⟨n3,e3,w3⟩:=U
  obtain ⟨n4,e4,w4⟩:=V
  have d1:=@dl 3 qI4_87_3
  refine PB (rs:=[.cell 6 51,.tmp 7]) Tryz.func87 ?_
  repeat (first|(with_reducible first|refine pv_seq fun K hK=>?_|((first|refine hK _ _ ?_|(clear hK;refine hK _ _ ?_)|(clear hK;clear hK;refine hK _ _ ?_));clear hK;try clear K))| refine W ?_|exact Z|with_reducible intro b)
  refine ExtC_is ?_
  try simp -implicitDefEqProofs only [ft,go_sem,seval]
  refine pL.mono ?_
  rintro d ⟨⟨s1,f1,z1⟩,rfl,hs1,hv1⟩
  repeat (first|(with_reducible first|refine pv_seq fun K hK=>?_|((first|refine hK _ _ ?_|(clear hK;refine hK _ _ ?_)|(clear hK;clear hK;refine hK _ _ ?_));clear hK;try clear K))| refine W0 ?_|exact Z|with_reducible intro b)
  refine call_pc pH ?_
  rintro d ⟨⟨s2,f2,z2⟩,rfl,hs2,hv2⟩
  have pO:=pO _ _ hs1 hs2 hv1 hv2
  exact Wk
 ·rw [if_neg h]
  rw [Bool.not_eq_true] at h
  rw [h] at pV
  obtain ⟨⟨n1,e1,w1⟩,⟨n2,e2,w2⟩⟩:=a
  obtain ⟨⟨n3,e3,w3⟩,⟨n4,e4,w4⟩⟩:=b
  have d1:=@dl 3 qI4_87_3
  refine PB (rs:=[.cell 6 51,.tmp 7]) Tryz.func87 ?_
  exact Wk
theorem p_Mul1 {k:Nat} {S:Store} {Q:D→Store→Prop} {k1 k2:Nm} {b1 b2:Nat} {l h x:Nu} (h1:S k1=some ⟨b1,3,0,[[bl l.neg,i64 l.exp,W64 l.w]]⟩) (h2:S k2=some ⟨b2,3,0,[[bl h.neg,i64 h.exp,W64 h.w]]⟩) (hne:(k1=k2)=False)
 (sl:Sz k l) (sh:Sz k h) (sx:Sz k x) (hk:k≤67108864) (hQ:Q (.tup []) (updS (updS S k1 (some ⟨b1,3,0,[[bl (minN l x).neg,i64 (minN l x).exp,W64 (minN l x).w]]⟩)) k2 (some ⟨b2,3,0,[[bl (maxN h x).neg,i64 (maxN h x).exp,W64 (maxN h x).w]]⟩))) :
 PFC Tryz.prog 171 [NU x,.ptr k1 b1 0 0 3,.ptr k2 b2 0 0 3] S Q:=by
 have pL:=p_least sl sx hk
 have pG:=p_greatest sh sx hk
 have hne2:(k2=k1)=False:=eq_false fun h=>by rw [h] at hne;simp at hne
 generalize minN l x=a at *
 generalize maxN h x=b at *
 obtain ⟨n1,e1,w1⟩:=l
 obtain ⟨n2,e2,w2⟩:=h
 obtain ⟨n3,e3,w3⟩:=x
 obtain ⟨n4,e4,w4⟩:=a
 obtain ⟨n5,e5,w5⟩:=b
 simp only at h1 h2
 have d1:=@dl 1 qI4_171_1
 refine PFB (rs:=[]) Tryz.func171 ?_
 repeat (first|(with_reducible first|refine pv_seq fun K hK=>?_|refine pv_reg ?_|refine pv_draw (id:=1) qI4_171_1 (by kernel_rfl) ?_)|((with_reducible first|refine hK _ _ ?_|(clear hK;refine hK _ _ ?_)|(clear hK;clear hK;refine hK _ _ ?_));clear hK;try clear K)|simp -implicitDefEqProofs only [h1,h2,hne,hne2,Nm.up.injEq,true_and,go_sem,seval]|with_reducible intro b|(with_reducible refine And.intro ?_ ?_;· first|assumption|omega|(unfold R64;omega))|refine call_is (by first|exact pL|exact pG) ?_|(refine ExtC_is ?_;simp -implicitDefEqProofs only [h1,h2,hne,hne2,Nm.up.injEq,true_and,go_sem,seval];refine ext_is (by first|exact pL|exact pG) ?_)|(refine PFC.coe ?_;simp -implicitDefEqProofs only [h1,h2,hne,hne2,Nm.up.injEq,true_and,go_sem,seval];refine call_is (by first|exact pL|exact pG) ?_))
 exact hQ
end Go.V
namespace Go.V
open Go Go.RowKit Go.Proofs
theorem p_rCmpR {x y:Nu} (hx:B64 x.w) (hy:B64 y.w) (rx:rightB x=true) (ry:rightB y=true):PC Tryz.prog 166 [NU x,NU y] fun d=>d=i64 (cmpD x.val y.val):=by
 have:=p_rCmpNum hx hy
 rw [rx,ry] at this
 exact this
theorem p_rCmpD {a b:Dyadic} (ha:OkD a) (hb:OkD b):PC Tryz.prog 166 [NU (nuOf a),NU (nuOf b)] fun d=>d=i64 (cmpD a b):=by
 have:=p_rCmpR (ha.sz).b (hb.sz).b (by rw [rightB_nuOf,decide_eq_true ha]) (by rw [rightB_nuOf,decide_eq_true hb])
 rw [val_nuOf,val_nuOf] at this
 exact this
theorem p_rRightIv {k:Nat} {a:Iv} (h:Wi k a):PC Tryz.prog 155 [IV a] fun d=>d=bl (rightI a):=by
 have pX:=p_rRight h.lo.b
 have pY:=p_rRight h.hi.b
 have pC:=p_rCmpR h.lo.b h.hi.b
 unfold rightI
 have k1:(cmpD a.lo.val a.hi.val≤0)=(a.lo.val≤a.hi.val):=cmpD_le0'
 have k3:decide (cmpD a.lo.val a.hi.val≤0)=decide (a.lo.val≤a.hi.val):=decide_eq_decide.2 (Iff.of_eq k1)
 rw [← k3]
 clear k1 k3
 generalize cmpD a.lo.val a.hi.val=c at *
 generalize rightB a.lo=r at *
 generalize rightB a.hi=s at *
 obtain ⟨⟨n1,e1,w1⟩,⟨n2,e2,w2⟩⟩:=a
 cases r
 ·refine PB (rs:=[.tmp 2]) Tryz.func155 ?_
  exact Wk
 ·cases s
  ·refine PB (rs:=[.tmp 2]) Tryz.func155 ?_
   exact Wk
  ·have pC:=pC rfl rfl
   refine PB (rs:=[.tmp 2]) Tryz.func155 ?_
   exact Wk
theorem p_rPoint {x:Nu}:PC Tryz.prog 112 [NU x] fun d=>d=IV ⟨x,x⟩:=by
 obtain ⟨n1,e1,w1⟩:=x
 refine PB (rs:=[.cell 2 51]) Tryz.func112 ?_
 exact Wk
theorem p_rSameIv {a b:Iv} (h1:a.lo.w.length≤1099511627776) (h2:a.hi.w.length≤1099511627776):PC Tryz.prog 71 [IV a,IV b] fun d=>d=bl (decide (a.lo=b.lo) && decide (a.hi=b.hi)):=by
 have pX:=p_rSame (x:=a.lo) (y:=b.lo) h1
 have pY:=p_rSame (x:=a.hi) (y:=b.hi) h2
 generalize decide (a.lo=b.lo)=r at *
 generalize decide (a.hi=b.hi)=s at *
 obtain ⟨⟨n1,e1,w1⟩,⟨n2,e2,w2⟩⟩:=a
 obtain ⟨⟨n3,e3,w3⟩,⟨n4,e4,w4⟩⟩:=b
 cases r
 ·refine PB (rs:=[.tmp 4]) Tryz.func71 ?_
  exact Wk
 ·cases s
  ·refine PB (rs:=[.tmp 4]) Tryz.func71 ?_
   exact Wk
  ·refine PB (rs:=[.tmp 4]) Tryz.func71 ?_
   exact Wk
theorem same_iv {a:Iv} (h1:a.lo.w.length≤1099511627776) (h2:a.hi.w.length≤1099511627776):PC Tryz.prog 71 [IV a,IV a] fun d=>d=bl true :=
 (p_rSameIv (a:=a) (b:=a) h1 h2).mono fun d hd=>hd.trans (by rw [decide_eq_true rfl,decide_eq_true rfl];rfl)
theorem p_rHas {k:Nat} {a:Iv} {x:Nu} (h:Wi k a) (hx:B64 x.w):PC Tryz.prog 158 [IV a,NU x] fun d=>d=bl (hasR a x):=by
 have pR:=p_rRightIv h
 have pX:=p_rRight hx
 have pC:rightI a=true→rightB x=true→(PC Tryz.prog 166 [NU a.lo,NU x] fun d=>d=i64 (cmpD a.lo.val x.val))∧(PC Tryz.prog 166 [NU x,NU a.hi] fun d=>d=i64 (cmpD x.val a.hi.val)):=fun h1 h2=>by
  obtain ⟨r1,r2,_⟩:=rightI_lo h1
  exact ⟨p_rCmpR h.lo.b hx r1 h2,p_rCmpR hx h.hi.b h2 r2⟩
 unfold hasR
 have k3:decide (cmpD a.lo.val x.val≤0)=decide (a.lo.val≤x.val):=decide_eq_decide.2 (Iff.of_eq cmpD_le0')
 have k4:decide (cmpD x.val a.hi.val≤0)=decide (x.val≤a.hi.val):=decide_eq_decide.2 (Iff.of_eq cmpD_le0')
 rw [← k3,← k4]
 clear k3 k4
 generalize cmpD a.lo.val x.val=c1 at *
 generalize cmpD x.val a.hi.val=c2 at *
 generalize rightI a=r at *
 generalize rightB x=s at *
 obtain ⟨⟨n1,e1,w1⟩,⟨n2,e2,w2⟩⟩:=a
 obtain ⟨n3,e3,w3⟩:=x
 cases r
 ·refine PB (rs:=[.tmp 4]) Tryz.func158 ?_
  exact Wk
 ·cases s
  ·refine PB (rs:=[.tmp 4]) Tryz.func158 ?_
   exact Wk
  ·obtain ⟨q1,q2⟩:=pC rfl rfl
   by_cases h1:c1≤0
   ·rw [decide_eq_true h1]
    refine PB (rs:=[.tmp 4]) Tryz.func158 ?_
    have ft:=(eq_true h1)
    exact Wk
   ·rw [decide_eq_false h1]
    refine PB (rs:=[.tmp 4]) Tryz.func158 ?_
    have ft:=(eq_false h1)
    exact Wk
end Go.V
namespace Go.V
open Go Go.RowKit Go.Proofs
def qI6_163_9:PT:=(.lin [(0,2),(1,2),(3,2),(4,2)] (.mix [2,5] [6,7] (.lin [(8,3),(9,3)] .nil)))
def qI6_164_1:List (Nat × Nat):=[(0,1),(2,2),(4,2),(5,2),(1,4),(3,4),(6,3),(7,3),(8,3)]
attribute [go_sem] qI6_163_9 qI6_164_1
theorem p_precs {p:Int}:PC Tryz.prog 156 [i64 p] fun d=>d=bl (okP p):=by
 refine PB (rs:=[.tmp 2]) Tryz.func156 ?_
 by_cases h1:(8:Int)≤p
 ·by_cases h2:p≤(256:Int)
  ·rw [okP,decide_eq_true h1,decide_eq_true h2]
   have ft:=And.intro (eq_true h1) (eq_true h2)
   exact Wk
  ·rw [okP,decide_eq_true h1,decide_eq_false h2]
   have ft:=And.intro (eq_true h1) (eq_false h2)
   exact Wk
 ·rw [okP,decide_eq_false h1]
  have ft:=(eq_false h1)
  exact Wk
def endI (l h:Dyadic):Iv × Int:=if (numR l).2=0 then (if (numR h).2=0 then (⟨(numR l).1,(numR h).1⟩,0) else (iv0,2)) else (iv0,2)
theorem outR_end (p:Nat) (l h:Dyadic):outR p l h=endI (rd p false l) (rd p true h):=rfl
theorem p_rEnds {k:Nat} {l h:Dyadic} (hl:Bd k l) (hh:Bd k h) (hk:k≤1073741824):PC Tryz.prog 159 [VA l,VA h] fun d=>d=IE (endI l h):=by
 have pL:=p_rNum hl hk
 have pH:=p_rNum hh hk
 unfold endI
 generalize numR l=q at *
 generalize numR h=r at *
 obtain ⟨⟨n1,x1,w1⟩,r1⟩:=q
 obtain ⟨⟨n2,x2,w2⟩,r2⟩:=r
 unfold VA at *
 by_cases h1:r1=0
 ·rw [if_pos h1]
  by_cases h2:r2=0
  ·rw [if_pos h2]
   refine PB (rs:=[.cell 4 51,.tmp 5]) Tryz.func159 ?_
   have ft:=And.intro (eq_true h1) (eq_true h2)
   exact Wk
  ·rw [if_neg h2]
   refine PB (rs:=[.cell 4 51,.tmp 5]) Tryz.func159 ?_
   have ft:=And.intro (eq_true h1) (eq_false h2)
   exact Wk
 ·rw [if_neg h1]
  refine PB (rs:=[.cell 4 51,.tmp 5]) Tryz.func159 ?_
  have ft:=(eq_false h1)
  exact Wk
theorem sgnD_0le {a:Dyadic}:(0≤sgnD a)=(0≤a):=by
 apply propext
 unfold sgnD
 by_cases h1:a<0
 ·rw [if_pos h1];constructor
  ·intro h;exact absurd h (by decide)
  ·intro h;grind
 ·rw [if_neg h1];constructor
  ·intro _;grind
  ·intro _;split<;>decide
theorem sgnD_le0 {a:Dyadic}:(sgnD a≤0)=(a≤0):=by
 apply propext
 unfold sgnD
 by_cases h1:a<0
 ·rw [if_pos h1];exact ⟨fun _=>by grind,fun _=>by decide⟩
 ·rw [if_neg h1]
  by_cases h2:0<a
  ·rw [if_pos h2];constructor
   ·intro h;exact absurd h (by decide)
   ·intro h;grind
  ·rw [if_neg h2];exact ⟨fun _=>by grind,fun _=>by decide⟩
theorem sgnD_lt0 {a:Dyadic}:(sgnD a<0)=(a<0):=by
 have:=sgnD_0le (a:=a)
 apply propext
 rw [← Int.not_le,this]
 constructor
 ·intro h;grind
 ·intro h;grind
theorem sgnD_0lt {a:Dyadic}:(0<sgnD a)=(0<a):=by
 have:=sgnD_le0 (a:=a)
 apply propext
 rw [← Int.not_le,this]
 constructor
 ·intro h;grind
 ·intro h;grind
theorem p_rLeast {k:Nat} {x y u v:Dyadic} (hx:Bd k x) (hy:Bd k y) (hu:Bd k u) (hv:Bd k v) (hk:k≤33000000):PC Tryz.prog 163 [VA x,VA y,VA u,VA v] fun d=>d=VA (leastR x y u v):=by
 have sx:=p_rSign (d:=x)
 have sy:=p_rSign (d:=y)
 have su:=p_rSign (d:=u)
 have sv:=p_rSign (d:=v)
 have kx:(0≤sgnD x)=(0≤x):=sgnD_0le
 have ku:(0≤sgnD u)=(0≤u):=sgnD_0le
 have ky:(sgnD y≤0)=(y≤0):=sgnD_le0
 have kv:(sgnD v≤0)=(v≤0):=sgnD_le0
 have p1:=p_rBy hx hu (by omega)
 have p2:=p_rBy hy hu (by omega)
 have p3:=p_rBy hx hv (by omega)
 have p4:=p_rBy hy hv (by omega)
 have pO:=p_rOrder (hy.mul hu) (hx.mul hv) (by omega)
 have ko:(cmpD (y * u) (x * v)<0)=(y * u<x * v):=cmpD_lt0
 unfold leastR
 generalize cmpD (y * u) (x * v)=c at *
 generalize sgnD x=gx at *
 generalize sgnD y=gy at *
 generalize sgnD u=gu at *
 generalize sgnD v=gv at *
 by_cases a1:0≤x
 ·rw [eq_true a1] at kx
  by_cases a2:0≤u
  ·rw [if_pos ⟨a1,a2⟩]
   rw [eq_true a2] at ku
   unfold VA at *
   have d1:=@dr 9 qI6_163_9
   refine PB (rs:=[.cell 8 90]) Tryz.func163 ?_
   have ft:=And.intro kx ku
   exact Wk
  ·rw [if_neg (fun h=>a2 h.2),if_pos a1]
   rw [eq_false a2] at ku
   unfold VA at *
   have d1:=@dr 9 qI6_163_9
   refine PB (rs:=[.cell 8 90]) Tryz.func163 ?_
   have ft:=And.intro kx ku
   exact Wk
 ·rw [if_neg (fun h=>a1 h.1),if_neg a1]
  rw [eq_false a1] at kx
  by_cases a2:0≤u
  ·rw [if_pos a2]
   rw [eq_true a2] at ku
   unfold VA at *
   have d1:=@dr 9 qI6_163_9
   refine PB (rs:=[.cell 8 90]) Tryz.func163 ?_
   have ft:=And.intro kx ku
   exact Wk
  ·rw [if_neg a2]
   rw [eq_false a2] at ku
   by_cases a3:y≤0∧v≤0
   ·rw [if_pos a3]
    rw [eq_true a3.1] at ky
    rw [eq_true a3.2] at kv
    unfold VA at *
    have d1:=@dr 9 qI6_163_9
    refine PB (rs:=[.cell 8 90]) Tryz.func163 ?_
    have ft:=And.intro kx (And.intro ku (And.intro ky kv))
    exact Wk
   ·rw [if_neg a3]
    by_cases a5:y * u<x * v
    ·rw [if_pos a5]
     rw [eq_true a5] at ko
     by_cases a4:y≤0
     ·rw [eq_true a4] at ky
      rw [eq_false (fun h=>a3 ⟨a4,h⟩)] at kv
      unfold VA at *
      have d1:=@dr 9 qI6_163_9
      refine PB (rs:=[.cell 8 90]) Tryz.func163 ?_
      have ft:=And.intro kx (And.intro ku (And.intro ky (And.intro kv ko)))
      exact Wk
     ·rw [eq_false a4] at ky
      unfold VA at *
      have d1:=@dr 9 qI6_163_9
      refine PB (rs:=[.cell 8 90]) Tryz.func163 ?_
      have ft:=And.intro kx (And.intro ku (And.intro ky ko))
      exact Wk
    ·rw [if_neg a5]
     rw [eq_false a5] at ko
     by_cases a4:y≤0
     ·rw [eq_true a4] at ky
      rw [eq_false (fun h=>a3 ⟨a4,h⟩)] at kv
      unfold VA at *
      have d1:=@dr 9 qI6_163_9
      refine PB (rs:=[.cell 8 90]) Tryz.func163 ?_
      have ft:=And.intro kx (And.intro ku (And.intro ky (And.intro kv ko)))
      exact Wk
     ·rw [eq_false a4] at ky
      unfold VA at *
      have d1:=@dr 9 qI6_163_9
      refine PB (rs:=[.cell 8 90]) Tryz.func163 ?_
      have ft:=And.intro kx (And.intro ku (And.intro ky ko))
      exact Wk
theorem leastR_bd {k:Nat} {x y u v:Dyadic} (hx:Bd k x) (hy:Bd k y) (hu:Bd k u) (hv:Bd k v):Bd (k + k) (leastR x y u v):=by
 unfold leastR
 repeat' split
 all_goals first|exact hx.mul hu|exact hy.mul hu|exact hx.mul hv|exact hy.mul hv
theorem p_rGreatest {k:Nat} {x y u v:Dyadic} (hx:Bd k x) (hy:Bd k y) (hu:Bd k u) (hv:Bd k v) (hk:k≤33000000):PC Tryz.prog 164 [VA x,VA y,VA u,VA v] fun d=>d=VA (- leastR (-y) (-x) u v):=by
 have tx:=p_rTurned (d:=x)
 have ty:=p_rTurned (d:=y)
 have pL:=p_rLeast hy.neg hx.neg hu hv hk
 have tl:=p_rTurned (d:=leastR (-y) (-x) u v)
 unfold VA at *
 have d1:=@dl 1 qI6_164_1
 refine PB (rs:=[.cell 8 90]) Tryz.func164 ?_
 exact Wk
end Go.V
namespace Go.V
open Go Go.RowKit Go.Proofs
def eI (a:Iv):List G:=[.lit (.bool a.lo.neg),.lit (.int .i64 a.lo.exp),eS (eK .u64) a.lo.w,.lit (.bool a.hi.neg),.lit (.int .i64 a.hi.exp),eS (eK .u64) a.hi.w]
def II (xs:List Iv):D:=.g (eS eI xs)
theorem eI_0 {a:Iv}:(eI a)=[.lit (.bool a.lo.neg),.lit (.int .i64 a.lo.exp),eS (eK .u64) a.lo.w,.lit (.bool a.hi.neg),.lit (.int .i64 a.hi.exp),eS (eK .u64) a.hi.w]:=rfl
def lightI (a:Iv):Prop:=a.lo.w.length≤70∧a.hi.w.length≤70
instance (a:Iv):Decidable (lightI a):=inferInstanceAs (Decidable (_∧_))
end Go.V
namespace Go.V
open Go Go.RowKit Go.Proofs
theorem l_ne {i j:Nat} (h:i≠j):(Nm.l i=Nm.l j)=False:=eq_false (by intro h2;injection h2 with h2;exact h h2)
set_option maxHeartbeats 1000000 in
theorem p_iMul {k:Nat} {a b:Iv} {p:Int} (ha:Wi k a) (hb:Wi k b):PC Tryz.prog 124 [IV a,IV b,i64 p] fun d=>d=IE (opI a b p (minP a.lo.val a.hi.val b.lo.val b.hi.val) (maxP a.lo.val a.hi.val b.lo.val b.hi.val)):=by
 have pV:=p_validI (p:=p) ha hb
 unfold opI
 by_cases h:(rightI a && rightI b && okP p)=true
 ·rw [if_pos h]
  rw [h] at pV
  rw [Bool.and_eq_true,Bool.and_eq_true] at h
  obtain ⟨m,rfl,h8,h256⟩:=okP_nat h.2
  obtain ⟨x,y,ox,oy,hxy,rfl⟩:=rightI_is ha h.1.1
  obtain ⟨u,v,ou,ov,huv,rfl⟩:=rightI_is hb h.1.2
  have m0:=p_eMul ox.sz ou.sz (by decide)
  have m1:=p_eMul ox.sz ov.sz (by decide)
  have m2:=p_eMul oy.sz ou.sz (by decide)
  have m3:=p_eMul oy.sz ov.sz (by decide)
  have pO:=fun (z1 z2:Nu) (h1:Sz (2 * 65536) z1) (h2:Sz (2 * 65536) z2) (v1:z1.val=minP x y u v) (v2:z2.val=maxP x y u v)=>show PC Tryz.prog 126 [NU z1,NU z2,i64 (m:Nat)] fun d=>d=IE (outR m (minP x y u v) (maxP x y u v)) from v1 ▸ v2 ▸ p_outward h1 h2 (by decide) (by omega)
  simp only [ivD,val_nuOf,Int.toNat_natCast] at *
  unfold minP maxP at *
  generalize x * u=d0 at *
  generalize x * v=d1 at *
  generalize y * u=d2 at *
  generalize y * v=d3 at *
  generalize outR m _ _=q at *
  obtain ⟨⟨⟨n5,e5,w5⟩,⟨n6,e6,w6⟩⟩,r⟩:=q
  generalize nuOf x=X at *
  generalize nuOf y=Y at *
  generalize nuOf u=U at *
  generalize nuOf v=V at *
  obtain ⟨n1,e1,w1⟩:=X
  obtain ⟨n2,e2,w2⟩:=Y
  obtain ⟨n3,e3,w3⟩:=U
  obtain ⟨n4,e4,w4⟩:=V
  refine PB (rs:=[.cell 6 51,.tmp 7]) Tryz.func124 ?_
  repeat (first|(with_reducible first|refine pv_seq fun K hK=>?_|((first|refine hK _ _ ?_|(clear hK;refine hK _ _ ?_)|(clear hK;clear hK;refine hK _ _ ?_));clear hK;try clear K))| refine W ?_|exact Z|with_reducible intro b)
  refine call_pc m0 ?_
  rintro d ⟨⟨s0,f0,z0⟩,rfl,t0,v0⟩
  repeat (first|(with_reducible first|refine pv_seq fun K hK=>?_|((first|refine hK _ _ ?_|(clear hK;refine hK _ _ ?_)|(clear hK;clear hK;refine hK _ _ ?_));clear hK;try clear K))| refine W0 ?_|exact Z|with_reducible intro b)
  refine call_pc m1 ?_
  rintro d ⟨⟨s1,f1,z1⟩,rfl,t1,v1⟩
  repeat (first|(with_reducible first|refine pv_seq fun K hK=>?_|((first|refine hK _ _ ?_|(clear hK;refine hK _ _ ?_)|(clear hK;clear hK;refine hK _ _ ?_));clear hK;try clear K))| refine W0 ?_|exact Z|with_reducible intro b)
  refine p_Mul1 (l:=⟨s0,f0,z0⟩) (h:=⟨s0,f0,z0⟩) (x:=⟨s1,f1,z1⟩) (by simp -implicitDefEqProofs only [ft,go_sem,seval]<;>rfl) (by simp -implicitDefEqProofs only [ft,go_sem,seval]<;>rfl) (l_ne (by decide)) t0 t0 t1 (by decide) ?_
  have a1:=minN_sz t0 t1;have a2:=minN_val ⟨s0,f0,z0⟩ ⟨s1,f1,z1⟩;rw [v0,v1] at a2
  have b1:=maxN_sz t0 t1;have b2:=maxN_val ⟨s0,f0,z0⟩ ⟨s1,f1,z1⟩;rw [v0,v1] at b2
  generalize minN ⟨s0,f0,z0⟩ ⟨s1,f1,z1⟩=L1 at *
  generalize maxN ⟨s0,f0,z0⟩ ⟨s1,f1,z1⟩=H1 at *
  obtain ⟨p1,p2,p3⟩:=L1
  obtain ⟨p4,p5,p6⟩:=H1
  repeat (first|(with_reducible first|refine pv_seq fun K hK=>?_|((first|refine hK _ _ ?_|(clear hK;refine hK _ _ ?_)|(clear hK;clear hK;refine hK _ _ ?_));clear hK;try clear K))| refine W0 ?_|exact Z|with_reducible intro b)
  refine call_pc m2 ?_
  rintro d ⟨⟨s2,f2,z2⟩,rfl,t2,v2⟩
  repeat (first|(with_reducible first|refine pv_seq fun K hK=>?_|((first|refine hK _ _ ?_|(clear hK;refine hK _ _ ?_)|(clear hK;clear hK;refine hK _ _ ?_));clear hK;try clear K))| refine W0 ?_|exact Z|with_reducible intro b)
  refine p_Mul1 (l:=⟨p1,p2,p3⟩) (h:=⟨p4,p5,p6⟩) (x:=⟨s2,f2,z2⟩) (by simp -implicitDefEqProofs only [ft,go_sem,seval]<;>rfl) (by simp -implicitDefEqProofs only [ft,go_sem,seval]<;>rfl) (l_ne (by decide)) a1 b1 t2 (by decide) ?_
  have c1:=minN_sz a1 t2;have c2:=minN_val ⟨p1,p2,p3⟩ ⟨s2,f2,z2⟩;rw [a2,v2] at c2
  have g1:=maxN_sz b1 t2;have g2:=maxN_val ⟨p4,p5,p6⟩ ⟨s2,f2,z2⟩;rw [b2,v2] at g2
  generalize minN ⟨p1,p2,p3⟩ ⟨s2,f2,z2⟩=L2 at *
  generalize maxN ⟨p4,p5,p6⟩ ⟨s2,f2,z2⟩=H2 at *
  obtain ⟨q1,q2,q3⟩:=L2
  obtain ⟨q4,q5,q6⟩:=H2
  repeat (first|(with_reducible first|refine pv_seq fun K hK=>?_|((first|refine hK _ _ ?_|(clear hK;refine hK _ _ ?_)|(clear hK;clear hK;refine hK _ _ ?_));clear hK;try clear K))| refine W0 ?_|exact Z|with_reducible intro b)
  refine call_pc m3 ?_
  rintro d ⟨⟨s3,f3,z3⟩,rfl,t3,v3⟩
  repeat (first|(with_reducible first|refine pv_seq fun K hK=>?_|((first|refine hK _ _ ?_|(clear hK;refine hK _ _ ?_)|(clear hK;clear hK;refine hK _ _ ?_));clear hK;try clear K))| refine W0 ?_|exact Z|with_reducible intro b)
  refine p_Mul1 (l:=⟨q1,q2,q3⟩) (h:=⟨q4,q5,q6⟩) (x:=⟨s3,f3,z3⟩) (by simp -implicitDefEqProofs only [ft,go_sem,seval]<;>rfl) (by simp -implicitDefEqProofs only [ft,go_sem,seval]<;>rfl) (l_ne (by decide)) c1 g1 t3 (by decide) ?_
  have k1:=minN_sz c1 t3;have k2:=minN_val ⟨q1,q2,q3⟩ ⟨s3,f3,z3⟩;rw [c2,v3] at k2
  have j1:=maxN_sz g1 t3;have j2:=maxN_val ⟨q4,q5,q6⟩ ⟨s3,f3,z3⟩;rw [g2,v3] at j2
  generalize minN ⟨q1,q2,q3⟩ ⟨s3,f3,z3⟩=L3 at *
  generalize maxN ⟨q4,q5,q6⟩ ⟨s3,f3,z3⟩=H3 at *
  have pO:=pO _ _ k1 j1 k2 j2
  obtain ⟨r1,r2,r3⟩:=L3
  obtain ⟨r4,r5,r6⟩:=H3
  exact Wk
 ·rw [if_neg h]
  rw [Bool.not_eq_true] at h
  rw [h] at pV
  obtain ⟨⟨n1,e1,w1⟩,⟨n2,e2,w2⟩⟩:=a
  obtain ⟨⟨n3,e3,w3⟩,⟨n4,e4,w4⟩⟩:=b
  refine PB (rs:=[.cell 6 51,.tmp 7]) Tryz.func124 ?_
  exact Wk
end Go.V
namespace Go.V
open Go Go.RowKit Go.Proofs
theorem p_eSignD {a:Dyadic} (ha:OkD a):PC Tryz.prog 93 [NU (nuOf a)] fun d=>d=i64 (sgnD a):=by
 have:=p_eSign ha.sz (by decide)
 rw [val_nuOf] at this
 exact this
end Go.V
namespace Go.V
open Go Go.RowKit Go.Proofs
end Go.V
namespace Go.V
open Go Go.RowKit Go.Proofs
end Go.V
namespace Go.V
open Go Go.RowKit Go.Proofs
end Go.V
namespace Go.V
open Go Go.RowKit Go.Proofs
end Go.V
namespace Go.V
open Go Go.RowKit Go.Proofs
def qI14_114_5:PT:=(.lin [(0,0),(1,2),(3,0),(4,2),(6,0),(7,2),(9,0),(10,2)] (.mix [2,5,8,11] [12,13,14,15] (.lin [(16,3),(17,3),(18,3),(19,3)] .nil)))
def qI14_114_8:List (Nat × Nat):=[(0,1),(1,1),(3,0),(5,2),(6,2),(8,0),(2,4),(4,4),(7,3),(9,3),(10,3),(11,0),(12,0),(13,3),(14,0)]
def qI14_114_10:List (Nat × Nat):=[(0,1),(1,1),(3,0),(5,2),(6,2),(8,0),(2,4),(4,4),(7,3),(9,3),(10,3),(11,0),(12,0),(13,3),(14,0)]
def qI14_114_13:PT:=(.lin [(0,2),(1,2),(2,2),(3,2),(5,2),(6,2),(7,2),(8,2)] (.mix [4,9] [10,11] (.lin [(12,3),(13,3)] .nil)))
def qI14_114_14:List (Nat × Nat):=[(0,1),(1,0),(3,2),(4,0),(2,4),(5,3),(6,3),(7,0),(8,0),(9,3),(10,0)]
attribute [go_sem] qI14_114_5 qI14_114_8 qI14_114_10 qI14_114_13 qI14_114_14
theorem p_rOpNo {k:Nat} {n:Int} {a b:Iv} {p:Int} (ha:Wi k a) (hb:Wi k b) (h:(rightI a && rightI b && okP p)=false):PC Tryz.prog 114 [i64 n,IV a,IV b,i64 p] fun d=>d=IE (iv0,1):=by
 have pA:=p_rRightIv ha
 have pB:=p_rRightIv hb
 have pP:=p_precs (p:=p)
 generalize rightI a=r at *
 generalize rightI b=s at *
 generalize okP p=t at *
 obtain ⟨⟨n1,e1,w1⟩,⟨n2,e2,w2⟩⟩:=a
 obtain ⟨⟨n3,e3,w3⟩,⟨n4,e4,w4⟩⟩:=b
 cases r
 ·have d1:=@dr 5 qI14_114_5
  have d2:=@dl 8 qI14_114_8
  have d3:=@dl 10 qI14_114_10
  have d4:=@dr 13 qI14_114_13
  have d5:=@dl 14 qI14_114_14
  refine PB (rs:=[.cell 8 51,.tmp 9]) Tryz.func114 ?_
  exact Wk
 ·cases s
  ·have d1:=@dr 5 qI14_114_5
   have d2:=@dl 8 qI14_114_8
   have d3:=@dl 10 qI14_114_10
   have d4:=@dr 13 qI14_114_13
   have d5:=@dl 14 qI14_114_14
   refine PB (rs:=[.cell 8 51,.tmp 9]) Tryz.func114 ?_
   exact Wk
  ·cases t
   ·have d1:=@dr 5 qI14_114_5
    have d2:=@dl 8 qI14_114_8
    have d3:=@dl 10 qI14_114_10
    have d4:=@dr 13 qI14_114_13
    have d5:=@dl 14 qI14_114_14
    refine PB (rs:=[.cell 8 51,.tmp 9]) Tryz.func114 ?_
    exact Wk
   ·cases h
set_option maxHeartbeats 2000000 in
theorem p_rOpS {k:Nat} {a b:Iv} {p:Int} (ha:Wi k a) (hb:Wi k b):PC Tryz.prog 114 [i64 0,IV a,IV b,i64 p] fun d=>d=IE (opI a b p (a.lo.val + b.lo.val) (a.hi.val + b.hi.val)):=by
 by_cases h:(rightI a && rightI b && okP p)=true
 ·have pA:=p_rRightIv ha
  have pB:=p_rRightIv hb
  have pP:=p_precs (p:=p)
  unfold opI
  rw [if_pos h]
  rw [Bool.and_eq_true,Bool.and_eq_true] at h
  rw [h.1.1] at pA;rw [h.1.2] at pB;rw [h.2] at pP
  obtain ⟨m,rfl,h8,h256⟩:=okP_nat h.2
  obtain ⟨x,y,ox,oy,hxy,rfl⟩:=rightI_is ha h.1.1
  obtain ⟨u,v,ou,ov,huv,rfl⟩:=rightI_is hb h.1.2
  have o1:=p_rOf ox;have o2:=p_rOf oy;have o3:=p_rOf ou;have o4:=p_rOf ov
  have pl:=p_rPlus ox.bd ou.bd (by decide)
  have ph:=p_rPlus oy.bd ov.bd (by decide)
  have bl:=ox.bd.add ou.bd
  have bh:=oy.bd.add ov.bd
  have rl:=p_rRound (p:=m) (up:=false) bl (by decide) (by omega)
  have rh:=p_rRound (p:=m) (up:=true) bh (by decide) (by omega)
  have pE:=p_rEnds (rd_bd (p:=m) (up:=false) bl (by omega)) (rd_bd (p:=m) (up:=true) bh (by omega)) (by omega)
  rw [← outR_end] at pE
  simp only [ivD,val_nuOf,Int.toNat_natCast] at *
  generalize outR m (x + u) (y + v)=q at *
  obtain ⟨⟨⟨n5,e5,w5⟩,⟨n6,e6,w6⟩⟩,r⟩:=q
  generalize rd m false (x + u)=l at *
  generalize rd m true (y + v)=g at *
  generalize x + u=xu at *
  generalize y + v=yv at *
  unfold VA at *
  have d1:=@dr 5 qI14_114_5
  have d2:=@dl 8 qI14_114_8
  have d3:=@dl 10 qI14_114_10
  have d4:=@dr 13 qI14_114_13
  have d5:=@dl 14 qI14_114_14
  refine PB (rs:=[.cell 8 51,.tmp 9]) Tryz.func114 ?_
  exact Wk
 ·rw [Bool.not_eq_true] at h
  unfold opI
  rw [h]
  exact p_rOpNo ha hb h
set_option maxHeartbeats 2000000 in
theorem p_rOpP {k:Nat} {a b:Iv} {p:Int} (ha:Wi k a) (hb:Wi k b):PC Tryz.prog 114 [i64 2,IV a,IV b,i64 p] fun d=>d=IE (opI a b p (minP a.lo.val a.hi.val b.lo.val b.hi.val) (maxP a.lo.val a.hi.val b.lo.val b.hi.val)):=by
 by_cases h:(rightI a && rightI b && okP p)=true
 ·have pA:=p_rRightIv ha
  have pB:=p_rRightIv hb
  have pP:=p_precs (p:=p)
  unfold opI
  rw [if_pos h]
  rw [Bool.and_eq_true,Bool.and_eq_true] at h
  rw [h.1.1] at pA;rw [h.1.2] at pB;rw [h.2] at pP
  obtain ⟨m,rfl,h8,h256⟩:=okP_nat h.2
  obtain ⟨x,y,ox,oy,hxy,rfl⟩:=rightI_is ha h.1.1
  obtain ⟨u,v,ou,ov,huv,rfl⟩:=rightI_is hb h.1.2
  have o1:=p_rOf ox;have o2:=p_rOf oy;have o3:=p_rOf ou;have o4:=p_rOf ov
  have pl:=p_rLeast ox.bd oy.bd ou.bd ov.bd (by decide)
  have ph:=p_rGreatest ox.bd oy.bd ou.bd ov.bd (by decide)
  have bl:=leastR_bd ox.bd oy.bd ou.bd ov.bd
  have bh:=(leastR_bd oy.bd.neg ox.bd.neg ou.bd ov.bd).neg
  rw [leastR_eq hxy huv] at pl bl
  rw [greatR_eq hxy huv] at ph bh
  have rl:=p_rRound (p:=m) (up:=false) bl (by decide) (by omega)
  have rh:=p_rRound (p:=m) (up:=true) bh (by decide) (by omega)
  have pE:=p_rEnds (rd_bd (p:=m) (up:=false) bl (by omega)) (rd_bd (p:=m) (up:=true) bh (by omega)) (by omega)
  rw [← outR_end] at pE
  simp only [ivD,val_nuOf,Int.toNat_natCast] at *
  generalize outR m (minP x y u v) (maxP x y u v)=q at *
  obtain ⟨⟨⟨n5,e5,w5⟩,⟨n6,e6,w6⟩⟩,r⟩:=q
  generalize rd m false (minP x y u v)=l at *
  generalize rd m true (maxP x y u v)=g at *
  generalize minP x y u v=xu at *
  generalize maxP x y u v=yv at *
  unfold VA at *
  have d1:=@dr 5 qI14_114_5
  have d2:=@dl 8 qI14_114_8
  have d3:=@dl 10 qI14_114_10
  have d4:=@dr 13 qI14_114_13
  have d5:=@dl 14 qI14_114_14
  refine PB (rs:=[.cell 8 51,.tmp 9]) Tryz.func114 ?_
  exact Wk
 ·rw [Bool.not_eq_true] at h
  unfold opI
  rw [h]
  exact p_rOpNo ha hb h
end Go.V
namespace Go.V
open Go Go.RowKit Go.Proofs
def qI15_123_3:PT:=(.lin [(0,0),(1,2),(2,0),(4,0),(5,2),(6,0)] (.mix [3,7] [8,9] (.lin [(10,3),(11,3)] .nil)))
def qI15_123_4:PT:=(.lin [(0,2),(1,2),(3,2),(4,2)] (.mix [2,5] [6,7] (.lin [(8,3),(9,3)] .nil)))
attribute [go_sem] qI15_123_3 qI15_123_4
theorem dy_one:dy (decide ((1:Int)<0)) (1:Int).natAbs 0=1:=by decide
theorem ok_one:OkD 1:=by rw [← dy_one];exact OkD_word (by decide) (by decide) (by decide)
set_option maxHeartbeats 1000000 in
theorem p_times {k:Nat} {x:Nu} (hx:Sz 65536 x) (hk:k≤8):PC Tryz.prog 168 [NU x,i64 k] fun d=>∃ z,d=NU z∧Sz 655360 z∧z.val=powD x.val k:=by
 have p1:=p_nInt (n:=1) (by unfold R64;omega)
 rw [dy_one] at p1
 have o1:=ok_one.sz
 have v1:=val_nuOf 1
 generalize nuOf 1=u at *
 generalize hv:x.val=v at *
 obtain ⟨n1,e1,w1⟩:=x
 obtain ⟨n2,e2,w2⟩:=u
 refine PB (rs:=[.cell 4 41]) Tryz.func168 ?_
 repeat (first|(with_reducible first|refine pv_seq fun K hK=>?_|((first|refine hK _ _ ?_|(clear hK;refine hK _ _ ?_)|(clear hK;clear hK;refine hK _ _ ?_));clear hK;try clear K))| refine W ?_|exact Z|with_reducible intro b)
 have J:∀ (e:DEnv) (S:Store) (b4 b5:Nat) (z:Nu),Sz 655360 z→z.val=powD v k→e 4=.ptr (.l 4) b4 0 0 3→e 5=.ptr (.l 5) b5 0 0 3→S (.l 4)=some ⟨b4,3,0,[[bl false,i64 0,.nil]]⟩→S (.l 5)=some ⟨b5,3,0,[[bl z.neg,i64 z.exp,W64 z.w]]⟩→K e S:=by
  rintro e S b4 b5 ⟨n3,e3,w3⟩ hz hzv g4 g5 s4 s5
  have ft:=And.intro g4 (And.intro g5 (And.intro s4 s5))
  repeat (first|(with_reducible first|refine pv_seq fun K hK=>?_|((first|refine hK _ _ ?_|(clear hK;refine hK _ _ ?_)|(clear hK;clear hK;refine hK _ _ ?_));clear hK;try clear K))| refine W0 ?_|exact Z|with_reducible intro b)
  exact ⟨⟨n3,e3,w3⟩,rfl,hz,hzv⟩
 clear hK
 refine pv_loop (fun e S=>∃ (i b2 b4 b5:Nat) (z:Nu),i≤k∧Sz (65536 * (i + 1)) z∧z.val=powD v i∧e 7=i64 k∧e 8=i64 i∧e 2=.ptr (.l 2) b2 0 0 3∧e 4=.ptr (.l 4) b4 0 0 3∧e 5=.ptr (.l 5) b5 0 0 3∧S (.l 2)=some ⟨b2,3,0,[[bl n1,i64 e1,W64 w1]]⟩∧S (.l 4)=some ⟨b4,3,0,[[bl false,i64 0,.nil]]⟩∧S (.l 5)=some ⟨b5,3,0,[[bl z.neg,i64 z.exp,W64 z.w]]⟩) (fun e _=>k - (intD (e 8)).toNat) ?_ ?_
 ·exact ⟨0,_,_,_,⟨n2,e2,w2⟩,Nat.zero_le _,o1,v1,Zr,Zr,Zr,Zr,Zr,Zr,Zr,Zr⟩
 ·rintro e S ⟨i,b2,b4,b5,z,hi,hz,hzv,g7,g8,g2,g4,g5,s2,s4,s5⟩
  obtain ⟨n3,e3,w3⟩:=z
  have ft:=And.intro g7 (And.intro g8 (And.intro g2 (And.intro g4 (And.intro g5 (And.intro s2 (And.intro s4 s5))))))
  repeat (first|(with_reducible first|refine pv_seq fun K hK=>?_|((first|refine hK _ _ ?_|(clear hK;refine hK _ _ ?_)|(clear hK;clear hK;refine hK _ _ ?_));clear hK;try clear K))| refine W0 ?_|exact Z|with_reducible intro b)
  refine pv_cdD (fun ht=>?_) (fun ht=>?_)
  ·repeat (first|(with_reducible first|refine pv_seq fun K hK=>?_|((first|refine hK _ _ ?_|(clear hK;refine hK _ _ ?_)|(clear hK;clear hK;refine hK _ _ ?_));clear hK;try clear K))| refine W0 ?_|exact Z|with_reducible intro b)
   refine call_pc (p_eMulW hz hx (by omega) (by omega)) ?_
   rintro d ⟨⟨n4,e4,w4⟩,rfl,hz',hzv'⟩
   repeat (first|(with_reducible first|refine pv_seq fun K hK=>?_|((first|refine hK _ _ ?_|(clear hK;refine hK _ _ ?_)|(clear hK;clear hK;refine hK _ _ ?_));clear hK;try clear K))| refine W0 ?_|exact Z|with_reducible intro b)
   refine ⟨⟨i + 1,b2,b4,b5,⟨n4,e4,w4⟩,by omega,by simpa [Nat.mul_add] using hz',?_,rfl,rfl,rfl,rfl,rfl,rfl,rfl⟩,?_⟩
   ·rw [hzv',hzv,hv];rfl
   ·simp only [intD];omega
  ·obtain rfl:i=k:=by omega
   repeat (first|(with_reducible first|refine pv_seq fun K hK=>?_|((first|refine hK _ _ ?_|(clear hK;refine hK _ _ ?_)|(clear hK;clear hK;refine hK _ _ ?_));clear hK;try clear K))| refine W0 ?_|exact Z|with_reducible intro b)
   exact J _ _ b4 b5 ⟨n3,e3,w3⟩ (hz.mono (by omega)) hzv Zr Zr Zr Zr
def pwI (a:Iv) (k p:Int):Iv × Int:=if rightI a && okP p && decide (0≤k) && decide (k≤8) then outR p.toNat (loP a.lo.val a.hi.val k.toNat) (hiP a.lo.val a.hi.val k.toNat) else (iv0,1)
theorem loP_no {x y:Dyadic} {k:Nat} (h:¬ (0<k∧k % 2=0∧x<0∧0<y)) (hxy:x≤y):loP x y k=loD (powD x k) (powD y k):=by
 unfold loP
 by_cases h1:0<k∧k % 2=0∧x≤0∧0≤y
 ·rw [if_pos h1]
  obtain ⟨a,b,c,d⟩:=h1
  have e1:=powD_neg x k
  have n1:=powD_nn (x := -x) (by grind) k
  rw [if_pos b] at e1
  have n2:=powD_nn d k
  have hz:=powD_zero a
  have hx:x=0∨y=0:=by
   by_cases h2:x<0
   ·right
    by_cases h3:0<y
    ·exact absurd ⟨a,b,h2,h3⟩ h
    ·grind
   ·left;grind
  unfold loD
  rcases hx with rfl|rfl
  ·split<;>grind
  ·split<;>grind
 ·rw [if_neg h1]
theorem loP_yes {x y:Dyadic} {k:Nat} (h:0<k∧k % 2=0∧x<0∧0<y):loP x y k=0:=by
 unfold loP
 exact if_pos ⟨h.1,h.2.1,by grind,by grind⟩
theorem tmod2 {k:Nat}:((k:Int).tmod 2=0)=(k % 2=0):=by
 apply propext
 have:(k:Int).tmod 2=((k % 2:Nat):Int):=by rw [Int.tmod_eq_emod_of_nonneg (by omega)];rfl
 rw [this];omega
set_option maxHeartbeats 2000000 in
theorem p_iPow {w:Nat} {a:Iv} {k p:Int} (ha:Wi w a):PC Tryz.prog 123 [IV a,i64 k,i64 p] fun d=>d=IE (pwI a k p):=by
 have pV:=p_validI (p:=p) ha ha
 unfold pwI
 by_cases h:(rightI a && okP p)=true
 ·by_cases h0:0≤k
  ·by_cases h8:k≤8
   ·rw [h,decide_eq_true h0,decide_eq_true h8]
    rw [Bool.and_eq_true] at h
    rw [h.1,h.2] at pV
    obtain ⟨m,rfl,m8,m256⟩:=okP_nat h.2
    obtain ⟨x,y,ox,oy,hxy,rfl⟩:=rightI_is ha h.1
    obtain ⟨j,rfl⟩:=Int.eq_ofNat_of_zero_le h0
    have t1:=p_times (k:=j) ox.sz (by omega)
    have t2:=p_times (k:=j) oy.sz (by omega)
    have sX:=p_eSignD ox
    have sY:=p_eSignD oy
    have kX:(sgnD x<0)=(x<0):=sgnD_lt0
    have kY:(0<sgnD y)=(0<y):=sgnD_0lt
    have k0:((j:Int)<0)=False:=eq_false (by omega)
    have k8:(8<(j:Int))=False:=eq_false (by omega)
    have kr:=tmod2 (k:=j)
    have kj:(0<(j:Int))=(0<j):=propext (by omega)
    simp only [ivD,val_nuOf,Int.toNat_natCast,Bool.and_self,if_true] at *
    generalize hres:outR m (loP x y j) (hiP x y j)=res
    generalize sgnD x=gx at *
    generalize sgnD y=gy at *
    generalize nuOf x=X at *
    generalize nuOf y=Y at *
    obtain ⟨n1,e1,w1⟩:=X
    obtain ⟨n2,e2,w2⟩:=Y
    have d1:=@dr 3 qI15_123_3
    have d2:=@dr 4 qI15_123_4
    refine PB (rs:=[.cell 6 51,.tmp 7]) Tryz.func123 ?_
    have ft:=And.intro k0 k8
    repeat (first|(with_reducible first|refine pv_seq fun K hK=>?_|((first|refine hK _ _ ?_|(clear hK;refine hK _ _ ?_)|(clear hK;clear hK;refine hK _ _ ?_));clear hK;try clear K))| refine W ?_|exact Z|with_reducible intro b)
    first|refine call_pc t1 ?_|(refine ExtC_is ?_;simp -implicitDefEqProofs only [ft,go_sem,seval];refine PC.mono t1 ?_)
    rintro d ⟨z1,rfl,hz1,hv1⟩
    obtain ⟨n3,e3,w3⟩:=z1
    repeat (first|(with_reducible first|refine pv_seq fun K hK=>?_|((first|refine hK _ _ ?_|(clear hK;refine hK _ _ ?_)|(clear hK;clear hK;refine hK _ _ ?_));clear hK;try clear K))| refine W0 ?_|exact Z|with_reducible intro b)
    first|refine call_pc t2 ?_|(refine ExtC_is ?_;simp -implicitDefEqProofs only [ft,go_sem,seval];refine PC.mono t2 ?_)
    rintro d ⟨z2,rfl,hz2,hv2⟩
    obtain ⟨n4,e4,w4⟩:=z2
    have pL:=p_least hz1 hz2 (by decide)
    have pG:=p_greatest hz1 hz2 (by decide)
    have sl:=minN_sz hz1 hz2;have vl:=minN_val ⟨n3,e3,w3⟩ ⟨n4,e4,w4⟩;rw [hv1,hv2] at vl
    have sg:=maxN_sz hz1 hz2;have vg:=maxN_val ⟨n3,e3,w3⟩ ⟨n4,e4,w4⟩;rw [hv1,hv2] at vg
    generalize minN ⟨n3,e3,w3⟩ ⟨n4,e4,w4⟩=L at *
    generalize maxN ⟨n3,e3,w3⟩ ⟨n4,e4,w4⟩=G at *
    have pO:=p_outward (p:=m) sl sg (by decide) (by omega)
    have pO2:=p_outward (p:=m) (Sz.zero 655360) sg (by decide) (by omega)
    rw [vl,vg] at pO
    rw [vg,show nu0.val=0 from rfl] at pO2
    obtain ⟨n5,e5,w5⟩:=L
    obtain ⟨n6,e6,w6⟩:=G
    unfold nu0 at pO2
    have no:¬ (0<j∧j % 2=0∧x<0∧0<y)→outR m (loD (powD x j) (powD y j)) (hiD (powD x j) (powD y j))=res:=fun h=>by rw [← hres,loP_no h hxy];rfl
    have yes:(0<j∧j % 2=0∧x<0∧0<y)→outR m 0 (hiD (powD x j) (powD y j))=res:=fun h=>by rw [← hres,loP_yes h];rfl
    clear hres
    by_cases c1:0<j
    ·rw [eq_true c1] at kj
     by_cases c2:j % 2=0
     ·rw [eq_true c2] at kr
      by_cases c3:x<0
      ·rw [eq_true c3] at kX
       by_cases c4:0<y
       ·rw [eq_true c4] at kY
        rw [yes ⟨c1,c2,c3,c4⟩] at pO2
        obtain ⟨⟨⟨n7,e7,w7⟩,⟨n8,e8,w8⟩⟩,er⟩:=res
        clear pO
        have ft:=And.intro kj (And.intro kr (And.intro kX kY))
        exact Wk
       ·rw [eq_false c4] at kY
        rw [no (fun h=>c4 h.2.2.2)] at pO
        obtain ⟨⟨⟨n7,e7,w7⟩,⟨n8,e8,w8⟩⟩,er⟩:=res
        clear pO2
        have ft:=And.intro kj (And.intro kr (And.intro kX kY))
        exact Wk
      ·rw [eq_false c3] at kX
       rw [no (fun h=>c3 h.2.2.1)] at pO
       obtain ⟨⟨⟨n7,e7,w7⟩,⟨n8,e8,w8⟩⟩,er⟩:=res
       clear pO2
       have ft:=And.intro kj (And.intro kr kX)
       exact Wk
     ·rw [eq_false c2] at kr
      rw [no (fun h=>c2 h.2.1)] at pO
      obtain ⟨⟨⟨n7,e7,w7⟩,⟨n8,e8,w8⟩⟩,er⟩:=res
      clear pO2
      have ft:=And.intro kj kr
      exact Wk
    ·rw [eq_false c1] at kj
     rw [no (fun h=>c1 h.1)] at pO
     obtain ⟨⟨⟨n7,e7,w7⟩,⟨n8,e8,w8⟩⟩,er⟩:=res
     clear pO2
     have ft:=kj
     exact Wk
   ·rw [decide_eq_false h8,Bool.and_false,if_neg (by decide)]
    rw [Bool.and_eq_true] at h
    rw [h.1,h.2] at pV
    obtain ⟨⟨n1,e1,w1⟩,⟨n2,e2,w2⟩⟩:=a
    have k0:(k<0)=False:=eq_false (by omega)
    have k8:(8<k)=True:=eq_true (by omega)
    have d1:=@dr 3 qI15_123_3
    have d2:=@dr 4 qI15_123_4
    refine PB (rs:=[.cell 6 51,.tmp 7]) Tryz.func123 ?_
    have ft:=And.intro k0 k8
    exact Wk
  ·rw [decide_eq_false h0,Bool.and_false,Bool.false_and,if_neg (by decide)]
   rw [Bool.and_eq_true] at h
   rw [h.1,h.2] at pV
   obtain ⟨⟨n1,e1,w1⟩,⟨n2,e2,w2⟩⟩:=a
   have k0:(k<0)=True:=eq_true (by omega)
   have d1:=@dr 3 qI15_123_3
   have d2:=@dr 4 qI15_123_4
   refine PB (rs:=[.cell 6 51,.tmp 7]) Tryz.func123 ?_
   have ft:=k0
   exact Wk
 ·rw [Bool.not_eq_true] at h
  rw [h,Bool.false_and,Bool.false_and,if_neg (by decide)]
  have h3:(rightI a && rightI a && okP p)=false:=by rw [Bool.and_self];exact h
  rw [h3] at pV
  obtain ⟨⟨n1,e1,w1⟩,⟨n2,e2,w2⟩⟩:=a
  have d1:=@dr 3 qI15_123_3
  have d2:=@dr 4 qI15_123_4
  refine PB (rs:=[.cell 6 51,.tmp 7]) Tryz.func123 ?_
  exact Wk
end Go.V
namespace Go.V
open Go Go.RowKit Go.Proofs
def qI16_113_3:PT:=(.lin [(0,0),(1,2),(3,0),(5,0),(6,2),(8,0)] (.mix [2,4,7,9] [10,11] (.lin [(12,3),(13,3)] .nil)))
def qI16_113_8:List (Nat × Nat):=[(0,1),(1,0),(3,2),(4,0),(2,4),(5,3),(6,3),(7,0),(8,0),(9,3),(10,0)]
attribute [go_sem] qI16_113_3 qI16_113_8
theorem powD_bd {d:Dyadic} (hd:Bd 65536 d):∀ k,Bd (65536 * (k + 1)) (powD d k)
 | 0=>(OkD.bd ok_one).mono (by omega)
 | k + 1=>((powD_bd hd k).mul hd).mono (by omega)
set_option maxHeartbeats 1000000 in
theorem p_rPower {k:Nat} {d:Dyadic} (hd:Bd 65536 d) (hk:k≤20):PC Tryz.prog 154 [VA d,i64 k] fun r=>r=VA (powD d k):=by
 have p1:=p_rWhole (n:=1) (by unfold R64;omega)
 rw [dy_one] at p1
 refine PB (rs:=[.cell 4 90]) Tryz.func154 ?_
 unfold VA at p1 ⊢
 repeat (first|(with_reducible first|refine pv_seq fun K hK=>?_|((first|refine hK _ _ ?_|(clear hK;refine hK _ _ ?_)|(clear hK;clear hK;refine hK _ _ ?_));clear hK;try clear K))| refine W ?_|exact Z|with_reducible intro b)
 have J:∀ (e:DEnv) (S:Store) (b4 b5:Nat),e 4=.ptr (.l 4) b4 0 0 3→e 5=.ptr (.l 5) b5 0 0 3→S (.l 4)=some ⟨b4,3,0,[[bl false,.nil,i64 0]]⟩→S (.l 5)=some ⟨b5,3,0,[[bl (fS (powD d k)),W32 (D32 (fN (powD d k))),i64 (fE (powD d k))]]⟩→K e S:=by
  rintro e S b4 b5 g4 g5 s4 s5
  have ft:=And.intro g4 (And.intro g5 (And.intro s4 s5))
  exact Wk
 clear hK
 refine pv_loop (fun e S=>∃ (i b2 b4 b5:Nat),i≤k∧e 1=i64 (k - i:Nat)∧e 2=.ptr (.l 2) b2 0 0 3∧e 4=.ptr (.l 4) b4 0 0 3∧e 5=.ptr (.l 5) b5 0 0 3∧S (.l 2)=some ⟨b2,3,0,[[bl (fS d),W32 (D32 (fN d)),i64 (fE d)]]⟩∧S (.l 4)=some ⟨b4,3,0,[[bl false,.nil,i64 0]]⟩∧S (.l 5)=some ⟨b5,3,0,[[bl (fS (powD d i)),W32 (D32 (fN (powD d i))),i64 (fE (powD d i))]]⟩) (fun e _=>(intD (e 1)).toNat) ?_ ?_
 ·exact ⟨0,_,_,_,Nat.zero_le _,Zr,Zr,Zr,Zr,Zr,Zr,Zr⟩
 ·rintro e S ⟨i,b2,b4,b5,hi,g1,g2,g4,g5,s2,s4,s5⟩
  have pB:=p_rBy ((powD_bd hd i).mono (m:=65536 * 30) (by omega)) (hd.mono (by omega)) (by decide)
  unfold VA at pB
  have hpw:powD d i * d=powD d (i + 1):=rfl
  rw [hpw] at pB
  by_cases ht:i<k
  ·have h0:(0<((k - i:Nat):Int))=True:=eq_true (by omega)
   have h1:((k - i:Nat):Int) - 1=((k - (i + 1):Nat):Int):=by omega
   have h2:k - (i + 1)<k - i:=by omega
   generalize powD d i=v at *
   generalize hn:powD d (i + 1)=u at *
   generalize k - i=r at *
   generalize hr:k - (i + 1)=r' at *
   have ft:=And.intro g1 (And.intro g2 (And.intro g4 (And.intro g5 (And.intro s2 (And.intro s4 (And.intro s5 (And.intro h0 h1)))))))
   repeat (first|(with_reducible first|refine pv_seq fun K hK=>?_|((first|refine hK _ _ ?_|(clear hK;refine hK _ _ ?_)|(clear hK;clear hK;refine hK _ _ ?_));clear hK;try clear K))| refine W ?_|exact Z|with_reducible intro b)
   refine ⟨⟨i + 1,b2,b4,b5,by omega,?_,rfl,rfl,rfl,rfl,rfl,?_⟩,?_⟩
   ·rw [hr]
   ·rw [hn]
   ·simp only [intD];omega
  ·obtain rfl:i=k:=by omega
   have h0:(0<((i - i:Nat):Int))=False:=eq_false (by omega)
   have ft:=And.intro g1 (And.intro g2 (And.intro g4 (And.intro g5 (And.intro s2 (And.intro s4 (And.intro s5 h0))))))
   repeat (first|(with_reducible first|refine pv_seq fun K hK=>?_|((first|refine hK _ _ ?_|(clear hK;refine hK _ _ ?_)|(clear hK;clear hK;refine hK _ _ ?_));clear hK;try clear K))| refine W0 ?_|exact Z|with_reducible intro b)
   exact J _ _ b4 b5 Zr Zr Zr Zr
set_option maxHeartbeats 2000000 in
theorem p_rPow {w:Nat} {a:Iv} {k p:Int} (ha:Wi w a):PC Tryz.prog 113 [IV a,i64 k,i64 p] fun d=>d=IE (pwI a k p):=by
 have pA:=p_rRightIv ha
 have pP:=p_precs (p:=p)
 unfold pwI
 by_cases hr:rightI a=true
 ·by_cases hp:okP p=true
  ·by_cases h0:0≤k
   ·by_cases h8:k≤8
    ·rw [hr,hp,decide_eq_true h0,decide_eq_true h8]
     have pH:=p_rHas (x:=nu0) ha (by intro x hx;cases hx)
     unfold hasR at pH
     rw [hr] at pA pH
     rw [hp] at pP
     obtain ⟨m,rfl,m8,m256⟩:=okP_nat hp
     obtain ⟨x,y,ox,oy,hxy,rfl⟩:=rightI_is ha hr
     obtain ⟨j,rfl⟩:=Int.eq_ofNat_of_zero_le h0
     have hj:j≤8:=by omega
     have o1:=p_rOf ox;have o2:=p_rOf oy
     have t1:=p_rPower (k:=j) ox.bd (by omega)
     have t2:=p_rPower (k:=j) oy.bd (by omega)
     have d1:=(powD_bd ox.bd j).mono (m:=655360) (by omega)
     have d2:=(powD_bd oy.bd j).mono (m:=655360) (by omega)
     have pO:=p_rOrder d1 d2 (by decide)
     have kO:(0<cmpD (powD x j) (powD y j))=(powD y j<powD x j):=cmpD_0lt
     have bL:Bd 655360 (loP x y j):=by unfold loP loD;(repeat' split)<;>first|exact Bd.zero _|assumption
     have bH:Bd 655360 (hiP x y j):=by unfold hiP hiD;split<;>assumption
     have rl:=p_rRound (p:=m) (up:=false) bL (by decide) (by omega)
     have rh:=p_rRound (p:=m) (up:=true) bH (by decide) (by omega)
     have pE:=p_rEnds (rd_bd (p:=m) (up:=false) bL (by omega)) (rd_bd (p:=m) (up:=true) bH (by omega)) (by omega)
     rw [← outR_end] at pE
     have k0:((j:Int)<0)=False:=eq_false (by omega)
     have k8:(8<(j:Int))=False:=eq_false (by omega)
     have kr:=tmod2 (k:=j)
     have kj:(0<(j:Int))=(0<j):=propext (by omega)
     have hlo:loP x y j=if 0<j∧j % 2=0∧(decide (x≤0) && decide (0≤y))=true then 0 else if powD y j<powD x j then powD y j else powD x j:=by
      unfold loP loD
      simp only [Bool.and_eq_true,decide_eq_true_eq]
     have hhi:hiP x y j=if powD y j<powD x j then powD x j else powD y j:=by
      unfold hiP hiD;split<;>split<;>grind
     rw [show rightB nu0=true from rfl,show nu0.val=0 from rfl,Bool.true_and,Bool.true_and] at pH
     unfold nu0 at pH
     simp only [ivD,val_nuOf,Int.toNat_natCast,Bool.and_self,if_true] at *
     generalize hq:outR m (loP x y j) (hiP x y j)=res at *
     generalize rd m false (loP x y j)=l at *
     generalize rd m true (hiP x y j)=g at *
     generalize loP x y j=lo at *
     generalize hiP x y j=hi at *
     generalize cmpD (powD x j) (powD y j)=c at *
     generalize powD x j=px at *
     generalize powD y j=py at *
     generalize (decide (x≤0) && decide (0≤y))=t at *
     obtain ⟨⟨⟨n7,e7,w7⟩,⟨n8,e8,w8⟩⟩,er⟩:=res
     generalize nuOf x=X at *
     generalize nuOf y=Y at *
     obtain ⟨n1,e1,w1⟩:=X
     obtain ⟨n2,e2,w2⟩:=Y
     have v0:=VA_0
     unfold VA at *
     by_cases c1:0<j∧j % 2=0
     ·rw [eq_true c1.1] at kj
      rw [eq_true c1.2] at kr
      cases t
      ·rw [if_neg (by simp)] at hlo
       by_cases c5:py<px
       ·rw [if_pos c5] at hlo hhi
        rw [eq_true c5] at kO
        subst hlo hhi
        have d1:=@dr 3 qI16_113_3
        have d2:=@dl 8 qI16_113_8
        refine PB (rs:=[.cell 6 51,.tmp 7]) Tryz.func113 ?_
        have ft:=And.intro k0 (And.intro k8 (And.intro kj (And.intro kr kO)))
        exact Wk
       ·rw [if_neg c5] at hlo hhi
        rw [eq_false c5] at kO
        subst hlo hhi
        have d1:=@dr 3 qI16_113_3
        have d2:=@dl 8 qI16_113_8
        refine PB (rs:=[.cell 6 51,.tmp 7]) Tryz.func113 ?_
        have ft:=And.intro k0 (And.intro k8 (And.intro kj (And.intro kr kO)))
        exact Wk
      ·rw [if_pos ⟨c1.1,c1.2,rfl⟩] at hlo
       subst hlo
       rw [v0] at rl
       by_cases c5:py<px
       ·rw [if_pos c5] at hhi
        rw [eq_true c5] at kO
        subst hhi
        have d1:=@dr 3 qI16_113_3
        have d2:=@dl 8 qI16_113_8
        refine PB (rs:=[.cell 6 51,.tmp 7]) Tryz.func113 ?_
        have ft:=And.intro k0 (And.intro k8 (And.intro kj (And.intro kr kO)))
        exact Wk
       ·rw [if_neg c5] at hhi
        rw [eq_false c5] at kO
        subst hhi
        have d1:=@dr 3 qI16_113_3
        have d2:=@dl 8 qI16_113_8
        refine PB (rs:=[.cell 6 51,.tmp 7]) Tryz.func113 ?_
        have ft:=And.intro k0 (And.intro k8 (And.intro kj (And.intro kr kO)))
        exact Wk
     ·rw [if_neg (fun h=>c1 ⟨h.1,h.2.1⟩)] at hlo
      have kjr:(0<(j:Int))=False∨((0<(j:Int))=True∧((j:Int).tmod 2=0)=False):=by
       by_cases c2:0<j
       ·right;rw [kj,kr];exact ⟨eq_true c2,eq_false fun h=>c1 ⟨c2,h⟩⟩
       ·left;rw [kj];exact eq_false c2
      clear kj kr
      rcases kjr with kj|⟨kj,kr⟩
      ·by_cases c5:py<px
       ·rw [if_pos c5] at hlo hhi
        rw [eq_true c5] at kO
        subst hlo hhi
        have d1:=@dr 3 qI16_113_3
        have d2:=@dl 8 qI16_113_8
        refine PB (rs:=[.cell 6 51,.tmp 7]) Tryz.func113 ?_
        have ft:=And.intro k0 (And.intro k8 (And.intro kj kO))
        exact Wk
       ·rw [if_neg c5] at hlo hhi
        rw [eq_false c5] at kO
        subst hlo hhi
        have d1:=@dr 3 qI16_113_3
        have d2:=@dl 8 qI16_113_8
        refine PB (rs:=[.cell 6 51,.tmp 7]) Tryz.func113 ?_
        have ft:=And.intro k0 (And.intro k8 (And.intro kj kO))
        exact Wk
      ·by_cases c5:py<px
       ·rw [if_pos c5] at hlo hhi
        rw [eq_true c5] at kO
        subst hlo hhi
        have d1:=@dr 3 qI16_113_3
        have d2:=@dl 8 qI16_113_8
        refine PB (rs:=[.cell 6 51,.tmp 7]) Tryz.func113 ?_
        have ft:=And.intro k0 (And.intro k8 (And.intro kj (And.intro kr kO)))
        exact Wk
       ·rw [if_neg c5] at hlo hhi
        rw [eq_false c5] at kO
        subst hlo hhi
        have d1:=@dr 3 qI16_113_3
        have d2:=@dl 8 qI16_113_8
        refine PB (rs:=[.cell 6 51,.tmp 7]) Tryz.func113 ?_
        have ft:=And.intro k0 (And.intro k8 (And.intro kj (And.intro kr kO)))
        exact Wk
    ·rw [decide_eq_false h8,Bool.and_false,if_neg (by decide)]
     rw [hr] at pA
     obtain ⟨⟨n1,e1,w1⟩,⟨n2,e2,w2⟩⟩:=a
     have k0:(k<0)=False:=eq_false (by omega)
     have k8:(8<k)=True:=eq_true (by omega)
     have d1:=@dr 3 qI16_113_3
     have d2:=@dl 8 qI16_113_8
     refine PB (rs:=[.cell 6 51,.tmp 7]) Tryz.func113 ?_
     have ft:=And.intro k0 k8
     exact Wk
   ·rw [decide_eq_false h0,Bool.and_false,Bool.false_and,if_neg (by decide)]
    rw [hr] at pA
    obtain ⟨⟨n1,e1,w1⟩,⟨n2,e2,w2⟩⟩:=a
    have k0:(k<0)=True:=eq_true (by omega)
    have d1:=@dr 3 qI16_113_3
    have d2:=@dl 8 qI16_113_8
    refine PB (rs:=[.cell 6 51,.tmp 7]) Tryz.func113 ?_
    have ft:=k0
    exact Wk
  ·rw [Bool.not_eq_true] at hp
   rw [hp,Bool.and_false,Bool.false_and,Bool.false_and,if_neg (by decide)]
   rw [hr] at pA
   rw [hp] at pP
   obtain ⟨⟨n1,e1,w1⟩,⟨n2,e2,w2⟩⟩:=a
   by_cases h0:0≤k
   ·by_cases h8:k≤8
    ·have k0:(k<0)=False:=eq_false (by omega)
     have k8:(8<k)=False:=eq_false (by omega)
     have d1:=@dr 3 qI16_113_3
     have d2:=@dl 8 qI16_113_8
     refine PB (rs:=[.cell 6 51,.tmp 7]) Tryz.func113 ?_
     have ft:=And.intro k0 k8
     exact Wk
    ·have k0:(k<0)=False:=eq_false (by omega)
     have k8:(8<k)=True:=eq_true (by omega)
     have d1:=@dr 3 qI16_113_3
     have d2:=@dl 8 qI16_113_8
     refine PB (rs:=[.cell 6 51,.tmp 7]) Tryz.func113 ?_
     have ft:=And.intro k0 k8
     exact Wk
   ·have k0:(k<0)=True:=eq_true (by omega)
    have d1:=@dr 3 qI16_113_3
    have d2:=@dl 8 qI16_113_8
    refine PB (rs:=[.cell 6 51,.tmp 7]) Tryz.func113 ?_
    have ft:=k0
    exact Wk
 ·rw [Bool.not_eq_true] at hr
  rw [hr,Bool.false_and,Bool.false_and,Bool.false_and,if_neg (by decide)]
  rw [hr] at pA
  obtain ⟨⟨n1,e1,w1⟩,⟨n2,e2,w2⟩⟩:=a
  have d1:=@dr 3 qI16_113_3
  have d2:=@dl 8 qI16_113_8
  refine PB (rs:=[.cell 6 51,.tmp 7]) Tryz.func113 ?_
  exact Wk
end Go.V
namespace Go.V
open Go Go.RowKit Go.Proofs
theorem p_Between {a b:Dyadic} (ha:OkD a) (hb:OkD b):PC Tryz.prog 120 [NU (nuOf a),NU (nuOf b)] fun d=>d=IV (ivD (loD a b) (hiD a b)):=by
 have pC:=p_rCmpD ha hb
 have k1:(0<cmpD a b)=(b<a):=cmpD_0lt
 unfold loD hiD ivD
 by_cases h:b<a
 ·rw [if_pos h,if_neg (by grind)]
  rw [eq_true h] at k1
  generalize cmpD a b=c at *
  generalize nuOf a=X at *
  generalize nuOf b=Y at *
  obtain ⟨n1,e1,w1⟩:=X
  obtain ⟨n2,e2,w2⟩:=Y
  refine PB (rs:=[.cell 4 51]) Tryz.func120 ?_
  have ft:=k1
  exact Wk
 ·rw [if_neg h,show (if a<b then b else a)=b by split<;>grind]
  rw [eq_false h] at k1
  generalize cmpD a b=c at *
  generalize nuOf a=X at *
  generalize nuOf b=Y at *
  obtain ⟨n1,e1,w1⟩:=X
  obtain ⟨n2,e2,w2⟩:=Y
  refine PB (rs:=[.cell 4 51]) Tryz.func120 ?_
  have ft:=k1
  exact Wk
theorem lo_le_hi (a b:Dyadic):loD a b≤hiD a b:=by have h1:=loD_le a b;have h2:=hiD_ge a b;grind
theorem p_dYes {k:Nm} {S:Store} {Q:D→Store→Prop} {b i n:Nat} {w:List Nat} (hS:S k=some ⟨b,2,0,[[W64 w,i64 i]]⟩) (hb:B64 w) (hi:i≤1000000000) (hn:0<n) (hn2:n≤1099511627776)
 (hQ:∀ t,Q (bl t) (updS S k (some ⟨b,2,0,[[W64 w,i64 ((i + 1:Nat):Int)]]⟩))):PFC Tryz.prog 26 [.ptr k b 0 0 2,i64 n] S Q:=by
 refine PFB (rs:=[.tmp 4]) Tryz.func26 ?_
 repeat (first|(with_reducible first|refine pv_seq fun K hK=>?_|((first|refine hK _ _ ?_|(clear hK;refine hK _ _ ?_)|(clear hK;clear hK;refine hK _ _ ?_));clear hK;try clear K))| refine W0 ?_|exact Z|with_reducible intro b)
 refine p_dN (n:=n) (i:=i) (by simp -implicitDefEqProofs only [updS,upS];exact hS) hb (by omega) hn hn2 (fun r hr=>?_)
 have hq:=hQ (decide ((r:Int)=(n:Int) - 1))
 repeat (first|(with_reducible first|refine pv_seq fun K hK=>?_|((first|refine hK _ _ ?_|(clear hK;refine hK _ _ ?_)|(clear hK;clear hK;refine hK _ _ ?_));clear hK;try clear K))| refine W0 ?_|exact Z|with_reducible intro b)
 exact hq
set_option maxHeartbeats 1000000 in
theorem p_dSmallIv {k:Nm} {S:Store} {Q:D→Store→Prop} {b i:Nat} {w:List Nat} (hS:S k=some ⟨b,2,0,[[W64 w,i64 i]]⟩) (hb:B64 w) (hi:i≤900000000)
 (hQ:∀ (x y:Dyadic) (j:Nat),Sm 14 6 x→Sm 14 6 y→x≤y→j≤i + 3→Q (IV (ivD x y)) (updS S k (some ⟨b,2,0,[[W64 w,i64 (j:Int)]]⟩))):PFC Tryz.prog 80 [.ptr k b 0 0 2] S Q:=by
 refine PFB (rs:=[.cell 2 51]) Tryz.func80 ?_
 repeat (first|(with_reducible first|refine pv_seq fun K hK=>?_|((first|refine hK _ _ ?_|(clear hK;refine hK _ _ ?_)|(clear hK;clear hK;refine hK _ _ ?_));clear hK;try clear K))| refine W0 ?_|exact Z|with_reducible intro b)
 refine p_dYes (n:=3) (i:=i) (by simp -implicitDefEqProofs only [updS,upS];exact hS) hb (by omega) (by decide) (by decide) (fun r=>?_)
 cases r
 ·repeat (first|(with_reducible first|refine pv_seq fun K hK=>?_|((first|refine hK _ _ ?_|(clear hK;refine hK _ _ ?_)|(clear hK;clear hK;refine hK _ _ ?_));clear hK;try clear K))| refine W0 ?_|exact Z|with_reducible intro b)
  refine p_smallD (i:=i + 1) (by simp -implicitDefEqProofs only [updS,upS,if_true];rfl) hb (by omega) (fun d sd bd=>?_)
  repeat (first|(with_reducible first|refine pv_seq fun K hK=>?_|((first|refine hK _ _ ?_|(clear hK;refine hK _ _ ?_)|(clear hK;clear hK;refine hK _ _ ?_));clear hK;try clear K))| refine W0 ?_|exact Z|with_reducible intro b)
  refine p_smallD (i:=i + 2) (by simp -implicitDefEqProofs only [updS,upS,if_true];rfl) hb (by omega) (fun c sc bc=>?_)
  have od:=sd.ok (by decide) (by decide)
  have oc:=sc.ok (by decide) (by decide)
  have pB:=p_Between od oc
  have hq:=hQ (loD d c) (hiD d c) (i + 3) (by unfold loD;split<;>assumption) (by unfold hiD;split<;>assumption) (lo_le_hi d c) (by omega)
  repeat (first|(with_reducible first|refine pv_seq fun K hK=>?_|((first|refine hK _ _ ?_|(clear hK;refine hK _ _ ?_)|(clear hK;clear hK;refine hK _ _ ?_));clear hK;try clear K))| refine W ?_|exact Z|with_reducible intro b)
  simp only [updS_updS]
  exact hq
 ·repeat (first|(with_reducible first|refine pv_seq fun K hK=>?_|((first|refine hK _ _ ?_|(clear hK;refine hK _ _ ?_)|(clear hK;clear hK;refine hK _ _ ?_));clear hK;try clear K))| refine W0 ?_|exact Z|with_reducible intro b)
  refine p_smallD (i:=i + 1) (by simp -implicitDefEqProofs only [updS,upS,if_true];rfl) hb (by omega) (fun d sd bd=>?_)
  have pP:=p_rPoint (x:=nuOf d)
  have hq:=hQ d d (i + 2) sd sd (by grind) (by omega)
  repeat (first|(with_reducible first|refine pv_seq fun K hK=>?_|((first|refine hK _ _ ?_|(clear hK;refine hK _ _ ?_)|(clear hK;clear hK;refine hK _ _ ?_));clear hK;try clear K))| refine W ?_|exact Z|with_reducible intro b)
  simp only [updS_updS]
  exact hq
end Go.V
namespace Go.V
open Go Go.RowKit Go.Proofs
def qI23_81_6:PT:=(.lin [(0,0),(1,2),(3,0),(4,0),(7,0),(8,2),(10,0)] (.mix [2,5,6,9,11,12,13] [14] (.lin [(15,3)] .nil)))
attribute [go_sem] qI23_81_6
def evD (d:Dyadic):Dyadic:=d * dy false 1 (-3)
theorem evD_f {d:Dyadic} (h:d≠0):fS (evD d)=fS d∧fN (evD d)=fN d∧fE (evD d)=fE d - 3:=by
 have h1:dy false 1 (-3)≠0:=by decide
 obtain ⟨a,b,c⟩:=mul_odd h h1
 obtain ⟨a2,b2,c2⟩:=f_of (neg:=false) (n:=1) (e := -3) (by decide)
 rw [tz_odd (by decide)] at b2 c2
 unfold evD
 rw [a,b,c,a2,b2,c2]
 refine ⟨by cases fS d<;>rfl,by simp,by omega⟩
theorem evD_zero:evD 0=0:=by decide
theorem evD_bd {k:Nat} {d:Dyadic} (h:Bd k d):Bd (k + 3) (evD d):=by
 by_cases h0:d=0
 ·subst h0;rw [evD_zero];exact Bd.zero _
 ·obtain ⟨a,b,c⟩:=evD_f h0
  refine ⟨by rw [b,Nat.pow_add];have:=h.1;omega,?_,?_⟩
  ·have:=h.2.1;omega
  ·have:=h.2.2;omega
theorem VA_ev {d:Dyadic} (h:d≠0):VA (evD d)=.agg [bl (fS d),W32 (D32 (fN d)),i64 (fE d - 3)]:=by
 obtain ⟨a,b,c⟩:=evD_f h
 unfold VA;rw [a,b,c]
def mixD (x y:Dyadic) (k:Nat):Dyadic:=evD (x * dy false (8 - k) 0 + y * dy false k 0)
theorem mixD8 (x y:Dyadic) {k:Nat} (hk:k≤8):mixD x y k * 8=x * (8 - dy false k 0) + y * dy false k 0:=by
 have e1:dy false (8 - k) 0=8 - dy false k 0:=by
  have h:=dy_add false (8 - k) k 0
  rw [show 8 - k + k=8 by omega] at h
  rw [show (8:Dyadic)=dy false 8 0 by decide,← h];grind
 have e2:dy false 1 (-3) * 8=1:=by decide
 unfold mixD evD
 rw [e1]
 generalize dy false 1 (-3)=t at *
 grind
theorem mixD_in {x y:Dyadic} {k:Nat} (hk:k≤8) (h:x≤y):x≤mixD x y k∧mixD x y k≤y:=by
 have e:=mixD8 x y hk
 have n1:0≤dy false k 0 * (y - x):=nn_mul (dy_nn _ _) (by grind)
 have n2:0≤(8 - dy false k 0) * (y - x):=nn_mul (by
  have h:=dy_add false (8 - k) k 0
  rw [show 8 - k + k=8 by omega] at h
  have:=dy_nn (8 - k) 0
  rw [show (8:Dyadic)=dy false 8 0 by decide,← h];grind) (by grind)
 generalize dy false k 0=c at *
 generalize mixD x y k=m at *
 constructor<;>grind
def InS (x y t:Dyadic):Prop:=t=x∨t=y∨∃ k,1≤k∧k≤7∧t=mixD x y k
theorem InS.in {x y t:Dyadic} (h:InS x y t) (hxy:x≤y):x≤t∧t≤y:=by
 rcases h with rfl|rfl|⟨k,h1,h2,rfl⟩
 ·exact ⟨by grind,hxy⟩
 ·exact ⟨hxy,by grind⟩
 ·exact mixD_in (by omega) hxy
theorem InS.sm {k p:Nat} {x y t:Dyadic} (h:InS x y t) (hx:Sm k p x) (hy:Sm k p y):Sm (k + 4) (p + 3) t:=by
 have up:∀ {d:Dyadic},Sm k p d→Sm (k + 4) (p + 3) d:=by
  rintro d ⟨z,rfl,hz⟩
  refine ⟨z * 2 ^ 3,?_,?_⟩
  ·exact (owp_shl z p 3).symm
  ·rw [Int.natAbs_mul,Nat.pow_add,show ((2:Int) ^ 3).natAbs=8 from rfl];omega
 rcases h with rfl|rfl|⟨j,h1,h2,rfl⟩
 ·exact up hx
 ·exact up hy
 ·have c1:∀ n:Nat,n<8→Sm 3 0 (dy false n 0):=fun n hn=>⟨sg false n,by unfold dy;rfl,by rw [sg_abs];exact hn⟩
  have a:=(hx.mul (c1 (8 - j) (by omega))).add (hy.mul (c1 j (by omega)))
  obtain ⟨z,hz,hz2⟩:=a
  refine ⟨z,?_,hz2⟩
  unfold mixD evD
  rw [hz]
  unfold dy
  rw [owp_mul,show sg false 1=1 from rfl,Int.mul_one];rfl
set_option maxHeartbeats 2000000 in
theorem p_dIn {k:Nm} {S:Store} {Q:D→Store→Prop} {bb i:Nat} {w:List Nat} {x y:Dyadic} (hS:S k=some ⟨bb,2,0,[[W64 w,i64 i]]⟩) (hb:B64 w) (hi:i≤900000000) (ox:OkD x) (oy:OkD y)
 (hQ:∀ t:Dyadic,OkD t→InS x y t→Q (NU (nuOf t)) (updS S k (some ⟨bb,2,0,[[W64 w,i64 ((i + 1:Nat):Int)]]⟩))):PFC Tryz.prog 81 [.ptr k bb 0 0 2,IV (ivD x y)] S Q:=by
 unfold ivD
 have d1:=@dr 6 qI23_81_6
 refine PFB (rs:=[.cell 4 41]) Tryz.func81 ?_
 repeat (first|(with_reducible first|refine pv_seq fun K hK=>?_|((first|refine hK _ _ ?_|(clear hK;refine hK _ _ ?_)|(clear hK;clear hK;refine hK _ _ ?_));clear hK;try clear K))| refine W0 ?_|exact Z|with_reducible intro b)
 refine p_dN (n:=9) (i:=i) (by simp -implicitDefEqProofs only [updS,upS];exact hS) hb (by omega) (by decide) (by decide) (fun r hr=>?_)
 repeat (first|(with_reducible first|refine pv_seq fun K hK=>?_|((first|refine hK _ _ ?_|(clear hK;refine hK _ _ ?_)|(clear hK;clear hK;refine hK _ _ ?_));clear hK;try clear K))| refine W0 ?_|exact Z|with_reducible intro b)
 by_cases h0:r=0
 ·have hq:=hQ x ox (.inl rfl)
  have ft:=(eq_true h0)
  repeat (first|(with_reducible first|refine pv_seq fun K hK=>?_|((first|refine hK _ _ ?_|(clear hK;refine hK _ _ ?_)|(clear hK;clear hK;refine hK _ _ ?_));clear hK;try clear K))| refine W0 ?_|exact Z|with_reducible intro b)
  exact hq
 ·by_cases h8:r=8
  ·have hq:=hQ y oy (.inr (.inl rfl))
   have h8':((r:Int)=8)=True:=eq_true (by omega)
   have ft:=And.intro (eq_false h0) h8'
   repeat (first|(with_reducible first|refine pv_seq fun K hK=>?_|((first|refine hK _ _ ?_|(clear hK;refine hK _ _ ?_)|(clear hK;clear hK;refine hK _ _ ?_));clear hK;try clear K))| refine W0 ?_|exact Z|with_reducible intro b)
   exact hq
  ·have h8':((r:Int)=8)=False:=eq_false (by omega)
   have o1:=p_rOf ox;have o2:=p_rOf oy
   have e1:(8:Int) - r=((8 - r:Nat):Int):=by omega
   have w1:=p_rWhole (n:=((8 - r:Nat):Int)) (by unfold R64;omega)
   rw [decide_eq_false (by omega),Int.natAbs_natCast] at w1
   have w2:=p_rWhole (n:=(r:Int)) (by unfold R64;omega)
   rw [decide_eq_false (by omega),Int.natAbs_natCast] at w2
   have z1:Bd 65536 (dy false (8 - r) 0):=(OkD_word (by omega) (by omega) (by omega)).bd
   have z2:Bd 65536 (dy false r 0):=(OkD_word (by omega) (by omega) (by omega)).bd
   have b1:=p_rBy ox.bd z1 (by decide)
   have b2:=p_rBy oy.bd z2 (by decide)
   have v1:=ox.bd.mul z1
   have v2:=oy.bd.mul z2
   have pl:=p_rPlus v1 v2 (by decide)
   have v3:=v1.add v2
   have pN:=p_rNum (evD_bd v3) (by decide)
   have hm:mixD x y r=evD (x * dy false (8 - r) 0 + y * dy false r 0):=rfl
   have hin:∀ t,numR (mixD x y r)=t→(t.2=0→OkD (mixD x y r)∧t.1=nuOf (mixD x y r)):=by
    rintro t rfl h
    unfold numR at *
    split at h
    ·rename_i h2;rw [if_pos h2];exact ⟨h2,rfl⟩
    ·simp at h
   have hQ1:=hQ x ox (.inl rfl)
   have hQ2:∀ t:Nu × Int,numR (mixD x y r)=t→t.2=0→Q (NU t.1) (updS S k (some ⟨bb,2,0,[[W64 w,i64 ((i + 1:Nat):Int)]]⟩)):=fun t h1 h2=>by
    obtain ⟨a1,a2⟩:=hin t h1 h2
    rw [a2];exact hQ _ a1 (.inr (.inr ⟨r,by omega,by omega,rfl⟩))
   rw [← hm] at pN
   clear hin hQ
   have sV:=p_rSign (d:=x * dy false (8 - r) 0 + y * dy false r 0)
   generalize numR (mixD x y r)=q at *
   have hQ2:=hQ2 q rfl
   have hR:R64 (fE (x * dy false (8 - r) 0 + y * dy false r 0) - 3):=by have:=v3.2.1;have:=v3.2.2;unfold R64;omega
   obtain ⟨⟨n3,e3,w3⟩,er⟩:=q
   rw [hm] at pN
   generalize dy false (8 - r) 0=u1 at *
   generalize dy false r 0=u2 at *
   by_cases hv:x * u1 + y * u2=0
   ·have kv:(sgnD (x * u1 + y * u2)=0)=True:=eq_true (sgnD_zero.2 hv)
    rw [hv,evD_zero] at pN
    rw [hv] at kv sV pl
    generalize x * u1=t1 at *
    generalize y * u2=t2 at *
    generalize sgnD 0=g at *
    unfold VA at *
    by_cases her:er=0
    ·have hq:=hQ2 her
     have her':=eq_true her
     have ft:=And.intro (eq_false h0) (And.intro h8' (And.intro kv (And.intro her' e1)))
     repeat (first|(with_reducible first|refine pv_seq fun K hK=>?_|((first|refine hK _ _ ?_|(clear hK;refine hK _ _ ?_)|(clear hK;clear hK;refine hK _ _ ?_));clear hK;try clear K))| refine W ?_|exact Z|with_reducible intro b)
     exact hq
    ·have her':=eq_false her
     have ft:=And.intro (eq_false h0) (And.intro h8' (And.intro kv (And.intro her' e1)))
     repeat (first|(with_reducible first|refine pv_seq fun K hK=>?_|((first|refine hK _ _ ?_|(clear hK;refine hK _ _ ?_)|(clear hK;clear hK;refine hK _ _ ?_));clear hK;try clear K))| refine W ?_|exact Z|with_reducible intro b)
     exact hQ1
   ·have kv:(sgnD (x * u1 + y * u2)=0)=False:=eq_false (fun h=>hv (sgnD_zero.1 h))
    rw [VA_ev hv] at pN
    generalize x * u1 + y * u2=v at *
    generalize x * u1=t1 at *
    generalize y * u2=t2 at *
    generalize sgnD v=g at *
    unfold VA at *
    by_cases her:er=0
    ·have hq:=hQ2 her
     have her':=eq_true her
     have ft:=And.intro (eq_false h0) (And.intro h8' (And.intro kv (And.intro her' e1)))
     repeat (first|(with_reducible first|refine pv_seq fun K hK=>?_|((first|refine hK _ _ ?_|(clear hK;refine hK _ _ ?_)|(clear hK;clear hK;refine hK _ _ ?_));clear hK;try clear K))| refine W ?_|exact Z|with_reducible intro b)
     exact hq
    ·have her':=eq_false her
     have ft:=And.intro (eq_false h0) (And.intro h8' (And.intro kv (And.intro her' e1)))
     repeat (first|(with_reducible first|refine pv_seq fun K hK=>?_|((first|refine hK _ _ ?_|(clear hK;refine hK _ _ ?_)|(clear hK;clear hK;refine hK _ _ ?_));clear hK;try clear K))| refine W ?_|exact Z|with_reducible intro b)
     exact hQ1
end Go.V
namespace Go.V
open Go Go.RowKit Go.Proofs
def qI24_82_1:PT:=(.lin [(0,0),(1,2),(3,0)] (.fork 2 3 (.lin [(4,4),(5,3),(6,3),(7,3)] .nil) 4 4 (.lin [(2,3),(5,3),(6,3),(7,3)] .nil)))
attribute [go_sem] qI24_82_1
set_option maxHeartbeats 1000000 in
theorem p_dPart {k:Nm} {S:Store} {Q:D→Store→Prop} {bb i:Nat} {w:List Nat} {x y:Dyadic} (hS:S k=some ⟨bb,2,0,[[W64 w,i64 i]]⟩) (hb:B64 w) (hi:i≤800000000) (ox:OkD x) (oy:OkD y)
 (hQ:∀ t u:Dyadic,OkD t→OkD u→InS x y t→InS x y u→Q (IV (ivD (loD t u) (hiD t u))) (updS S k (some ⟨bb,2,0,[[W64 w,i64 ((i + 2:Nat):Int)]]⟩))):PFC Tryz.prog 82 [.ptr k bb 0 0 2,IV (ivD x y)] S Q:=by
 unfold ivD
 have d1:=@dr 1 qI24_82_1
 refine PFB (rs:=[.cell 4 51]) Tryz.func82 ?_
 repeat (first|(with_reducible first|refine pv_seq fun K hK=>?_|((first|refine hK _ _ ?_|(clear hK;refine hK _ _ ?_)|(clear hK;clear hK;refine hK _ _ ?_));clear hK;try clear K))| refine W0 ?_|exact Z|with_reducible intro b)
 refine And.intro ?_ ?_
 ·repeat (first|(with_reducible first|refine pv_seq fun K hK=>?_|((first|refine hK _ _ ?_|(clear hK;refine hK _ _ ?_)|(clear hK;clear hK;refine hK _ _ ?_));clear hK;try clear K))| refine W0 ?_|exact Z|with_reducible intro b)
  refine p_dIn (i:=i) (x:=x) (y:=y) (by simp -implicitDefEqProofs only [updS,upS];exact hS) hb (by omega) ox oy (fun t ot ht=>?_)
  repeat (first|(with_reducible first|refine pv_seq fun K hK=>?_|((first|refine hK _ _ ?_|(clear hK;refine hK _ _ ?_)|(clear hK;clear hK;refine hK _ _ ?_));clear hK;try clear K))| refine W0 ?_|exact Z|with_reducible intro b)
  refine p_dIn (i:=i + 1) (x:=x) (y:=y) (by simp -implicitDefEqProofs only [updS,upS,if_true];rfl) hb (by omega) ox oy (fun u ou hu=>?_)
  have pB:=p_Between ot ou
  have hq:=hQ t u ot ou ht hu
  repeat (first|(with_reducible first|refine pv_seq fun K hK=>?_|((first|refine hK _ _ ?_|(clear hK;refine hK _ _ ?_)|(clear hK;clear hK;refine hK _ _ ?_));clear hK;try clear K))| refine W ?_|exact Z|with_reducible intro b)
  simp only [updS_updS]
  exact hq
 ·repeat (first|(with_reducible first|refine pv_seq fun K hK=>?_|((first|refine hK _ _ ?_|(clear hK;refine hK _ _ ?_)|(clear hK;clear hK;refine hK _ _ ?_));clear hK;try clear K))| refine W0 ?_|exact Z|with_reducible intro b)
  refine p_dIn (i:=i) (x:=x) (y:=y) (by simp -implicitDefEqProofs only [updS,upS];exact hS) hb (by omega) ox oy (fun t ot ht=>?_)
  repeat (first|(with_reducible first|refine pv_seq fun K hK=>?_|((first|refine hK _ _ ?_|(clear hK;refine hK _ _ ?_)|(clear hK;clear hK;refine hK _ _ ?_));clear hK;try clear K))| refine W0 ?_|exact Z|with_reducible intro b)
  refine p_dIn (i:=i + 1) (x:=x) (y:=y) (by simp -implicitDefEqProofs only [updS,upS,if_true];rfl) hb (by omega) ox oy (fun u ou hu=>?_)
  have pB:=p_Between ot ou
  have hq:=hQ t u ot ou ht hu
  repeat (first|(with_reducible first|refine pv_seq fun K hK=>?_|((first|refine hK _ _ ?_|(clear hK;refine hK _ _ ?_)|(clear hK;clear hK;refine hK _ _ ?_));clear hK;try clear K))| refine W ?_|exact Z|with_reducible intro b)
  simp only [updS_updS]
  exact hq
end Go.V
namespace Go.V
open Go Go.RowKit Go.Proofs
theorem Sm.zero {k p:Nat}:Sm k p 0:=⟨0,by rw [show Dyadic.ofIntWithPrec 0 p=Go.V.dy false 0 (-(p:Int)) by unfold Go.V.dy;rw [Int.neg_neg];rfl,dy0],Nat.two_pow_pos k⟩
theorem Sm.one:Sm 1 0 1:=⟨1,by decide,by decide⟩
theorem powD_sm {k q:Nat} {x:Dyadic} (h:Sm k q x):∀ j,Sm (1 + k * j) (q * j) (powD x j)
 | 0=>Sm.one
 | j + 1=>by
   have:=(powD_sm h j).mul h
   rw [show 1 + k * (j + 1)=1 + k * j + k by rw [Nat.mul_add];omega,show q * (j + 1)=q * j + q by rw [Nat.mul_add];omega]
   exact this
theorem minP_sm {k q m r:Nat} {x y u v:Dyadic} (hx:Sm k q x) (hy:Sm k q y) (hu:Sm m r u) (hv:Sm m r v):Sm (k + m) (q + r) (minP x y u v):=by
 rcases (minP_spec x y u v).2 with e|e|e|e<;>rw [e]
 ·exact hx.mul hu
 ·exact hx.mul hv
 ·exact hy.mul hu
 ·exact hy.mul hv
theorem maxP_sm {k q m r:Nat} {x y u v:Dyadic} (hx:Sm k q x) (hy:Sm k q y) (hu:Sm m r u) (hv:Sm m r v):Sm (k + m) (q + r) (maxP x y u v):=by
 rcases (maxP_spec x y u v).2 with e|e|e|e<;>rw [e]
 ·exact hx.mul hu
 ·exact hx.mul hv
 ·exact hy.mul hu
 ·exact hy.mul hv
theorem loD_sm {k q:Nat} {x y:Dyadic} (hx:Sm k q x) (hy:Sm k q y):Sm k q (loD x y):=by unfold loD;split<;>assumption
theorem hiD_sm {k q:Nat} {x y:Dyadic} (hx:Sm k q x) (hy:Sm k q y):Sm k q (hiD x y):=by unfold hiD;split<;>assumption
theorem loP_sm {k q j:Nat} {x y:Dyadic} (hx:Sm k q x) (hy:Sm k q y):Sm (1 + k * j) (q * j) (loP x y j):=by
 unfold loP;split
 ·exact Sm.zero
 ·exact loD_sm (powD_sm hx j) (powD_sm hy j)
theorem hiP_sm {k q j:Nat} {x y:Dyadic} (hx:Sm k q x) (hy:Sm k q y):Sm (1 + k * j) (q * j) (hiP x y j):=hiD_sm (powD_sm hx j) (powD_sm hy j)
theorem Sm.rdOk {k q p:Nat} {up:Bool} {v:Dyadic} (h:Sm k q v) (hk:k≤2000) (hq:q≤2000) (h8:8≤p) (h256:p≤256):OkD (Go.V.rd p up v):=((h.bx).rd (by omega)).ok (by omega) (by omega)
theorem outR_ok {p:Nat} {l h:Dyadic} (ol:OkD (rd p false l)) (oh:OkD (rd p true h)):outR p l h=(ivD (rd p false l) (rd p true h),0):=by
 unfold outR
 rw [numR_ok ol,numR_ok oh];rfl
theorem rightI_yes {x y:Dyadic} (hx:OkD x) (hy:OkD y) (h:x≤y):rightI (ivD x y)=true:=by rw [rightI_D hx hy];exact decide_eq_true h
theorem ivD_l {x y:Dyadic}:(ivD x y).lo.val=x:=val_nuOf x
theorem ivD_h {x y:Dyadic}:(ivD x y).hi.val=y:=val_nuOf y
theorem opI_ok {p:Nat} {x y u v l h:Dyadic} (ox:OkD x) (oy:OkD y) (ou:OkD u) (ov:OkD v) (hxy:x≤y) (huv:u≤v) (h8:8≤p) (h256:p≤256) (ol:OkD (rd p false l)) (oh:OkD (rd p true h)):opI (ivD x y) (ivD u v) p l h=(ivD (rd p false l) (rd p true h),0):=by
 unfold opI
 rw [rightI_yes ox oy hxy,rightI_yes ou ov huv,okP_of h8 h256]
 exact outR_ok ol oh
theorem pwI_ok {p j:Nat} {x y:Dyadic} (ox:OkD x) (oy:OkD y) (hxy:x≤y) (h8:8≤p) (h256:p≤256) (hj:j≤8) (ol:OkD (rd p false (loP x y j))) (oh:OkD (rd p true (hiP x y j))):pwI (ivD x y) (j:Int) p=(ivD (rd p false (loP x y j)) (rd p true (hiP x y j)),0):=by
 unfold pwI
 rw [rightI_yes ox oy hxy,okP_of h8 h256,decide_eq_true (by omega),decide_eq_true (by omega),ivD_l,ivD_h]
 exact outR_ok ol oh
theorem endsR_in {l h l' h':Dyadic} (o1:OkD l) (o2:OkD h) (o3:OkD l') (o4:OkD h') (h1:l≤l') (h2:l'≤h') (h3:h'≤h):endsR (ivD l' h') (ivD l h) 0=true:=by
 unfold endsR
 rw [rightI_yes o3 o4 h2,rightI_yes o1 o2 (by grind),ivD_l,ivD_h,ivD_l,ivD_h]
 have e1:(0:Int)≤cmpD l' l:=by rw [cmpD_0le];exact h1
 have e2:(0:Int)≤cmpD h h':=by rw [cmpD_0le];exact h3
 rw [decide_eq_true e1,decide_eq_true e2];rfl
end Go.V
namespace Go.V
open Go Go.RowKit Go.Proofs
attribute [go_sem] eI_0 eU_0
def gI (l:List Iv) (i:Nat):Iv:=l.getD i iv0
theorem gI_at {l:List Iv} {i:Nat} (h:i<l.length):l[i]? = some (gI l i):=by simp [gI,List.getD,List.getElem?_eq_getElem h]
theorem gI_mem {l:List Iv} {i:Nat} (h:i<l.length):gI l i ∈ l:=List.mem_of_getElem? (gI_at h)
end Go.V
namespace Go.V
open Go Go.RowKit Go.Proofs
inductive Box (p:Prop):Type where
 | a
 | b
structure Hid (p:Prop) (x:Box p:=.a):Prop where
 out:p
theorem hide (I0:DEnv→Store→Prop):∃ I:DEnv→Store→Prop,(∀ e S,I0 e S→I e S)∧∀ e S,I e S→I0 e S:=⟨I0,fun _ _ h=>h,fun _ _ h=>h⟩
def addI (p:Int) (a b:Iv):Iv × Int:=opI a b p (a.lo.val + b.lo.val) (a.hi.val + b.hi.val)
def mulI (p:Int) (a b:Iv):Iv × Int:=opI a b p (minP a.lo.val a.hi.val b.lo.val b.hi.val) (maxP a.lo.val a.hi.val b.lo.val b.hi.val)
theorem opI_err {a b:Iv} {p:Int} {l h:Dyadic} (h1:(opI a b p l h).2≠0):(opI a b p l h).1=iv0:=by
 revert h1
 unfold opI outR
 split
 ·split
  ·split
   ·intro h;exact absurd rfl h
   ·intro _;rfl
  ·intro _;rfl
 ·intro _;rfl
theorem wl0:Wl 65536 nu0:=by rw [← nuOf_zero];exact (OkD.zero.sz).wl
theorem wi0:Wi 65536 iv0:=⟨wl0,wl0⟩
theorem opI_wi {a b:Iv} {p:Int} {l h:Dyadic}:Wi 65536 (opI a b p l h).1:=by
 unfold opI outR numR
 by_cases h1:(nuOf (rd p.toNat false l)).Ok<;>by_cases h2:(nuOf (rd p.toNat true h)).Ok
 ·have o1:OkD (rd p.toNat false l):=h1
  have o2:OkD (rd p.toNat true h):=h2
  rw [if_pos h1,if_pos h2]
  split
  ·exact wi_D o1 o2
  ·exact wi0
 ·rw [if_pos h1,if_neg h2];split<;>exact wi0
 ·rw [if_neg h1];split<;>exact wi0
 ·rw [if_neg h1];split<;>exact wi0
structure Mo where
 c:Nu
 e:List Int
def mo0:Mo:=⟨nu0,[]⟩
def gM (l:List Mo) (i:Nat):Mo:=l.getD i mo0
def cmpE:List Int→List Int→Int
 | [],[]=>0
 | [],_ :: _ => -1
 | _ :: _,[]=>1
 | x :: a,y :: b=>if x<y then -1 else if y<x then 1 else cmpE a b
theorem cmpE_self:∀ a,cmpE a a=0
 | []=>rfl
 | x :: a=>by unfold cmpE;rw [if_neg (by omega),if_neg (by omega)];exact cmpE_self a
def monoB (m:Mo) (n:Int):Bool:=decide ((m.e.length:Int)=n) && decide (∀ x ∈ m.e,0≤x) && decide (m.e.sum≤8) && rightB m.c
def monosB (q:List Mo) (n:Int):Bool:=decide (∀ i,i<q.length→monoB (gM q i) n=true∧(gM q i).c.w≠[]∧(0<i→cmpE (gM q i).e (gM q (i - 1)).e<0))
def polyB (q:List Mo) (n:Int):Bool:=decide (1≤n) && decide (n≤4) && decide (q.length≤24) && monosB q n
end Go.V
namespace Go.V
open Go Go.RowKit Go.Proofs
def cI (a:Iv):List D:=[bl a.lo.neg,i64 a.lo.exp,W64 a.lo.w,bl a.hi.neg,i64 a.hi.exp,W64 a.hi.w]
end Go.V
