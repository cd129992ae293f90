/- Intervals: plain laws. No program, no model. Intervals: parts of the operands, powers, quotients; plain laws. No program, no model. Package iv over values as data: which intervals are right, copies, sums and differences, products. Package iv over values as data: what lies in what, hull, meet, opposites, amounts. Package iv over values as data: meet, opposites, amounts; outward, sums, differences, products. Package iv over values as data: sums, differences, products. The document's intervals over values as data: which are right, what lies in what, hull, meet, opposites, amounts. The document's intervals over values as data: least, greatest product, powers, ends. The statements' own small functions of layer 5: light. Package iv over values as data: products, quotients. Package iv over values as data: quotients. Package iv over values as data: width. Package iv over values as data: middles. Package iv over values as data: radius. The document's intervals over values as data: quotients, the four operations. The document's intervals over values as data: sums, differences, products, quotients. Package iv over values as data: powers. The document's intervals over values as data: powers. The seat's deck: intervals, numbers and parts of intervals. The seat's deck: numbers in intervals, parts of intervals. The seat's deck: parts of intervals. The statements IvDrawn, IvFour of layer 5. Intervals of small numbers: what is reckoned of them fits; parts of the operands. Boxes and pieces over values as data: packages box and record. Series of intervals, plainly: coefficients of products, of polynomials, sums. Package series over values as data: coefficients of products; the document's. Monomials over values as data: which lists of them are polynomials. Which lists of monomials are polynomials: package poly's, the document's. The document's series over values as data: coefficients of products. Package series over values as data: products of series, monomials of series; the document's products. Package series over values as data: coefficients of polynomials of series. Plain laws of intervals of small numbers: sums, products, what they hold, parts of them; coefficients and sums of series. Series at a point over values as data: package series, the document. Intervals that are points, exactly; the statements' own known series. The seat's deck: boxes of small intervals, points in boxes, boxes in boxes; is a value within an interval? -/
import Derived.Test.YtgapammfekmihaaGreatDoorZbPX
import Derived.Test.YtgapammfekmihaaGreatDoorZbPZ
import Derived.Test.YtgapammfekmihaaGreatDoorZbPY
import Derived.Test.YtgapammfekmihaaGreatDoorZbPR
import Derived.Test.YtgapammfekmihaaGreatDoorZbPS
set_option linter.unusedVariables false
set_option linter.unusedSimpArgs false
set_option maxRecDepth 100000
namespace Go.V
open Go
theorem nn_mul {a b:Dyadic} (ha:0≤a) (hb:0≤b):0≤a * b:=by
 apply Dyadic.toRat_le_toRat_iff.1
 rw [Dyadic.toRat_mul]
 exact Rat.mul_nonneg (Dyadic.toRat_le_toRat_iff.2 ha) (Dyadic.toRat_le_toRat_iff.2 hb)
def loD (a b:Dyadic):Dyadic:=if b<a then b else a
def hiD (a b:Dyadic):Dyadic:=if a<b then b else a
theorem loD_le (a b:Dyadic):loD a b≤a∧loD a b≤b∧(loD a b=a∨loD a b=b):=by
 unfold loD;split
 ·exact ⟨by grind,by grind,.inr rfl⟩
 ·exact ⟨by grind,by grind,.inl rfl⟩
theorem hiD_ge (a b:Dyadic):a≤hiD a b∧b≤hiD a b∧(hiD a b=a∨hiD a b=b):=by
 unfold hiD;split
 ·exact ⟨by grind,by grind,.inr rfl⟩
 ·exact ⟨by grind,by grind,.inl rfl⟩
def minP (x y u v:Dyadic):Dyadic:=loD (loD (loD (x * u) (x * v)) (y * u)) (y * v)
def maxP (x y u v:Dyadic):Dyadic:=hiD (hiD (hiD (x * u) (x * v)) (y * u)) (y * v)
def leastR (x y u v:Dyadic):Dyadic :=
 if 0≤x∧0≤u then x * u else if 0≤x then y * u else if 0≤u then x * v else if y≤0∧v≤0 then y * v else if y * u<x * v then y * u else x * v
theorem minP_spec (x y u v:Dyadic):(minP x y u v≤x * u∧minP x y u v≤x * v∧minP x y u v≤y * u∧minP x y u v≤y * v)∧(minP x y u v=x * u∨minP x y u v=x * v∨minP x y u v=y * u∨minP x y u v=y * v):=by
 unfold minP
 have h1:=loD_le (x * u) (x * v)
 generalize loD (x * u) (x * v)=m1 at *
 have h2:=loD_le m1 (y * u)
 generalize loD m1 (y * u)=m2 at *
 have h3:=loD_le m2 (y * v)
 generalize loD m2 (y * v)=m3 at *
 grind
theorem maxP_spec (x y u v:Dyadic):(x * u≤maxP x y u v∧x * v≤maxP x y u v∧y * u≤maxP x y u v∧y * v≤maxP x y u v)∧(maxP x y u v=x * u∨maxP x y u v=x * v∨maxP x y u v=y * u∨maxP x y u v=y * v):=by
 unfold maxP
 have h1:=hiD_ge (x * u) (x * v)
 generalize hiD (x * u) (x * v)=m1 at *
 have h2:=hiD_ge m1 (y * u)
 generalize hiD m1 (y * u)=m2 at *
 have h3:=hiD_ge m2 (y * v)
 generalize hiD m2 (y * v)=m3 at *
 grind
theorem leastR_eq {x y u v:Dyadic} (hx:x≤y) (hu:u≤v):leastR x y u v=minP x y u v:=by
 have s:=minP_spec x y u v
 generalize minP x y u v=m at *
 have p1:0≤x→0≤x * (v - u):=fun h=>nn_mul h (by grind)
 have p2:0≤y→0≤y * (v - u):=fun h=>nn_mul h (by grind)
 have p3:0≤u→0≤(y - x) * u:=fun h=>nn_mul (by grind) h
 have p4:0≤v→0≤(y - x) * v:=fun h=>nn_mul (by grind) h
 have n1:x≤0→0≤(-x) * (v - u):=fun h=>nn_mul (by grind) (by grind)
 have n2:y≤0→0≤(-y) * (v - u):=fun h=>nn_mul (by grind) (by grind)
 have n3:u≤0→0≤(y - x) * (-u):=fun h=>nn_mul (by grind) (by grind)
 have n4:v≤0→0≤(y - x) * (-v):=fun h=>nn_mul (by grind) (by grind)
 unfold leastR
 by_cases a1:0≤x
 ·by_cases a2:0≤u
  ·rw [if_pos ⟨a1,a2⟩]
   have q1:=p1 a1;have q2:=p3 a2;have q3:=p2 (by grind)
   grind
  ·rw [if_neg (fun h=>a2 h.2),if_pos a1]
   have q1:=n3 (by grind);have q2:=p2 (by grind);have q3:=p1 a1
   grind
 ·rw [if_neg (fun h=>a1 h.1),if_neg a1]
  by_cases a2:0≤u
  ·rw [if_pos a2]
   have q1:=n1 (by grind);have q2:=p4 (by grind);have q3:=p3 a2
   grind
  ·rw [if_neg a2]
   by_cases a3:y≤0∧v≤0
   ·rw [if_pos a3]
    have q1:=n2 a3.1;have q2:=n4 a3.2;have q3:=n1 (by grind);have q4:=n3 (by grind)
    grind
   ·rw [if_neg a3]
    have r1:0≤(-x) * (-u):=nn_mul (by grind) (by grind)
    by_cases a4:y≤0
    ·have r2:0≤(-x) * v:=nn_mul (by grind) (by grind)
     have r3:0≤(-y) * (-u):=nn_mul (by grind) (by grind)
     have r4:0≤(y - x) * v:=nn_mul (by grind) (by grind)
     have r5:=n2 a4
     split<;>grind
    ·by_cases a5:v≤0
     ·have r2:0≤y * (-u):=nn_mul (by grind) (by grind)
      have r3:0≤y * (v - u):=p2 (by grind)
      have r4:0≤(-x) * (-v):=nn_mul (by grind) (by grind)
      split<;>grind
     ·have r2:0≤y * (-u):=nn_mul (by grind) (by grind)
      have r3:0≤(-x) * v:=nn_mul (by grind) (by grind)
      have r4:0≤y * v:=nn_mul (by grind) (by grind)
      split<;>grind
theorem prod_in {x y u v a b:Dyadic} (h1:x≤a) (h2:a≤y) (h3:u≤b) (h4:b≤v):minP x y u v≤a * b∧a * b≤maxP x y u v:=by
 have s:=minP_spec x y u v
 have t:=maxP_spec x y u v
 generalize minP x y u v=m at *
 generalize maxP x y u v=n at *
 obtain ⟨⟨s1,s2,s3,s4⟩,_⟩:=s
 obtain ⟨⟨t1,t2,t3,t4⟩,_⟩:=t
 have key:∀ c:Dyadic,m≤c * u→m≤c * v→c * u≤n→c * v≤n→m≤c * b∧c * b≤n:=by
  intro c c1 c2 c3 c4
  by_cases hc:0≤c
  ·have p1:0≤c * (b - u):=nn_mul hc (by grind)
   have p2:0≤c * (v - b):=nn_mul hc (by grind)
   grind
  ·have p1:0≤(-c) * (b - u):=nn_mul (by grind) (by grind)
   have p2:0≤(-c) * (v - b):=nn_mul (by grind) (by grind)
   grind
 have k1:=key x s1 s2 t1 t2
 have k2:=key y s3 s4 t3 t4
 by_cases hb:0≤b
 ·have p1:0≤(a - x) * b:=nn_mul (by grind) hb
  have p2:0≤(y - a) * b:=nn_mul (by grind) hb
  grind
 ·have p1:0≤(a - x) * (-b):=nn_mul (by grind) (by grind)
  have p2:0≤(y - a) * (-b):=nn_mul (by grind) (by grind)
  grind
end Go.V
namespace Go.V
open Go
def powD (x:Dyadic):Nat→Dyadic
 | 0=>1
 | k + 1=>powD x k * x
theorem powD_nn {x:Dyadic} (h:0≤x):∀ k,0≤powD x k
 | 0=>by show (0:Dyadic)≤1;decide
 | k + 1=>nn_mul (powD_nn h k) h
theorem powD_mono {x y:Dyadic} (h0:0≤x) (h:x≤y):∀ k,powD x k≤powD y k
 | 0=>by show (1:Dyadic)≤1;grind
 | k + 1=>by
   have ih:=powD_mono h0 h k
   have p1:0≤(powD y k - powD x k) * x:=nn_mul (by grind) h0
   have p2:0≤powD y k * (y - x):=nn_mul (powD_nn (by grind) k) (by grind)
   show powD x k * x≤powD y k * y
   grind
theorem powD_neg (x:Dyadic):∀ k,powD (-x) k=if k % 2=0 then powD x k else - powD x k
 | 0=>rfl
 | k + 1=>by
   show powD (-x) k * -x=if (k + 1) % 2=0 then powD x k * x else -(powD x k * x)
   rw [powD_neg x k]
   by_cases h:k % 2=0
   ·rw [if_pos h,if_neg (by omega)];grind
   ·rw [if_neg h,if_pos (by omega)];grind
theorem powD_zero {k:Nat} (h:0<k):powD 0 k=0:=by
 cases k with
 | zero=>omega
 | succ k=>show powD 0 k * 0=0;grind
def loP (x y:Dyadic) (k:Nat):Dyadic:=if 0<k∧k % 2=0∧x≤0∧0≤y then 0 else loD (powD x k) (powD y k)
def hiP (x y:Dyadic) (k:Nat):Dyadic:=hiD (powD x k) (powD y k)
theorem pow_in {x y t:Dyadic} {k:Nat} (h1:x≤t) (h2:t≤y):loP x y k≤powD t k∧powD t k≤hiP x y k:=by
 have s1:=loD_le (powD x k) (powD y k)
 have s2:=hiD_ge (powD x k) (powD y k)
 unfold loP hiP
 generalize loD (powD x k) (powD y k)=m at *
 generalize hiD (powD x k) (powD y k)=n at *
 have nt:=powD_neg t k
 have nx:=powD_neg x k
 have ny:=powD_neg y k
 by_cases ht:0≤t
 ·have a1:=powD_mono ht h2 k
  have a2:=powD_nn ht k
  by_cases hx:0≤x
  ·have a3:=powD_mono hx h1 k
   have a4:=powD_nn hx k
   by_cases hc:0<k∧k % 2=0∧x≤0∧0≤y
   ·rw [if_pos hc];constructor<;>grind
   ·rw [if_neg hc];constructor<;>grind
  ·by_cases he:k % 2=0
   ·by_cases hk:0<k
    ·rw [if_pos ⟨hk,he,by grind,by grind⟩];constructor<;>grind
    ·obtain rfl:k=0:=by omega
     rw [if_neg (by simp)]
     have e1:powD x 0=1:=rfl
     have e2:powD t 0=1:=rfl
     have e3:powD y 0=1:=rfl
     constructor<;>grind
   ·rw [if_neg (by omega)]
    rw [if_neg he] at nx
    have a5:=powD_nn (x := -x) (by grind) k
    constructor<;>grind
 ·have b1:=powD_mono (x := -t) (y := -x) (by grind) (by grind) k
  have b2:=powD_nn (x := -t) (by grind) k
  by_cases he:k % 2=0
  ·rw [if_pos he] at nt nx ny
   by_cases hy:0≤y
   ·by_cases hk:0<k
    ·rw [if_pos ⟨hk,he,by grind,by grind⟩];constructor<;>grind
    ·obtain rfl:k=0:=by omega
     rw [if_neg (by simp)]
     have e1:powD x 0=1:=rfl
     have e2:powD t 0=1:=rfl
     constructor<;>grind
   ·have b3:=powD_mono (x := -y) (y := -t) (by grind) (by grind) k
    rw [if_neg (by intro h;exact hy h.2.2.2)]
    constructor<;>grind
  ·rw [if_neg he] at nt nx ny
   rw [if_neg (by omega)]
   by_cases hy:0≤y
   ·have b4:=powD_nn hy k
    constructor<;>grind
   ·have b3:=powD_mono (x := -y) (y := -t) (by grind) (by grind) k
    constructor<;>grind
end Go.V
namespace Go.V
open Go Go.RowKit Go.Proofs
def qI1_167_1:List (Nat × Nat):=[(0,1),(2,2),(1,4),(3,3),(4,0),(5,3)]
attribute [go_sem] qI1_167_1
structure Iv where
 lo:Nu
 hi:Nu
def IV (a:Iv):D:=.agg [bl a.lo.neg,i64 a.lo.exp,W64 a.lo.w,bl a.hi.neg,i64 a.hi.exp,W64 a.hi.w]
def IE (p:Iv × Int):D:=.tup [IV p.1,i64 p.2]
attribute [go_sem] IV IE
def iv0:Iv:=⟨nu0,nu0⟩
def rightI (a:Iv):Bool:=rightB a.lo && rightB a.hi && decide (a.lo.val≤a.hi.val)
structure Wi (k:Nat) (a:Iv):Prop where
 lo:Wl k a.lo
 hi:Wl k a.hi
def ivD (x y:Dyadic):Iv:=⟨nuOf x,nuOf y⟩
theorem rightI_is {k:Nat} {a:Iv} (h:Wi k a) (hr:rightI a=true):∃ x y,OkD x∧OkD y∧x≤y∧a=ivD x y:=by
 unfold rightI at hr
 rw [Bool.and_eq_true,Bool.and_eq_true,decide_eq_true_eq] at hr
 obtain ⟨lo,hi⟩:=a
 obtain ⟨x,hx,rfl⟩:=right_is h.lo.b hr.1.1
 obtain ⟨y,hy,rfl⟩:=right_is h.hi.b hr.1.2
 refine ⟨x,y,hx,hy,?_,rfl⟩
 have:=hr.2
 simp only [val_nuOf] at this
 exact this
theorem rightI_D {x y:Dyadic} (hx:OkD x) (hy:OkD y):rightI (ivD x y)=decide (x≤y):=by
 unfold rightI ivD
 simp only [rightB_nuOf,val_nuOf,decide_eq_true hx,decide_eq_true hy,Bool.true_and]
theorem wi_D {x y:Dyadic} (hx:OkD x) (hy:OkD y):Wi 65536 (ivD x y):=⟨(hx.sz).wl,(hy.sz).wl⟩
theorem cmpD_le0' {a b:Dyadic}:(cmpD a b≤0)=(a≤b):=by
 apply propext
 unfold cmpD
 by_cases h1:a<b
 ·rw [if_pos h1];constructor
  ·intro _;grind
  ·intro _;decide
 ·rw [if_neg h1]
  by_cases h2:b<a
  ·rw [if_pos h2];constructor
   ·intro h;exact absurd h (by decide)
   ·intro h;grind
  ·rw [if_neg h2];constructor
   ·intro _;grind
   ·intro _;decide
theorem p_iRight {k:Nat} {a:Iv} (h:Wi k a):PC Tryz.prog 85 [IV a] fun d=>d=bl (rightI a):=by
 have pX:=p_nRight h.lo.b
 have pY:=p_nRight h.hi.b
 have pC:rightB a.lo=true→rightB a.hi=true→PC Tryz.prog 88 [NU a.lo,NU a.hi] fun d=>d=i64 (cmpD a.lo.val a.hi.val):=fun h1 h2=>p_eCmp (right_sz h.lo.b h1) (right_sz h.hi.b h2) (by decide)
 unfold rightI
 have k3:decide (cmpD a.lo.val a.hi.val≤0)=decide (a.lo.val≤a.hi.val):=decide_eq_decide.2 (Iff.of_eq cmpD_le0')
 rw [← k3]
 clear k3
 generalize cmpD a.lo.val a.hi.val=c at *
 generalize rightB a.lo=r at *
 generalize rightB a.hi=s at *
 obtain ⟨⟨n1,e1,w1⟩,⟨n2,e2,w2⟩⟩:=a
 cases r
 ·refine PB (rs:=[.tmp 2]) Tryz.func85 ?_
  exact Wk
 ·cases s
  ·refine PB (rs:=[.tmp 2]) Tryz.func85 ?_
   exact Wk
  ·have pC:=pC rfl rfl
   refine PB (rs:=[.tmp 2]) Tryz.func85 ?_
   exact Wk
theorem p_copied {x:Nu} (hl:x.w.length≤1099511627776):PC Tryz.prog 188 [NU x] fun d=>d=NU x:=by
 obtain ⟨neg,exp,w⟩:=x
 simp only at hl
 refine PB (rs:=[.cell 2 41]) Tryz.func188 ?_
 repeat (first|(with_reducible first|refine pv_seq fun K hK=>?_|((first|refine hK _ _ ?_|(clear hK;refine hK _ _ ?_)|(clear hK;clear hK;refine hK _ _ ?_));clear hK;try clear K))| refine W0 ?_|exact Z|with_reducible intro b)
 refine ⟨by rw [rS_len];omega,by rw [rS_len];omega,fun h0=>?_,fun h0 b' cap'=>?_⟩
 ·obtain rfl:w=[]:=by have:=congrArg List.length h0;simpa [rS_len] using this
  exact Wk
 ·repeat (first|(with_reducible first|refine pv_seq fun K hK=>?_|refine pv_reg ?_)|((with_reducible first|refine hK _ _ ?_|(clear hK;refine hK _ _ ?_)|(clear hK;clear hK;refine hK _ _ ?_));clear hK;try clear K)|simp -implicitDefEqProofs only [List.drop_zero,List.take_length,optLL_rS,true_and,go_sem,seval]|with_reducible intro b|(with_reducible refine And.intro ?_ ?_;· first|assumption|omega|(unfold R64;omega)))
  try rfl
theorem p_ofI {x y:Nu} (hx:x.w.length≤1099511627776) (hy:y.w.length≤1099511627776):PC Tryz.prog 167 [NU x,NU y] fun d=>d=IV ⟨x,y⟩:=by
 have pX:=p_copied hx
 have pY:=p_copied hy
 obtain ⟨n1,e1,w1⟩:=x
 obtain ⟨n2,e2,w2⟩:=y
 have d1:=@dl 1 qI1_167_1
 refine PB (rs:=[.cell 4 51]) Tryz.func167 ?_
 exact Wk
theorem p_OfI {x:Nu} (hx:x.w.length≤1099511627776):PC Tryz.prog 122 [NU x] fun d=>d=IV ⟨x,x⟩:=by
 have pO:=p_ofI hx hx
 obtain ⟨n1,e1,w1⟩:=x
 refine PB (rs:=[.cell 2 51]) Tryz.func122 ?_
 exact Wk
end Go.V
namespace Go.V
open Go Go.RowKit Go.Proofs
def hasR (a:Iv) (x:Nu):Bool:=rightI a && rightB x && decide (a.lo.val≤x.val) && decide (x.val≤a.hi.val)
theorem rightI_lo {a:Iv} (h:rightI a=true):rightB a.lo=true∧rightB a.hi=true∧a.lo.val≤a.hi.val:=by
 unfold rightI at h
 rw [Bool.and_eq_true,Bool.and_eq_true,decide_eq_true_eq] at h
 exact ⟨h.1.1,h.1.2,h.2⟩
theorem p_HasI {k:Nat} {a:Iv} {x:Nu} (h:Wi k a) (hx:B64 x.w):PC Tryz.prog 42 [IV a,NU x] fun d=>d=bl (hasR a x):=by
 have pR:=p_iRight h
 have pX:=p_nRight hx
 have pC:rightI a=true→rightB x=true→(PC Tryz.prog 88 [NU a.lo,NU x] fun d=>d=i64 (cmpD a.lo.val x.val))∧(PC Tryz.prog 88 [NU x,NU a.hi] fun d=>d=i64 (cmpD x.val a.hi.val)):=fun h1 h2=>by
  obtain ⟨r1,r2,_⟩:=rightI_lo h1
  exact ⟨p_eCmp (right_sz h.lo.b r1) (right_sz hx h2) (by decide),p_eCmp (right_sz hx h2) (right_sz h.hi.b r2) (by decide)⟩
 unfold hasR
 have k1:(cmpD a.lo.val x.val≤0)=(a.lo.val≤x.val):=cmpD_le0'
 have k2:(cmpD x.val a.hi.val≤0)=(x.val≤a.hi.val):=cmpD_le0'
 generalize cmpD a.lo.val x.val=c1 at *
 generalize cmpD x.val a.hi.val=c2 at *
 have k3:decide (c1≤0)=decide (a.lo.val≤x.val):=decide_eq_decide.2 (Iff.of_eq k1)
 have k4:decide (c2≤0)=decide (x.val≤a.hi.val):=decide_eq_decide.2 (Iff.of_eq k2)
 rw [← k3,← k4]
 clear k1 k2 k3 k4
 generalize rightI a=r at *
 generalize rightB x=s at *
 obtain ⟨⟨n1,e1,w1⟩,⟨n2,e2,w2⟩⟩:=a
 obtain ⟨n3,e3,w3⟩:=x
 cases r
 ·refine PB (rs:=[.tmp 4]) Tryz.func42 ?_
  exact Wk
 ·cases s
  ·refine PB (rs:=[.tmp 4]) Tryz.func42 ?_
   exact Wk
  ·obtain ⟨q1,q2⟩:=pC rfl rfl
   by_cases h1:c1≤0
   ·rw [decide_eq_true h1]
    refine PB (rs:=[.tmp 4]) Tryz.func42 ?_
    have ft:=(eq_true h1)
    exact Wk
   ·rw [decide_eq_false h1]
    refine PB (rs:=[.tmp 4]) Tryz.func42 ?_
    have ft:=(eq_false h1)
    exact Wk
theorem cmpD_0le {a b:Dyadic}:(0≤cmpD a b)=(b≤a):=by
 apply propext
 unfold cmpD
 by_cases h1:a<b
 ·rw [if_pos h1];constructor
  ·intro h;exact absurd h (by decide)
  ·intro h;grind
 ·rw [if_neg h1];constructor
  ·intro _;grind
  ·intro _;split<;>decide
theorem cmpD_1le {a b:Dyadic}:(1≤cmpD a b)=(b<a):=by
 apply propext
 unfold cmpD
 by_cases h1:a<b
 ·rw [if_pos h1];constructor
  ·intro h;exact absurd h (by decide)
  ·intro h;grind
 ·rw [if_neg h1]
  by_cases h2:b<a
  ·rw [if_pos h2];exact ⟨fun _=>h2,fun _=>by decide⟩
  ·rw [if_neg h2];exact ⟨fun h=>absurd h (by decide),fun h=>absurd h h2⟩
def minN (x y:Nu):Nu:=if y.val<x.val then y else x
def maxN (x y:Nu):Nu:=if x.val<y.val then y else x
theorem minN_val (x y:Nu):(minN x y).val=loD x.val y.val:=by unfold minN loD;split<;>rfl
theorem maxN_val (x y:Nu):(maxN x y).val=hiD x.val y.val:=by unfold maxN hiD;split<;>rfl
theorem minN_sz {k:Nat} {x y:Nu} (hx:Sz k x) (hy:Sz k y):Sz k (minN x y):=by unfold minN;split<;>assumption
theorem maxN_sz {k:Nat} {x y:Nu} (hx:Sz k x) (hy:Sz k y):Sz k (maxN x y):=by unfold maxN;split<;>assumption
theorem cmpD_lt0 {a b:Dyadic}:(cmpD a b<0)=(a<b):=by
 have:=cmpD_0le (a:=a) (b:=b)
 apply propext
 rw [← Int.not_le,this]
 constructor
 ·intro h;grind
 ·intro h;grind
theorem cmpD_0lt {a b:Dyadic}:(0<cmpD a b)=(b<a):=by rw [← cmpD_1le];rfl
theorem p_least {k:Nat} {x y:Nu} (hx:Sz k x) (hy:Sz k y) (hk:k≤67108864):PC Tryz.prog 169 [NU x,NU y] fun d=>d=NU (minN x y):=by
 have pC:=p_eCmp hy hx hk
 have k1:(cmpD y.val x.val<0)=(y.val<x.val):=cmpD_lt0
 unfold minN
 by_cases h:y.val<x.val
 ·rw [if_pos h]
  rw [eq_true h] at k1
  generalize cmpD y.val x.val=c at *
  obtain ⟨n1,e1,w1⟩:=x
  obtain ⟨n2,e2,w2⟩:=y
  refine PB (rs:=[.cell 4 41]) Tryz.func169 ?_
  have ft:=k1
  exact Wk
 ·rw [if_neg h]
  rw [eq_false h] at k1
  generalize cmpD y.val x.val=c at *
  obtain ⟨n1,e1,w1⟩:=x
  obtain ⟨n2,e2,w2⟩:=y
  refine PB (rs:=[.cell 4 41]) Tryz.func169 ?_
  have ft:=k1
  exact Wk
theorem p_greatest {k:Nat} {x y:Nu} (hx:Sz k x) (hy:Sz k y) (hk:k≤67108864):PC Tryz.prog 170 [NU x,NU y] fun d=>d=NU (maxN x y):=by
 have pC:=p_eCmp hy hx hk
 have k1:(0<cmpD y.val x.val)=(x.val<y.val):=cmpD_0lt
 unfold maxN
 by_cases h:x.val<y.val
 ·rw [if_pos h]
  rw [eq_true h] at k1
  generalize cmpD y.val x.val=c at *
  obtain ⟨n1,e1,w1⟩:=x
  obtain ⟨n2,e2,w2⟩:=y
  refine PB (rs:=[.cell 4 41]) Tryz.func170 ?_
  have ft:=k1
  exact Wk
 ·rw [if_neg h]
  rw [eq_false h] at k1
  generalize cmpD y.val x.val=c at *
  obtain ⟨n1,e1,w1⟩:=x
  obtain ⟨n2,e2,w2⟩:=y
  refine PB (rs:=[.cell 4 41]) Tryz.func170 ?_
  have ft:=k1
  exact Wk
end Go.V
namespace Go.V
open Go Go.RowKit Go.Proofs
def outR (p:Nat) (l h:Dyadic):Iv × Int:=if (numR (rd p false l)).2=0 then (if (numR (rd p true h)).2=0 then (⟨(numR (rd p false l)).1,(numR (rd p true h)).1⟩,0) else (iv0,2)) else (iv0,2)
theorem numR_err {d:Dyadic}:(numR d).2≠0→(numR d).2=2:=by
 unfold numR;split
 ·intro h;exact absurd rfl h
 ·intro _;rfl
theorem p_outward {k p:Nat} {x y:Nu} (hx:Sz k x) (hy:Sz k y) (hk:k≤16000000) (hp:p≤1024):PC Tryz.prog 126 [NU x,NU y,i64 p] fun d=>d=IE (outR p x.val y.val):=by
 have pL:=p_roundV (p:=p) (up:=false) hx hk hp
 have pH:=p_roundV (p:=p) (up:=true) hy hk hp
 unfold outR
 have e1:=numR_err (d:=rd p false x.val)
 have e2:=numR_err (d:=rd p true y.val)
 generalize numR (rd p false x.val)=q at *
 generalize numR (rd p true y.val)=r at *
 obtain ⟨⟨n1,x1,w1⟩,r1⟩:=q
 obtain ⟨⟨n2,x2,w2⟩,r2⟩:=r
 simp only at e1 e2
 obtain ⟨n3,x3,w3⟩:=x
 obtain ⟨n4,x4,w4⟩:=y
 by_cases h1:r1=0
 ·rw [if_pos h1]
  by_cases h2:r2=0
  ·rw [if_pos h2]
   refine PB (rs:=[.cell 6 51,.tmp 7]) Tryz.func126 ?_
   have ft:=And.intro (eq_true h1) (eq_true h2)
   exact Wk
  ·rw [if_neg h2]
   have h3:=e2 h2
   refine PB (rs:=[.cell 6 51,.tmp 7]) Tryz.func126 ?_
   have ft:=And.intro (eq_true h1) (eq_false h2)
   repeat (first|(with_reducible first|refine pv_seq fun K hK=>?_|((first|refine hK _ _ ?_|(clear hK;refine hK _ _ ?_)|(clear hK;clear hK;refine hK _ _ ?_));clear hK;try clear K))| refine W ?_|exact Z|with_reducible intro b)
   rw [h3];rfl
 ·rw [if_neg h1]
  have h3:=e1 h1
  refine PB (rs:=[.cell 6 51,.tmp 7]) Tryz.func126 ?_
  have ft:=(eq_false h1)
  repeat (first|(with_reducible first|refine pv_seq fun K hK=>?_|((first|refine hK _ _ ?_|(clear hK;refine hK _ _ ?_)|(clear hK;clear hK;refine hK _ _ ?_));clear hK;try clear K))| refine W ?_|exact Z|with_reducible intro b)
  rw [h3];rfl
end Go.V
namespace Go.V
open Go Go.RowKit Go.Proofs
def qI4_171_1:List (Nat × Nat):=[(0,1),(1,1),(3,2),(4,2),(2,4),(5,3),(6,3),(7,3)]
def qI4_87_3:List (Nat × Nat):=[(0,0),(1,1),(2,0),(3,1),(5,0),(6,2),(7,0),(8,2),(10,0),(4,4),(9,3),(11,3),(12,0),(13,0),(14,3),(15,0)]
attribute [go_sem] qI4_171_1 qI4_87_3
theorem p_validI {k:Nat} {a b:Iv} {p:Int} (ha:Wi k a) (hb:Wi k b):PC Tryz.prog 125 [IV a,IV b,i64 p] fun d=>d=bl (rightI a && rightI b && okP p):=by
 have pA:=p_iRight ha
 have pB:=p_iRight hb
 have pP:=p_Valid (p:=p)
 generalize rightI a=r at *
 generalize rightI b=s at *
 generalize okP p=t at *
 obtain ⟨⟨n1,e1,w1⟩,⟨n2,e2,w2⟩⟩:=a
 obtain ⟨⟨n3,e3,w3⟩,⟨n4,e4,w4⟩⟩:=b
 cases r
 ·refine PB (rs:=[.tmp 6]) Tryz.func125 ?_
  exact Wk
 ·cases s
  ·refine PB (rs:=[.tmp 6]) Tryz.func125 ?_
   exact Wk
  ·refine PB (rs:=[.tmp 6]) Tryz.func125 ?_
   exact Wk
def opI (a b:Iv) (p:Int) (l h:Dyadic):Iv × Int:=if rightI a && rightI b && okP p then outR p.toNat l h else (iv0,1)
theorem p_iAdd {k:Nat} {a b:Iv} {p:Int} (ha:Wi k a) (hb:Wi k b):PC Tryz.prog 87 [IV a,IV b,i64 p] fun d=>d=IE (opI a b p (a.lo.val + b.lo.val) (a.hi.val + b.hi.val)):=by
 have pV:=p_validI (p:=p) ha hb
 unfold opI
 by_cases h:(rightI a && rightI b && okP p)=true
 ·rw [if_pos h]
  rw [h] at pV
  rw [Bool.and_eq_true,Bool.and_eq_true] at h
  obtain ⟨m,rfl,h8,h256⟩:=okP_nat h.2
  obtain ⟨x,y,ox,oy,hxy,rfl⟩:=rightI_is ha h.1.1
  obtain ⟨u,v,ou,ov,huv,rfl⟩:=rightI_is hb h.1.2
  have pL:=p_eAdd ox.sz ou.sz (by decide)
  have pH:=p_eAdd oy.sz ov.sz (by decide)
  have pO:=fun (z1 z2:Nu) (h1:Sz (4 * 65536 + 1) z1) (h2:Sz (4 * 65536 + 1) z2) (v1:z1.val=x + u) (v2:z2.val=y + v)=>show PC Tryz.prog 126 [NU z1,NU z2,i64 (m:Nat)] fun d=>d=IE (outR m (x + u) (y + v)) from v1 ▸ v2 ▸ p_outward h1 h2 (by decide) (by omega)
  simp only [ivD,val_nuOf,Int.toNat_natCast] at *
  generalize outR m (x + u) (y + v)=q at *
  obtain ⟨⟨⟨n5,e5,w5⟩,⟨n6,e6,w6⟩⟩,r⟩:=q
  generalize nuOf x=X at *
  generalize nuOf y=Y at *
  generalize nuOf u=U at *
  generalize nuOf v=V at *
  obtain ⟨n1,e1,w1⟩:=X
  obtain ⟨n2,e2,w2⟩:=Y
  obtain ⟨n3,e3,w3⟩:=U
  obtain ⟨n4,e4,w4⟩:=V
  have d1:=@dl 3 qI4_87_3
  refine PB (rs:=[.cell 6 51,.tmp 7]) Tryz.func87 ?_
  repeat (first|(with_reducible first|refine pv_seq fun K hK=>?_|((first|refine hK _ _ ?_|(clear hK;refine hK _ _ ?_)|(clear hK;clear hK;refine hK _ _ ?_));clear hK;try clear K))| refine W ?_|exact Z|with_reducible intro b)
  refine ExtC_is ?_
  try simp -implicitDefEqProofs only [ft,go_sem,seval]
  refine pL.mono ?_
  rintro d ⟨⟨s1,f1,z1⟩,rfl,hs1,hv1⟩
  repeat (first|(with_reducible first|refine pv_seq fun K hK=>?_|((first|refine hK _ _ ?_|(clear hK;refine hK _ _ ?_)|(clear hK;clear hK;refine hK _ _ ?_));clear hK;try clear K))| refine W0 ?_|exact Z|with_reducible intro b)
  refine call_pc pH ?_
  rintro d ⟨⟨s2,f2,z2⟩,rfl,hs2,hv2⟩
  have pO:=pO _ _ hs1 hs2 hv1 hv2
  exact Wk
 ·rw [if_neg h]
  rw [Bool.not_eq_true] at h
  rw [h] at pV
  obtain ⟨⟨n1,e1,w1⟩,⟨n2,e2,w2⟩⟩:=a
  obtain ⟨⟨n3,e3,w3⟩,⟨n4,e4,w4⟩⟩:=b
  have d1:=@dl 3 qI4_87_3
  refine PB (rs:=[.cell 6 51,.tmp 7]) Tryz.func87 ?_
  exact Wk
theorem p_Mul1 {k:Nat} {S:Store} {Q:D→Store→Prop} {k1 k2:Nm} {b1 b2:Nat} {l h x:Nu} (h1:S k1=some ⟨b1,3,0,[[bl l.neg,i64 l.exp,W64 l.w]]⟩) (h2:S k2=some ⟨b2,3,0,[[bl h.neg,i64 h.exp,W64 h.w]]⟩) (hne:(k1=k2)=False)
 (sl:Sz k l) (sh:Sz k h) (sx:Sz k x) (hk:k≤67108864) (hQ:Q (.tup []) (updS (updS S k1 (some ⟨b1,3,0,[[bl (minN l x).neg,i64 (minN l x).exp,W64 (minN l x).w]]⟩)) k2 (some ⟨b2,3,0,[[bl (maxN h x).neg,i64 (maxN h x).exp,W64 (maxN h x).w]]⟩))) :
 PFC Tryz.prog 171 [NU x,.ptr k1 b1 0 0 3,.ptr k2 b2 0 0 3] S Q:=by
 have pL:=p_least sl sx hk
 have pG:=p_greatest sh sx hk
 have hne2:(k2=k1)=False:=eq_false fun h=>by rw [h] at hne;simp at hne
 generalize minN l x=a at *
 generalize maxN h x=b at *
 obtain ⟨n1,e1,w1⟩:=l
 obtain ⟨n2,e2,w2⟩:=h
 obtain ⟨n3,e3,w3⟩:=x
 obtain ⟨n4,e4,w4⟩:=a
 obtain ⟨n5,e5,w5⟩:=b
 simp only at h1 h2
 have d1:=@dl 1 qI4_171_1
 refine PFB (rs:=[]) Tryz.func171 ?_
 repeat (first|(with_reducible first|refine pv_seq fun K hK=>?_|refine pv_reg ?_|refine pv_draw (id:=1) qI4_171_1 (by kernel_rfl) ?_)|((with_reducible first|refine hK _ _ ?_|(clear hK;refine hK _ _ ?_)|(clear hK;clear hK;refine hK _ _ ?_));clear hK;try clear K)|simp -implicitDefEqProofs only [h1,h2,hne,hne2,Nm.up.injEq,true_and,go_sem,seval]|with_reducible intro b|(with_reducible refine And.intro ?_ ?_;· first|assumption|omega|(unfold R64;omega))|refine call_is (by first|exact pL|exact pG) ?_|(refine ExtC_is ?_;simp -implicitDefEqProofs only [h1,h2,hne,hne2,Nm.up.injEq,true_and,go_sem,seval];refine ext_is (by first|exact pL|exact pG) ?_)|(refine PFC.coe ?_;simp -implicitDefEqProofs only [h1,h2,hne,hne2,Nm.up.injEq,true_and,go_sem,seval];refine call_is (by first|exact pL|exact pG) ?_))
 exact hQ
end Go.V
namespace Go.V
open Go Go.RowKit Go.Proofs
end Go.V
namespace Go.V
open Go Go.RowKit Go.Proofs
theorem sgnD_0le {a:Dyadic}:(0≤sgnD a)=(0≤a):=by
 apply propext
 unfold sgnD
 by_cases h1:a<0
 ·rw [if_pos h1];constructor
  ·intro h;exact absurd h (by decide)
  ·intro h;grind
 ·rw [if_neg h1];constructor
  ·intro _;grind
  ·intro _;split<;>decide
theorem sgnD_le0 {a:Dyadic}:(sgnD a≤0)=(a≤0):=by
 apply propext
 unfold sgnD
 by_cases h1:a<0
 ·rw [if_pos h1];exact ⟨fun _=>by grind,fun _=>by decide⟩
 ·rw [if_neg h1]
  by_cases h2:0<a
  ·rw [if_pos h2];constructor
   ·intro h;exact absurd h (by decide)
   ·intro h;grind
  ·rw [if_neg h2];exact ⟨fun _=>by grind,fun _=>by decide⟩
theorem sgnD_lt0 {a:Dyadic}:(sgnD a<0)=(a<0):=by
 have:=sgnD_0le (a:=a)
 apply propext
 rw [← Int.not_le,this]
 constructor
 ·intro h;grind
 ·intro h;grind
theorem sgnD_0lt {a:Dyadic}:(0<sgnD a)=(0<a):=by
 have:=sgnD_le0 (a:=a)
 apply propext
 rw [← Int.not_le,this]
 constructor
 ·intro h;grind
 ·intro h;grind
end Go.V
namespace Go.V
open Go Go.RowKit Go.Proofs
def eI (a:Iv):List G:=[.lit (.bool a.lo.neg),.lit (.int .i64 a.lo.exp),eS (eK .u64) a.lo.w,.lit (.bool a.hi.neg),.lit (.int .i64 a.hi.exp),eS (eK .u64) a.hi.w]
def II (xs:List Iv):D:=.g (eS eI xs)
theorem eI_0 {a:Iv}:(eI a)=[.lit (.bool a.lo.neg),.lit (.int .i64 a.lo.exp),eS (eK .u64) a.lo.w,.lit (.bool a.hi.neg),.lit (.int .i64 a.hi.exp),eS (eK .u64) a.hi.w]:=rfl
def lightI (a:Iv):Prop:=a.lo.w.length≤70∧a.hi.w.length≤70
instance (a:Iv):Decidable (lightI a):=inferInstanceAs (Decidable (_∧_))
end Go.V
namespace Go.V
open Go Go.RowKit Go.Proofs
theorem l_ne {i j:Nat} (h:i≠j):(Nm.l i=Nm.l j)=False:=eq_false (by intro h2;injection h2 with h2;exact h h2)
set_option maxHeartbeats 1000000 in
theorem p_iMul {k:Nat} {a b:Iv} {p:Int} (ha:Wi k a) (hb:Wi k b):PC Tryz.prog 124 [IV a,IV b,i64 p] fun d=>d=IE (opI a b p (minP a.lo.val a.hi.val b.lo.val b.hi.val) (maxP a.lo.val a.hi.val b.lo.val b.hi.val)):=by
 have pV:=p_validI (p:=p) ha hb
 unfold opI
 by_cases h:(rightI a && rightI b && okP p)=true
 ·rw [if_pos h]
  rw [h] at pV
  rw [Bool.and_eq_true,Bool.and_eq_true] at h
  obtain ⟨m,rfl,h8,h256⟩:=okP_nat h.2
  obtain ⟨x,y,ox,oy,hxy,rfl⟩:=rightI_is ha h.1.1
  obtain ⟨u,v,ou,ov,huv,rfl⟩:=rightI_is hb h.1.2
  have m0:=p_eMul ox.sz ou.sz (by decide)
  have m1:=p_eMul ox.sz ov.sz (by decide)
  have m2:=p_eMul oy.sz ou.sz (by decide)
  have m3:=p_eMul oy.sz ov.sz (by decide)
  have pO:=fun (z1 z2:Nu) (h1:Sz (2 * 65536) z1) (h2:Sz (2 * 65536) z2) (v1:z1.val=minP x y u v) (v2:z2.val=maxP x y u v)=>show PC Tryz.prog 126 [NU z1,NU z2,i64 (m:Nat)] fun d=>d=IE (outR m (minP x y u v) (maxP x y u v)) from v1 ▸ v2 ▸ p_outward h1 h2 (by decide) (by omega)
  simp only [ivD,val_nuOf,Int.toNat_natCast] at *
  unfold minP maxP at *
  generalize x * u=d0 at *
  generalize x * v=d1 at *
  generalize y * u=d2 at *
  generalize y * v=d3 at *
  generalize outR m _ _=q at *
  obtain ⟨⟨⟨n5,e5,w5⟩,⟨n6,e6,w6⟩⟩,r⟩:=q
  generalize nuOf x=X at *
  generalize nuOf y=Y at *
  generalize nuOf u=U at *
  generalize nuOf v=V at *
  obtain ⟨n1,e1,w1⟩:=X
  obtain ⟨n2,e2,w2⟩:=Y
  obtain ⟨n3,e3,w3⟩:=U
  obtain ⟨n4,e4,w4⟩:=V
  refine PB (rs:=[.cell 6 51,.tmp 7]) Tryz.func124 ?_
  repeat (first|(with_reducible first|refine pv_seq fun K hK=>?_|((first|refine hK _ _ ?_|(clear hK;refine hK _ _ ?_)|(clear hK;clear hK;refine hK _ _ ?_));clear hK;try clear K))| refine W ?_|exact Z|with_reducible intro b)
  refine call_pc m0 ?_
  rintro d ⟨⟨s0,f0,z0⟩,rfl,t0,v0⟩
  repeat (first|(with_reducible first|refine pv_seq fun K hK=>?_|((first|refine hK _ _ ?_|(clear hK;refine hK _ _ ?_)|(clear hK;clear hK;refine hK _ _ ?_));clear hK;try clear K))| refine W0 ?_|exact Z|with_reducible intro b)
  refine call_pc m1 ?_
  rintro d ⟨⟨s1,f1,z1⟩,rfl,t1,v1⟩
  repeat (first|(with_reducible first|refine pv_seq fun K hK=>?_|((first|refine hK _ _ ?_|(clear hK;refine hK _ _ ?_)|(clear hK;clear hK;refine hK _ _ ?_));clear hK;try clear K))| refine W0 ?_|exact Z|with_reducible intro b)
  refine p_Mul1 (l:=⟨s0,f0,z0⟩) (h:=⟨s0,f0,z0⟩) (x:=⟨s1,f1,z1⟩) (by simp -implicitDefEqProofs only [ft,go_sem,seval]<;>rfl) (by simp -implicitDefEqProofs only [ft,go_sem,seval]<;>rfl) (l_ne (by decide)) t0 t0 t1 (by decide) ?_
  have a1:=minN_sz t0 t1;have a2:=minN_val ⟨s0,f0,z0⟩ ⟨s1,f1,z1⟩;rw [v0,v1] at a2
  have b1:=maxN_sz t0 t1;have b2:=maxN_val ⟨s0,f0,z0⟩ ⟨s1,f1,z1⟩;rw [v0,v1] at b2
  generalize minN ⟨s0,f0,z0⟩ ⟨s1,f1,z1⟩=L1 at *
  generalize maxN ⟨s0,f0,z0⟩ ⟨s1,f1,z1⟩=H1 at *
  obtain ⟨p1,p2,p3⟩:=L1
  obtain ⟨p4,p5,p6⟩:=H1
  repeat (first|(with_reducible first|refine pv_seq fun K hK=>?_|((first|refine hK _ _ ?_|(clear hK;refine hK _ _ ?_)|(clear hK;clear hK;refine hK _ _ ?_));clear hK;try clear K))| refine W0 ?_|exact Z|with_reducible intro b)
  refine call_pc m2 ?_
  rintro d ⟨⟨s2,f2,z2⟩,rfl,t2,v2⟩
  repeat (first|(with_reducible first|refine pv_seq fun K hK=>?_|((first|refine hK _ _ ?_|(clear hK;refine hK _ _ ?_)|(clear hK;clear hK;refine hK _ _ ?_));clear hK;try clear K))| refine W0 ?_|exact Z|with_reducible intro b)
  refine p_Mul1 (l:=⟨p1,p2,p3⟩) (h:=⟨p4,p5,p6⟩) (x:=⟨s2,f2,z2⟩) (by simp -implicitDefEqProofs only [ft,go_sem,seval]<;>rfl) (by simp -implicitDefEqProofs only [ft,go_sem,seval]<;>rfl) (l_ne (by decide)) a1 b1 t2 (by decide) ?_
  have c1:=minN_sz a1 t2;have c2:=minN_val ⟨p1,p2,p3⟩ ⟨s2,f2,z2⟩;rw [a2,v2] at c2
  have g1:=maxN_sz b1 t2;have g2:=maxN_val ⟨p4,p5,p6⟩ ⟨s2,f2,z2⟩;rw [b2,v2] at g2
  generalize minN ⟨p1,p2,p3⟩ ⟨s2,f2,z2⟩=L2 at *
  generalize maxN ⟨p4,p5,p6⟩ ⟨s2,f2,z2⟩=H2 at *
  obtain ⟨q1,q2,q3⟩:=L2
  obtain ⟨q4,q5,q6⟩:=H2
  repeat (first|(with_reducible first|refine pv_seq fun K hK=>?_|((first|refine hK _ _ ?_|(clear hK;refine hK _ _ ?_)|(clear hK;clear hK;refine hK _ _ ?_));clear hK;try clear K))| refine W0 ?_|exact Z|with_reducible intro b)
  refine call_pc m3 ?_
  rintro d ⟨⟨s3,f3,z3⟩,rfl,t3,v3⟩
  repeat (first|(with_reducible first|refine pv_seq fun K hK=>?_|((first|refine hK _ _ ?_|(clear hK;refine hK _ _ ?_)|(clear hK;clear hK;refine hK _ _ ?_));clear hK;try clear K))| refine W0 ?_|exact Z|with_reducible intro b)
  refine p_Mul1 (l:=⟨q1,q2,q3⟩) (h:=⟨q4,q5,q6⟩) (x:=⟨s3,f3,z3⟩) (by simp -implicitDefEqProofs only [ft,go_sem,seval]<;>rfl) (by simp -implicitDefEqProofs only [ft,go_sem,seval]<;>rfl) (l_ne (by decide)) c1 g1 t3 (by decide) ?_
  have k1:=minN_sz c1 t3;have k2:=minN_val ⟨q1,q2,q3⟩ ⟨s3,f3,z3⟩;rw [c2,v3] at k2
  have j1:=maxN_sz g1 t3;have j2:=maxN_val ⟨q4,q5,q6⟩ ⟨s3,f3,z3⟩;rw [g2,v3] at j2
  generalize minN ⟨q1,q2,q3⟩ ⟨s3,f3,z3⟩=L3 at *
  generalize maxN ⟨q4,q5,q6⟩ ⟨s3,f3,z3⟩=H3 at *
  have pO:=pO _ _ k1 j1 k2 j2
  obtain ⟨r1,r2,r3⟩:=L3
  obtain ⟨r4,r5,r6⟩:=H3
  exact Wk
 ·rw [if_neg h]
  rw [Bool.not_eq_true] at h
  rw [h] at pV
  obtain ⟨⟨n1,e1,w1⟩,⟨n2,e2,w2⟩⟩:=a
  obtain ⟨⟨n3,e3,w3⟩,⟨n4,e4,w4⟩⟩:=b
  refine PB (rs:=[.cell 6 51,.tmp 7]) Tryz.func124 ?_
  exact Wk
end Go.V
namespace Go.V
open Go Go.RowKit Go.Proofs
theorem p_eSignD {a:Dyadic} (ha:OkD a):PC Tryz.prog 93 [NU (nuOf a)] fun d=>d=i64 (sgnD a):=by
 have:=p_eSign ha.sz (by decide)
 rw [val_nuOf] at this
 exact this
end Go.V
namespace Go.V
open Go Go.RowKit Go.Proofs
end Go.V
namespace Go.V
open Go Go.RowKit Go.Proofs
end Go.V
namespace Go.V
open Go Go.RowKit Go.Proofs
end Go.V
namespace Go.V
open Go Go.RowKit Go.Proofs
end Go.V
namespace Go.V
open Go Go.RowKit Go.Proofs
end Go.V
namespace Go.V
open Go Go.RowKit Go.Proofs
def qI15_123_3:PT:=(.lin [(0,0),(1,2),(2,0),(4,0),(5,2),(6,0)] (.mix [3,7] [8,9] (.lin [(10,3),(11,3)] .nil)))
def qI15_123_4:PT:=(.lin [(0,2),(1,2),(3,2),(4,2)] (.mix [2,5] [6,7] (.lin [(8,3),(9,3)] .nil)))
attribute [go_sem] qI15_123_3 qI15_123_4
theorem dy_one:dy (decide ((1:Int)<0)) (1:Int).natAbs 0=1:=by decide
theorem ok_one:OkD 1:=by rw [← dy_one];exact OkD_word (by decide) (by decide) (by decide)
set_option maxHeartbeats 1000000 in
theorem p_times {k:Nat} {x:Nu} (hx:Sz 65536 x) (hk:k≤8):PC Tryz.prog 168 [NU x,i64 k] fun d=>∃ z,d=NU z∧Sz 655360 z∧z.val=powD x.val k:=by
 have p1:=p_nInt (n:=1) (by unfold R64;omega)
 rw [dy_one] at p1
 have o1:=ok_one.sz
 have v1:=val_nuOf 1
 generalize nuOf 1=u at *
 generalize hv:x.val=v at *
 obtain ⟨n1,e1,w1⟩:=x
 obtain ⟨n2,e2,w2⟩:=u
 refine PB (rs:=[.cell 4 41]) Tryz.func168 ?_
 repeat (first|(with_reducible first|refine pv_seq fun K hK=>?_|((first|refine hK _ _ ?_|(clear hK;refine hK _ _ ?_)|(clear hK;clear hK;refine hK _ _ ?_));clear hK;try clear K))| refine W ?_|exact Z|with_reducible intro b)
 have J:∀ (e:DEnv) (S:Store) (b4 b5:Nat) (z:Nu),Sz 655360 z→z.val=powD v k→e 4=.ptr (.l 4) b4 0 0 3→e 5=.ptr (.l 5) b5 0 0 3→S (.l 4)=some ⟨b4,3,0,[[bl false,i64 0,.nil]]⟩→S (.l 5)=some ⟨b5,3,0,[[bl z.neg,i64 z.exp,W64 z.w]]⟩→K e S:=by
  rintro e S b4 b5 ⟨n3,e3,w3⟩ hz hzv g4 g5 s4 s5
  have ft:=And.intro g4 (And.intro g5 (And.intro s4 s5))
  repeat (first|(with_reducible first|refine pv_seq fun K hK=>?_|((first|refine hK _ _ ?_|(clear hK;refine hK _ _ ?_)|(clear hK;clear hK;refine hK _ _ ?_));clear hK;try clear K))| refine W0 ?_|exact Z|with_reducible intro b)
  exact ⟨⟨n3,e3,w3⟩,rfl,hz,hzv⟩
 clear hK
 refine pv_loop (fun e S=>∃ (i b2 b4 b5:Nat) (z:Nu),i≤k∧Sz (65536 * (i + 1)) z∧z.val=powD v i∧e 7=i64 k∧e 8=i64 i∧e 2=.ptr (.l 2) b2 0 0 3∧e 4=.ptr (.l 4) b4 0 0 3∧e 5=.ptr (.l 5) b5 0 0 3∧S (.l 2)=some ⟨b2,3,0,[[bl n1,i64 e1,W64 w1]]⟩∧S (.l 4)=some ⟨b4,3,0,[[bl false,i64 0,.nil]]⟩∧S (.l 5)=some ⟨b5,3,0,[[bl z.neg,i64 z.exp,W64 z.w]]⟩) (fun e _=>k - (intD (e 8)).toNat) ?_ ?_
 ·exact ⟨0,_,_,_,⟨n2,e2,w2⟩,Nat.zero_le _,o1,v1,Zr,Zr,Zr,Zr,Zr,Zr,Zr,Zr⟩
 ·rintro e S ⟨i,b2,b4,b5,z,hi,hz,hzv,g7,g8,g2,g4,g5,s2,s4,s5⟩
  obtain ⟨n3,e3,w3⟩:=z
  have ft:=And.intro g7 (And.intro g8 (And.intro g2 (And.intro g4 (And.intro g5 (And.intro s2 (And.intro s4 s5))))))
  repeat (first|(with_reducible first|refine pv_seq fun K hK=>?_|((first|refine hK _ _ ?_|(clear hK;refine hK _ _ ?_)|(clear hK;clear hK;refine hK _ _ ?_));clear hK;try clear K))| refine W0 ?_|exact Z|with_reducible intro b)
  refine pv_cdD (fun ht=>?_) (fun ht=>?_)
  ·repeat (first|(with_reducible first|refine pv_seq fun K hK=>?_|((first|refine hK _ _ ?_|(clear hK;refine hK _ _ ?_)|(clear hK;clear hK;refine hK _ _ ?_));clear hK;try clear K))| refine W0 ?_|exact Z|with_reducible intro b)
   refine call_pc (p_eMulW hz hx (by omega) (by omega)) ?_
   rintro d ⟨⟨n4,e4,w4⟩,rfl,hz',hzv'⟩
   repeat (first|(with_reducible first|refine pv_seq fun K hK=>?_|((first|refine hK _ _ ?_|(clear hK;refine hK _ _ ?_)|(clear hK;clear hK;refine hK _ _ ?_));clear hK;try clear K))| refine W0 ?_|exact Z|with_reducible intro b)
   refine ⟨⟨i + 1,b2,b4,b5,⟨n4,e4,w4⟩,by omega,by simpa [Nat.mul_add] using hz',?_,rfl,rfl,rfl,rfl,rfl,rfl,rfl⟩,?_⟩
   ·rw [hzv',hzv,hv];rfl
   ·simp only [intD];omega
  ·obtain rfl:i=k:=by omega
   repeat (first|(with_reducible first|refine pv_seq fun K hK=>?_|((first|refine hK _ _ ?_|(clear hK;refine hK _ _ ?_)|(clear hK;clear hK;refine hK _ _ ?_));clear hK;try clear K))| refine W0 ?_|exact Z|with_reducible intro b)
   exact J _ _ b4 b5 ⟨n3,e3,w3⟩ (hz.mono (by omega)) hzv Zr Zr Zr Zr
def pwI (a:Iv) (k p:Int):Iv × Int:=if rightI a && okP p && decide (0≤k) && decide (k≤8) then outR p.toNat (loP a.lo.val a.hi.val k.toNat) (hiP a.lo.val a.hi.val k.toNat) else (iv0,1)
theorem loP_no {x y:Dyadic} {k:Nat} (h:¬ (0<k∧k % 2=0∧x<0∧0<y)) (hxy:x≤y):loP x y k=loD (powD x k) (powD y k):=by
 unfold loP
 by_cases h1:0<k∧k % 2=0∧x≤0∧0≤y
 ·rw [if_pos h1]
  obtain ⟨a,b,c,d⟩:=h1
  have e1:=powD_neg x k
  have n1:=powD_nn (x := -x) (by grind) k
  rw [if_pos b] at e1
  have n2:=powD_nn d k
  have hz:=powD_zero a
  have hx:x=0∨y=0:=by
   by_cases h2:x<0
   ·right
    by_cases h3:0<y
    ·exact absurd ⟨a,b,h2,h3⟩ h
    ·grind
   ·left;grind
  unfold loD
  rcases hx with rfl|rfl
  ·split<;>grind
  ·split<;>grind
 ·rw [if_neg h1]
theorem loP_yes {x y:Dyadic} {k:Nat} (h:0<k∧k % 2=0∧x<0∧0<y):loP x y k=0:=by
 unfold loP
 exact if_pos ⟨h.1,h.2.1,by grind,by grind⟩
theorem tmod2 {k:Nat}:((k:Int).tmod 2=0)=(k % 2=0):=by
 apply propext
 have:(k:Int).tmod 2=((k % 2:Nat):Int):=by rw [Int.tmod_eq_emod_of_nonneg (by omega)];rfl
 rw [this];omega
set_option maxHeartbeats 2000000 in
theorem p_iPow {w:Nat} {a:Iv} {k p:Int} (ha:Wi w a):PC Tryz.prog 123 [IV a,i64 k,i64 p] fun d=>d=IE (pwI a k p):=by
 have pV:=p_validI (p:=p) ha ha
 unfold pwI
 by_cases h:(rightI a && okP p)=true
 ·by_cases h0:0≤k
  ·by_cases h8:k≤8
   ·rw [h,decide_eq_true h0,decide_eq_true h8]
    rw [Bool.and_eq_true] at h
    rw [h.1,h.2] at pV
    obtain ⟨m,rfl,m8,m256⟩:=okP_nat h.2
    obtain ⟨x,y,ox,oy,hxy,rfl⟩:=rightI_is ha h.1
    obtain ⟨j,rfl⟩:=Int.eq_ofNat_of_zero_le h0
    have t1:=p_times (k:=j) ox.sz (by omega)
    have t2:=p_times (k:=j) oy.sz (by omega)
    have sX:=p_eSignD ox
    have sY:=p_eSignD oy
    have kX:(sgnD x<0)=(x<0):=sgnD_lt0
    have kY:(0<sgnD y)=(0<y):=sgnD_0lt
    have k0:((j:Int)<0)=False:=eq_false (by omega)
    have k8:(8<(j:Int))=False:=eq_false (by omega)
    have kr:=tmod2 (k:=j)
    have kj:(0<(j:Int))=(0<j):=propext (by omega)
    simp only [ivD,val_nuOf,Int.toNat_natCast,Bool.and_self,if_true] at *
    generalize hres:outR m (loP x y j) (hiP x y j)=res
    generalize sgnD x=gx at *
    generalize sgnD y=gy at *
    generalize nuOf x=X at *
    generalize nuOf y=Y at *
    obtain ⟨n1,e1,w1⟩:=X
    obtain ⟨n2,e2,w2⟩:=Y
    have d1:=@dr 3 qI15_123_3
    have d2:=@dr 4 qI15_123_4
    refine PB (rs:=[.cell 6 51,.tmp 7]) Tryz.func123 ?_
    have ft:=And.intro k0 k8
    repeat (first|(with_reducible first|refine pv_seq fun K hK=>?_|((first|refine hK _ _ ?_|(clear hK;refine hK _ _ ?_)|(clear hK;clear hK;refine hK _ _ ?_));clear hK;try clear K))| refine W ?_|exact Z|with_reducible intro b)
    first|refine call_pc t1 ?_|(refine ExtC_is ?_;simp -implicitDefEqProofs only [ft,go_sem,seval];refine PC.mono t1 ?_)
    rintro d ⟨z1,rfl,hz1,hv1⟩
    obtain ⟨n3,e3,w3⟩:=z1
    repeat (first|(with_reducible first|refine pv_seq fun K hK=>?_|((first|refine hK _ _ ?_|(clear hK;refine hK _ _ ?_)|(clear hK;clear hK;refine hK _ _ ?_));clear hK;try clear K))| refine W0 ?_|exact Z|with_reducible intro b)
    first|refine call_pc t2 ?_|(refine ExtC_is ?_;simp -implicitDefEqProofs only [ft,go_sem,seval];refine PC.mono t2 ?_)
    rintro d ⟨z2,rfl,hz2,hv2⟩
    obtain ⟨n4,e4,w4⟩:=z2
    have pL:=p_least hz1 hz2 (by decide)
    have pG:=p_greatest hz1 hz2 (by decide)
    have sl:=minN_sz hz1 hz2;have vl:=minN_val ⟨n3,e3,w3⟩ ⟨n4,e4,w4⟩;rw [hv1,hv2] at vl
    have sg:=maxN_sz hz1 hz2;have vg:=maxN_val ⟨n3,e3,w3⟩ ⟨n4,e4,w4⟩;rw [hv1,hv2] at vg
    generalize minN ⟨n3,e3,w3⟩ ⟨n4,e4,w4⟩=L at *
    generalize maxN ⟨n3,e3,w3⟩ ⟨n4,e4,w4⟩=G at *
    have pO:=p_outward (p:=m) sl sg (by decide) (by omega)
    have pO2:=p_outward (p:=m) (Sz.zero 655360) sg (by decide) (by omega)
    rw [vl,vg] at pO
    rw [vg,show nu0.val=0 from rfl] at pO2
    obtain ⟨n5,e5,w5⟩:=L
    obtain ⟨n6,e6,w6⟩:=G
    unfold nu0 at pO2
    have no:¬ (0<j∧j % 2=0∧x<0∧0<y)→outR m (loD (powD x j) (powD y j)) (hiD (powD x j) (powD y j))=res:=fun h=>by rw [← hres,loP_no h hxy];rfl
    have yes:(0<j∧j % 2=0∧x<0∧0<y)→outR m 0 (hiD (powD x j) (powD y j))=res:=fun h=>by rw [← hres,loP_yes h];rfl
    clear hres
    by_cases c1:0<j
    ·rw [eq_true c1] at kj
     by_cases c2:j % 2=0
     ·rw [eq_true c2] at kr
      by_cases c3:x<0
      ·rw [eq_true c3] at kX
       by_cases c4:0<y
       ·rw [eq_true c4] at kY
        rw [yes ⟨c1,c2,c3,c4⟩] at pO2
        obtain ⟨⟨⟨n7,e7,w7⟩,⟨n8,e8,w8⟩⟩,er⟩:=res
        clear pO
        have ft:=And.intro kj (And.intro kr (And.intro kX kY))
        exact Wk
       ·rw [eq_false c4] at kY
        rw [no (fun h=>c4 h.2.2.2)] at pO
        obtain ⟨⟨⟨n7,e7,w7⟩,⟨n8,e8,w8⟩⟩,er⟩:=res
        clear pO2
        have ft:=And.intro kj (And.intro kr (And.intro kX kY))
        exact Wk
      ·rw [eq_false c3] at kX
       rw [no (fun h=>c3 h.2.2.1)] at pO
       obtain ⟨⟨⟨n7,e7,w7⟩,⟨n8,e8,w8⟩⟩,er⟩:=res
       clear pO2
       have ft:=And.intro kj (And.intro kr kX)
       exact Wk
     ·rw [eq_false c2] at kr
      rw [no (fun h=>c2 h.2.1)] at pO
      obtain ⟨⟨⟨n7,e7,w7⟩,⟨n8,e8,w8⟩⟩,er⟩:=res
      clear pO2
      have ft:=And.intro kj kr
      exact Wk
    ·rw [eq_false c1] at kj
     rw [no (fun h=>c1 h.1)] at pO
     obtain ⟨⟨⟨n7,e7,w7⟩,⟨n8,e8,w8⟩⟩,er⟩:=res
     clear pO2
     have ft:=kj
     exact Wk
   ·rw [decide_eq_false h8,Bool.and_false,if_neg (by decide)]
    rw [Bool.and_eq_true] at h
    rw [h.1,h.2] at pV
    obtain ⟨⟨n1,e1,w1⟩,⟨n2,e2,w2⟩⟩:=a
    have k0:(k<0)=False:=eq_false (by omega)
    have k8:(8<k)=True:=eq_true (by omega)
    have d1:=@dr 3 qI15_123_3
    have d2:=@dr 4 qI15_123_4
    refine PB (rs:=[.cell 6 51,.tmp 7]) Tryz.func123 ?_
    have ft:=And.intro k0 k8
    exact Wk
  ·rw [decide_eq_false h0,Bool.and_false,Bool.false_and,if_neg (by decide)]
   rw [Bool.and_eq_true] at h
   rw [h.1,h.2] at pV
   obtain ⟨⟨n1,e1,w1⟩,⟨n2,e2,w2⟩⟩:=a
   have k0:(k<0)=True:=eq_true (by omega)
   have d1:=@dr 3 qI15_123_3
   have d2:=@dr 4 qI15_123_4
   refine PB (rs:=[.cell 6 51,.tmp 7]) Tryz.func123 ?_
   have ft:=k0
   exact Wk
 ·rw [Bool.not_eq_true] at h
  rw [h,Bool.false_and,Bool.false_and,if_neg (by decide)]
  have h3:(rightI a && rightI a && okP p)=false:=by rw [Bool.and_self];exact h
  rw [h3] at pV
  obtain ⟨⟨n1,e1,w1⟩,⟨n2,e2,w2⟩⟩:=a
  have d1:=@dr 3 qI15_123_3
  have d2:=@dr 4 qI15_123_4
  refine PB (rs:=[.cell 6 51,.tmp 7]) Tryz.func123 ?_
  exact Wk
end Go.V
namespace Go.V
open Go Go.RowKit Go.Proofs
end Go.V
namespace Go.V
open Go Go.RowKit Go.Proofs
theorem p_dYes {k:Nm} {S:Store} {Q:D→Store→Prop} {b i n:Nat} {w:List Nat} (hS:S k=some ⟨b,2,0,[[W64 w,i64 i]]⟩) (hb:B64 w) (hi:i≤1000000000) (hn:0<n) (hn2:n≤1099511627776)
 (hQ:∀ t,Q (bl t) (updS S k (some ⟨b,2,0,[[W64 w,i64 ((i + 1:Nat):Int)]]⟩))):PFC Tryz.prog 26 [.ptr k b 0 0 2,i64 n] S Q:=by
 refine PFB (rs:=[.tmp 4]) Tryz.func26 ?_
 repeat (first|(with_reducible first|refine pv_seq fun K hK=>?_|((first|refine hK _ _ ?_|(clear hK;refine hK _ _ ?_)|(clear hK;clear hK;refine hK _ _ ?_));clear hK;try clear K))| refine W0 ?_|exact Z|with_reducible intro b)
 refine p_dN (n:=n) (i:=i) (by simp -implicitDefEqProofs only [updS,upS];exact hS) hb (by omega) hn hn2 (fun r hr=>?_)
 have hq:=hQ (decide ((r:Int)=(n:Int) - 1))
 repeat (first|(with_reducible first|refine pv_seq fun K hK=>?_|((first|refine hK _ _ ?_|(clear hK;refine hK _ _ ?_)|(clear hK;clear hK;refine hK _ _ ?_));clear hK;try clear K))| refine W0 ?_|exact Z|with_reducible intro b)
 exact hq
end Go.V
namespace Go.V
open Go Go.RowKit Go.Proofs
end Go.V
namespace Go.V
open Go Go.RowKit Go.Proofs
end Go.V
namespace Go.V
open Go Go.RowKit Go.Proofs
theorem Sm.zero {k p:Nat}:Sm k p 0:=⟨0,by rw [show Dyadic.ofIntWithPrec 0 p=Go.V.dy false 0 (-(p:Int)) by unfold Go.V.dy;rw [Int.neg_neg];rfl,dy0],Nat.two_pow_pos k⟩
theorem Sm.one:Sm 1 0 1:=⟨1,by decide,by decide⟩
theorem powD_sm {k q:Nat} {x:Dyadic} (h:Sm k q x):∀ j,Sm (1 + k * j) (q * j) (powD x j)
 | 0=>Sm.one
 | j + 1=>by
   have:=(powD_sm h j).mul h
   rw [show 1 + k * (j + 1)=1 + k * j + k by rw [Nat.mul_add];omega,show q * (j + 1)=q * j + q by rw [Nat.mul_add];omega]
   exact this
theorem minP_sm {k q m r:Nat} {x y u v:Dyadic} (hx:Sm k q x) (hy:Sm k q y) (hu:Sm m r u) (hv:Sm m r v):Sm (k + m) (q + r) (minP x y u v):=by
 rcases (minP_spec x y u v).2 with e|e|e|e<;>rw [e]
 ·exact hx.mul hu
 ·exact hx.mul hv
 ·exact hy.mul hu
 ·exact hy.mul hv
theorem maxP_sm {k q m r:Nat} {x y u v:Dyadic} (hx:Sm k q x) (hy:Sm k q y) (hu:Sm m r u) (hv:Sm m r v):Sm (k + m) (q + r) (maxP x y u v):=by
 rcases (maxP_spec x y u v).2 with e|e|e|e<;>rw [e]
 ·exact hx.mul hu
 ·exact hx.mul hv
 ·exact hy.mul hu
 ·exact hy.mul hv
theorem loD_sm {k q:Nat} {x y:Dyadic} (hx:Sm k q x) (hy:Sm k q y):Sm k q (loD x y):=by unfold loD;split<;>assumption
theorem hiD_sm {k q:Nat} {x y:Dyadic} (hx:Sm k q x) (hy:Sm k q y):Sm k q (hiD x y):=by unfold hiD;split<;>assumption
theorem loP_sm {k q j:Nat} {x y:Dyadic} (hx:Sm k q x) (hy:Sm k q y):Sm (1 + k * j) (q * j) (loP x y j):=by
 unfold loP;split
 ·exact Sm.zero
 ·exact loD_sm (powD_sm hx j) (powD_sm hy j)
theorem hiP_sm {k q j:Nat} {x y:Dyadic} (hx:Sm k q x) (hy:Sm k q y):Sm (1 + k * j) (q * j) (hiP x y j):=hiD_sm (powD_sm hx j) (powD_sm hy j)
theorem Sm.rdOk {k q p:Nat} {up:Bool} {v:Dyadic} (h:Sm k q v) (hk:k≤2000) (hq:q≤2000) (h8:8≤p) (h256:p≤256):OkD (Go.V.rd p up v):=((h.bx).rd (by omega)).ok (by omega) (by omega)
theorem outR_ok {p:Nat} {l h:Dyadic} (ol:OkD (rd p false l)) (oh:OkD (rd p true h)):outR p l h=(ivD (rd p false l) (rd p true h),0):=by
 unfold outR
 rw [numR_ok ol,numR_ok oh];rfl
theorem rightI_yes {x y:Dyadic} (hx:OkD x) (hy:OkD y) (h:x≤y):rightI (ivD x y)=true:=by rw [rightI_D hx hy];exact decide_eq_true h
theorem ivD_l {x y:Dyadic}:(ivD x y).lo.val=x:=val_nuOf x
theorem ivD_h {x y:Dyadic}:(ivD x y).hi.val=y:=val_nuOf y
theorem opI_ok {p:Nat} {x y u v l h:Dyadic} (ox:OkD x) (oy:OkD y) (ou:OkD u) (ov:OkD v) (hxy:x≤y) (huv:u≤v) (h8:8≤p) (h256:p≤256) (ol:OkD (rd p false l)) (oh:OkD (rd p true h)):opI (ivD x y) (ivD u v) p l h=(ivD (rd p false l) (rd p true h),0):=by
 unfold opI
 rw [rightI_yes ox oy hxy,rightI_yes ou ov huv,okP_of h8 h256]
 exact outR_ok ol oh
theorem pwI_ok {p j:Nat} {x y:Dyadic} (ox:OkD x) (oy:OkD y) (hxy:x≤y) (h8:8≤p) (h256:p≤256) (hj:j≤8) (ol:OkD (rd p false (loP x y j))) (oh:OkD (rd p true (hiP x y j))):pwI (ivD x y) (j:Int) p=(ivD (rd p false (loP x y j)) (rd p true (hiP x y j)),0):=by
 unfold pwI
 rw [rightI_yes ox oy hxy,okP_of h8 h256,decide_eq_true (by omega),decide_eq_true (by omega),ivD_l,ivD_h]
 exact outR_ok ol oh
end Go.V
namespace Go.V
open Go Go.RowKit Go.Proofs
attribute [go_sem] eI_0 eU_0
def gI (l:List Iv) (i:Nat):Iv:=l.getD i iv0
theorem gI_at {l:List Iv} {i:Nat} (h:i<l.length):l[i]? = some (gI l i):=by simp [gI,List.getD,List.getElem?_eq_getElem h]
theorem gI_mem {l:List Iv} {i:Nat} (h:i<l.length):gI l i ∈ l:=List.mem_of_getElem? (gI_at h)
end Go.V
namespace Go.V
open Go Go.RowKit Go.Proofs
inductive Box (p:Prop):Type where
 | a
 | b
structure Hid (p:Prop) (x:Box p:=.a):Prop where
 out:p
theorem hide (I0:DEnv→Store→Prop):∃ I:DEnv→Store→Prop,(∀ e S,I0 e S→I e S)∧∀ e S,I e S→I0 e S:=⟨I0,fun _ _ h=>h,fun _ _ h=>h⟩
def addI (p:Int) (a b:Iv):Iv × Int:=opI a b p (a.lo.val + b.lo.val) (a.hi.val + b.hi.val)
def mulI (p:Int) (a b:Iv):Iv × Int:=opI a b p (minP a.lo.val a.hi.val b.lo.val b.hi.val) (maxP a.lo.val a.hi.val b.lo.val b.hi.val)
theorem opI_err {a b:Iv} {p:Int} {l h:Dyadic} (h1:(opI a b p l h).2≠0):(opI a b p l h).1=iv0:=by
 revert h1
 unfold opI outR
 split
 ·split
  ·split
   ·intro h;exact absurd rfl h
   ·intro _;rfl
  ·intro _;rfl
 ·intro _;rfl
theorem wl0:Wl 65536 nu0:=by rw [← nuOf_zero];exact (OkD.zero.sz).wl
theorem wi0:Wi 65536 iv0:=⟨wl0,wl0⟩
theorem opI_wi {a b:Iv} {p:Int} {l h:Dyadic}:Wi 65536 (opI a b p l h).1:=by
 unfold opI outR numR
 by_cases h1:(nuOf (rd p.toNat false l)).Ok<;>by_cases h2:(nuOf (rd p.toNat true h)).Ok
 ·have o1:OkD (rd p.toNat false l):=h1
  have o2:OkD (rd p.toNat true h):=h2
  rw [if_pos h1,if_pos h2]
  split
  ·exact wi_D o1 o2
  ·exact wi0
 ·rw [if_pos h1,if_neg h2];split<;>exact wi0
 ·rw [if_neg h1];split<;>exact wi0
 ·rw [if_neg h1];split<;>exact wi0
structure Mo where
 c:Nu
 e:List Int
def mo0:Mo:=⟨nu0,[]⟩
def gM (l:List Mo) (i:Nat):Mo:=l.getD i mo0
def cmpE:List Int→List Int→Int
 | [],[]=>0
 | [],_ :: _ => -1
 | _ :: _,[]=>1
 | x :: a,y :: b=>if x<y then -1 else if y<x then 1 else cmpE a b
theorem cmpE_self:∀ a,cmpE a a=0
 | []=>rfl
 | x :: a=>by unfold cmpE;rw [if_neg (by omega),if_neg (by omega)];exact cmpE_self a
def monoB (m:Mo) (n:Int):Bool:=decide ((m.e.length:Int)=n) && decide (∀ x ∈ m.e,0≤x) && decide (m.e.sum≤8) && rightB m.c
def monosB (q:List Mo) (n:Int):Bool:=decide (∀ i,i<q.length→monoB (gM q i) n=true∧(gM q i).c.w≠[]∧(0<i→cmpE (gM q i).e (gM q (i - 1)).e<0))
def polyB (q:List Mo) (n:Int):Bool:=decide (1≤n) && decide (n≤4) && decide (q.length≤24) && monosB q n
end Go.V
namespace Go.V
open Go Go.RowKit Go.Proofs
def cI (a:Iv):List D:=[bl a.lo.neg,i64 a.lo.exp,W64 a.lo.w,bl a.hi.neg,i64 a.hi.exp,W64 a.hi.w]
end Go.V
namespace Go.V
open Go Go.RowKit Go.Proofs
def qT3_48_4:List (Nat × Nat):=[(0,0),(1,0),(2,0),(3,1),(4,0),(5,0),(6,0),(7,1),(8,0)]
def qT3_48_6:List (Nat × Nat):=[(0,0),(1,0),(2,0),(3,1),(4,0),(5,0),(6,0),(7,1),(8,0)]
attribute [go_sem] qT3_48_4 qT3_48_6
def eZ (x:Int):List G:=[.lit (.int .i64 x)]
def eM (m:Mo):List G:=[.lit (.bool m.c.neg),.lit (.int .i64 m.c.exp),eS (eK .u64) m.c.w,eS eZ m.e]
def ZI (l:List Int):D:=.g (eS eZ l)
def MO (m:Mo):D:=.agg [bl m.c.neg,i64 m.c.exp,W64 m.c.w,.g (eS eZ m.e)]
def MM (l:List Mo):D:=.g (eS eM l)
theorem eZ_0 {x:Int}:eZ x=[.lit (.int .i64 x)]:=rfl
theorem eM_0 {m:Mo}:eM m=[.lit (.bool m.c.neg),.lit (.int .i64 m.c.exp),eS (eK .u64) m.c.w,eS eZ m.e]:=rfl
attribute [go_sem] eZ_0 eM_0 MO
theorem gM_at {l:List Mo} {i:Nat} (h:i<l.length):l[i]? = some (gM l i):=by simp [gM,List.getD,List.getElem?_eq_getElem h]
theorem gM_mem {l:List Mo} {i:Nat} (h:i<l.length):gM l i ∈ l:=List.mem_of_getElem? (gM_at h)
structure Wm (m:Mo):Prop where
 c:Wl 65536 m.c
 n:m.e.length≤100000
structure WfM (l:List Mo):Prop where
 n:l.length≤100000
 w:∀ m ∈ l,Wm m
theorem WfM.at_ {l:List Mo} (h:WfM l) {i:Nat} (hi:i<l.length):Wm (gM l i):=h.w _ (gM_mem hi)
theorem zget {l:List Int} {i:Nat} (h:i<l.length):l[i]? = some (l.getD i 0):=by simp [List.getD,List.getElem?_eq_getElem h]
theorem sum_take_le:∀ {l:List Int} (i:Nat),(∀ x ∈ l,0≤x)→(l.take i).sum≤l.sum
 | [],i,_=>by simp
 | x :: l,0,h=>by
   have h1:=sum_take_le (l:=l) 0 (fun y hy=>h y (List.mem_cons_of_mem _ hy))
   have h2:=h x List.mem_cons_self
   simp only [List.take_zero,List.sum_nil,List.sum_cons] at h1 ⊢;omega
 | x :: l,i + 1,h=>by
   have h1:=sum_take_le (l:=l) i (fun y hy=>h y (List.mem_cons_of_mem _ hy))
   simp only [List.take_succ_cons,List.sum_cons];omega
theorem sum_take_succ {l:List Int} {i:Nat} {x:Int} (h:l[i]? = some x):(l.take (i + 1)).sum=(l.take i).sum + x:=by
 rw [List.take_add_one,h,List.sum_append];simp
theorem cmpE_drop {a b:List Int} {i:Nat} {x y:Int} (ha:a[i]? = some x) (hb:b[i]? = some y):cmpE (a.drop i) (b.drop i)=if x<y then -1 else if y<x then 1 else cmpE (a.drop (i + 1)) (b.drop (i + 1)):=by
 obtain ⟨hi,rfl⟩:=List.getElem?_eq_some_iff.1 ha
 obtain ⟨hj,rfl⟩:=List.getElem?_eq_some_iff.1 hb
 rw [List.drop_eq_getElem_cons hi,List.drop_eq_getElem_cons hj];rfl
set_option maxHeartbeats 1000000 in
theorem p_sCompare {a b:List Int} (ha:a.length≤100000) (hb:b.length≤100000):PC Tryz.prog 90 [ZI a,ZI b] fun d=>d=i64 (cmpE a b):=by
 unfold ZI
 generalize hr:cmpE a b=r
 refine PB (rs:=[.tmp 4]) Tryz.func90 ?_
 repeat (first|(with_reducible first|refine pv_seq fun K hK=>?_|((first|refine hK _ _ ?_|(clear hK;refine hK _ _ ?_)|(clear hK;clear hK;refine hK _ _ ?_));clear hK;try clear K))| refine W0 ?_|exact Z|with_reducible intro b)
 refine pv_loop (fun e S=>∃ i:Nat,i≤a.length∧i≤b.length∧e 0=.g (eS eZ a)∧e 1=.g (eS eZ b)∧e 9=.g (eS eZ a)∧e 10=i64 a.length∧e 11=i64 i∧cmpE (a.drop i) (b.drop i)=r) (fun e _=>a.length - (intD (e 11)).toNat) ?_ ?_
 ·exact ⟨0,Nat.zero_le _,Nat.zero_le _,Zr,Zr,Zr,Zr,Zr,hr⟩
 ·rintro e S ⟨i,hi,hj,g0,g1,g9,g10,g11,hc⟩
  have ft:=And.intro g0 (And.intro g1 (And.intro g9 (And.intro g10 g11)))
  repeat (first|(with_reducible first|refine pv_seq fun K hK=>?_|((first|refine hK _ _ ?_|(clear hK;refine hK _ _ ?_)|(clear hK;clear hK;refine hK _ _ ?_));clear hK;try clear K))| refine W0 ?_|exact Z|with_reducible intro b)
  refine pv_cdD (fun ht=>?_) (fun ht=>?_)
  ·have hil:i<a.length:=by omega
   have q1:=zget hil
   by_cases hjl:i<b.length
   ·have k1:((b.length:Int)≤(i:Int))=False:=eq_false (by omega)
    have q2:=zget hjl
    rw [cmpE_drop q1 q2] at hc
    have pC:=p_cmpint (a:=a.getD i 0) (b:=b.getD i 0)
    unfold cmpI at pC
    generalize a.getD i 0=x at *
    generalize b.getD i 0=y at *
    by_cases h1:x<y
    ·rw [if_pos h1] at hc pC
     subst hc
     have ft:=And.intro g0 (And.intro g1 (And.intro g9 (And.intro g10 (And.intro g11 (And.intro q1 (And.intro q2 k1))))))
     exact Wk
    ·rw [if_neg h1] at hc pC
     by_cases h2:y<x
     ·rw [if_pos h2] at hc pC
      subst hc
      have ft:=And.intro g0 (And.intro g1 (And.intro g9 (And.intro g10 (And.intro q1 (And.intro g11 (And.intro q2 k1))))))
      exact Wk
     ·rw [if_neg h2] at hc pC
      have ft:=And.intro g0 (And.intro g1 (And.intro g9 (And.intro q1 (And.intro g10 (And.intro g11 (And.intro q2 k1))))))
      repeat (first|(with_reducible first|refine pv_seq fun K hK=>?_|((first|refine hK _ _ ?_|(clear hK;refine hK _ _ ?_)|(clear hK;clear hK;refine hK _ _ ?_));clear hK;try clear K))| refine W ?_|exact Z|with_reducible intro b)
      exact ⟨⟨i + 1,by omega,by omega,rfl,hc⟩,by simp only [intD];omega⟩
   ·have k1:((b.length:Int)≤(i:Int))=True:=eq_true (by omega)
    have h1:r=1:=by
     rw [← hc,List.drop_eq_getElem_cons hil,List.drop_eq_nil_of_le (show b.length≤i by omega)];rfl
    subst h1
    have ft:=And.intro g0 (And.intro g1 (And.intro g9 (And.intro g10 (And.intro g11 (And.intro k1 q1)))))
    exact Wk
  ·obtain rfl:i=a.length:=by omega
   rw [List.drop_length] at hc
   by_cases hlt:a.length<b.length
   ·have k1:((a.length:Int)<(b.length:Int))=True:=eq_true (by omega)
    have h1:r = -1:=by
     rw [← hc,List.drop_eq_getElem_cons hlt];rfl
    subst h1
    have ft:=And.intro g0 (And.intro g1 (And.intro g9 (And.intro g10 (And.intro g11 k1))))
    exact Wk
   ·have k1:((a.length:Int)<(b.length:Int))=False:=eq_false (by omega)
    have h1:r=0:=by
     rw [← hc,List.drop_eq_nil_of_le (show b.length≤a.length by omega)];rfl
    subst h1
    have ft:=And.intro g0 (And.intro g1 (And.intro g9 (And.intro g10 (And.intro k1 g11))))
    exact Wk
theorem p_ahead {a b:Mo} (ha:a.e.length≤100000) (hb:b.e.length≤100000):PC Tryz.prog 46 [MO a,MO b] fun d=>d=i64 (cmpE b.e a.e):=by
 have pC:=p_sCompare hb ha
 obtain ⟨⟨n1,e1,w1⟩,z1⟩:=a
 obtain ⟨⟨n2,e2,w2⟩,z2⟩:=b
 unfold ZI at pC
 simp only at pC ⊢
 generalize cmpE z2 z1=r at *
 refine PB (rs:=[.tmp 4]) Tryz.func46 ?_
 exact Wk
def ordE:List Int→List Int→Int
 | x :: a,y :: b=>if y<x then 1 else if x<y then -1 else ordE a b
 | _,_=>0
theorem ordE_drop {a b:List Int} {i:Nat} {x y:Int} (ha:a[i]? = some x) (hb:b[i]? = some y):ordE (a.drop i) (b.drop i)=if y<x then 1 else if x<y then -1 else ordE (a.drop (i + 1)) (b.drop (i + 1)):=by
 obtain ⟨hi,rfl⟩:=List.getElem?_eq_some_iff.1 ha
 obtain ⟨hj,rfl⟩:=List.getElem?_eq_some_iff.1 hb
 rw [List.drop_eq_getElem_cons hi,List.drop_eq_getElem_cons hj];rfl
theorem ordE_nil {a b:List Int} {i:Nat} (h:a.length≤i∨b.length≤i):ordE (a.drop i) (b.drop i)=0:=by
 rcases h with h|h
 ·rw [List.drop_eq_nil_of_le h];rfl
 ·rw [List.drop_eq_nil_of_le h];cases a.drop i<;>rfl
theorem ordE_cmpE:∀ {a b:List Int},a.length=b.length→ordE a b = - cmpE b a
 | [],[],_=>rfl
 | x :: a,y :: b,h=>by
   have ih:=ordE_cmpE (a:=a) (b:=b) (by simpa using h)
   unfold ordE cmpE
   rw [ih]
   by_cases h1:y<x
   ·rw [if_pos h1,if_pos h1];rfl
   ·rw [if_neg h1,if_neg h1]
    by_cases h2:x<y
    ·rw [if_pos h2,if_pos h2]
    ·rw [if_neg h2,if_neg h2]
theorem cmpE_cases:∀ (a b:List Int),cmpE a b = -1∨cmpE a b=0∨cmpE a b=1
 | [],[]=>.inr (.inl rfl)
 | [],_ :: _=>.inl rfl
 | _ :: _,[]=>.inr (.inr rfl)
 | x :: a,y :: b=>by
   unfold cmpE
   split
   ·exact .inl rfl
   ·split
    ·exact .inr (.inr rfl)
    ·exact cmpE_cases a b
set_option maxHeartbeats 1000000 in
theorem p_rOrdE {a b:List Int} (ha:a.length≤100000) (hb:b.length≤100000):PC Tryz.prog 48 [ZI a,ZI b] fun d=>d=i64 (ordE a b):=by
 unfold ZI
 generalize hr:ordE a b=r
 have d1:=@dl 4 qT3_48_4
 have d2:=@dl 6 qT3_48_6
 refine PB (rs:=[.tmp 4]) Tryz.func48 ?_
 repeat (first|(with_reducible first|refine pv_seq fun K hK=>?_|((first|refine hK _ _ ?_|(clear hK;refine hK _ _ ?_)|(clear hK;clear hK;refine hK _ _ ?_));clear hK;try clear K))| refine W0 ?_|exact Z|with_reducible intro b)
 have J:∀ (e:DEnv) (S:Store),r=0→K e S:=by
  intro e S h
  subst h
  exact Wk
 clear hK
 refine pv_loop (fun e S=>∃ i:Nat,i≤a.length∧i≤b.length∧e 0=.g (eS eZ a)∧e 1=.g (eS eZ b)∧e 5=i64 i∧ordE (a.drop i) (b.drop i)=r) (fun e _=>a.length - (intD (e 5)).toNat) ?_ ?_
 ·exact ⟨0,Nat.zero_le _,Nat.zero_le _,Zr,Zr,Zr,hr⟩
 ·rintro e S ⟨i,hi,hj,g0,g1,g5,hc⟩
  by_cases hil:i<a.length
  ·have k1:((i:Int)<(a.length:Int))=True:=eq_true (by omega)
   by_cases hjl:i<b.length
   ·have k2:((i:Int)<(b.length:Int))=True:=eq_true (by omega)
    have q1:=zget hil
    have q2:=zget hjl
    rw [ordE_drop q1 q2] at hc
    generalize a.getD i 0=x at *
    generalize b.getD i 0=y at *
    by_cases h1:y<x
    ·rw [if_pos h1] at hc
     have h1':=eq_true h1
     subst hc
     have ft:=And.intro g0 (And.intro g1 (And.intro g5 (And.intro q1 (And.intro q2 (And.intro k1 (And.intro k2 h1'))))))
     exact Wk
    ·rw [if_neg h1] at hc
     have h1':=eq_false h1
     by_cases h2:x<y
     ·rw [if_pos h2] at hc
      have h2':=eq_true h2
      subst hc
      have ft:=And.intro g0 (And.intro g1 (And.intro g5 (And.intro q1 (And.intro q2 (And.intro k1 (And.intro k2 (And.intro h1' h2')))))))
      exact Wk
     ·rw [if_neg h2] at hc
      have h2':=eq_false h2
      have ft:=And.intro g0 (And.intro g1 (And.intro q1 (And.intro g5 (And.intro q2 (And.intro k1 (And.intro k2 (And.intro h1' h2')))))))
      repeat (first|(with_reducible first|refine pv_seq fun K hK=>?_|((first|refine hK _ _ ?_|(clear hK;refine hK _ _ ?_)|(clear hK;clear hK;refine hK _ _ ?_));clear hK;try clear K))| refine W0 ?_|exact Z|with_reducible intro b)
      exact ⟨⟨i + 1,by omega,by omega,rfl,hc⟩,by simp only [intD];omega⟩
   ·have k2:((i:Int)<(b.length:Int))=False:=eq_false (by omega)
    rw [ordE_nil (.inr (by omega))] at hc
    have ft:=And.intro g0 (And.intro g1 (And.intro g5 (And.intro k1 k2)))
    repeat (first|(with_reducible first|refine pv_seq fun K hK=>?_|((first|refine hK _ _ ?_|(clear hK;refine hK _ _ ?_)|(clear hK;clear hK;refine hK _ _ ?_));clear hK;try clear K))| refine W0 ?_|exact Z|with_reducible intro b)
    exact J _ _ hc.symm
  ·have k1:((i:Int)<(a.length:Int))=False:=eq_false (by omega)
   rw [ordE_nil (.inl (by omega))] at hc
   have ft:=And.intro g0 (And.intro g1 (And.intro g5 k1))
   repeat (first|(with_reducible first|refine pv_seq fun K hK=>?_|((first|refine hK _ _ ?_|(clear hK;refine hK _ _ ?_)|(clear hK;clear hK;refine hK _ _ ?_));clear hK;try clear K))| refine W0 ?_|exact Z|with_reducible intro b)
   exact J _ _ hc.symm
theorem monoB_neg {m:Mo} {n:Int} {i:Nat} {x:Int} (h:m.e[i]? = some x) (hx:x<0):monoB m n=false:=by
 unfold monoB
 rw [decide_eq_false (p:=∀ x ∈ m.e,0≤x) (fun h2=>by have:=h2 x (List.mem_of_getElem? h);omega),Bool.and_false];rfl
theorem monoB_big {m:Mo} {n:Int} {i:Nat} (h:8<(m.e.take i).sum):monoB m n=false:=by
 unfold monoB
 by_cases h2:∀ x ∈ m.e,0≤x
 ·have:=sum_take_le (l:=m.e) i h2
  rw [decide_eq_false (p:=m.e.sum≤8) (by omega),Bool.and_false];rfl
 ·rw [decide_eq_false h2,Bool.and_false];rfl
theorem monoB_len {m:Mo} {n:Int} (h:¬ (m.e.length:Int)=n):monoB m n=false:=by
 unfold monoB;rw [decide_eq_false h];rfl
theorem monoB_is {m:Mo} {n:Int} (h1:(m.e.length:Int)=n) (h2:∀ i,i<m.e.length→0≤m.e.getD i 0) (h3:(m.e.take m.e.length).sum≤8):monoB m n=rightB m.c:=by
 unfold monoB
 have h2':∀ x ∈ m.e,0≤x:=fun x hx=>by
  obtain ⟨i,hi⟩:=List.mem_iff_getElem?.1 hx
  have hil:i<m.e.length:=(List.getElem?_eq_some_iff.1 hi).1
  have:=h2 i hil
  rw [zget hil] at hi
  injection hi with hi;omega
 rw [List.take_length] at h3
 rw [decide_eq_true h1,decide_eq_true h2',decide_eq_true h3];rfl
theorem z_step {l:List Int} {i:Nat} {x:Int} (hz:∀ j,j<i→0≤l.getD j 0) (h:l.getD i 0=x) (hx:0≤x):∀ j,j<i + 1→0≤l.getD j 0:=fun j hj=>by
 rcases Nat.lt_or_ge j i with h1|h1
 ·exact hz j h1
 ·obtain rfl:j=i:=by omega
  omega
set_option maxHeartbeats 1000000 in
theorem p_mono {m:Mo} {n:Int} (hm:Wm m):PC Tryz.prog 45 [MO m,i64 n] fun d=>d=bl (monoB m n):=by
 have pR:=p_nRight hm.c.b
 have hne:=fun (i:Nat) (x:Int)=>monoB_neg (m:=m) (n:=n) (i:=i) (x:=x)
 have hbg:=fun (i:Nat)=>monoB_big (m:=m) (n:=n) (i:=i)
 have hln:=monoB_len (m:=m) (n:=n)
 have his:=monoB_is (m:=m) (n:=n)
 have hn1:=hm.n
 clear hm
 generalize monoB m n=r at *
 obtain ⟨c,z⟩:=m
 simp only at *
 generalize rightB c=s at *
 obtain ⟨n1,e1,w1⟩:=c
 refine PB (rs:=[.tmp 4]) Tryz.func45 ?_
 repeat (first|(with_reducible first|refine pv_seq fun K hK=>?_|((first|refine hK _ _ ?_|(clear hK;refine hK _ _ ?_)|(clear hK;clear hK;refine hK _ _ ?_));clear hK;try clear K))| refine W0 ?_|exact Z|with_reducible intro b)
 refine pv_loop (fun e S=>Hid (∃ (i b2:Nat) (t:Int),i≤z.length∧e 1=i64 n∧e 2=.ptr (.l 2) b2 0 0 4∧e 5=i64 (8 - t)∧e 9=.g (eS eZ z)∧e 10=i64 z.length∧e 11=i64 i∧t=(z.take i).sum∧t≤8∧0≤t∧(∀ j,j<i→0≤z.getD j 0)∧S (.l 2)=some ⟨b2,4,0,[[bl n1,i64 e1,W64 w1,.g (eS eZ z)]]⟩)) (fun e _=>z.length - (intD (e 11)).toNat) ?_ ?_
 ·exact ⟨0,_,0,Nat.zero_le _,Zr,Zr,Zr,Zr,Zr,Zr,rfl,by omega,by omega,fun j hj=>by omega,Zr⟩
 ·rintro e S ⟨i,b2,t,hi,g1,g2,g5,g9,g10,g11,ht1,ht2,ht3,hz,s2⟩
  have ft:=And.intro g1 (And.intro g2 (And.intro g5 (And.intro g9 (And.intro g10 (And.intro g11 s2)))))
  repeat (first|(with_reducible first|refine pv_seq fun K hK=>?_|((first|refine hK _ _ ?_|(clear hK;refine hK _ _ ?_)|(clear hK;clear hK;refine hK _ _ ?_));clear hK;try clear K))| refine W0 ?_|exact Z|with_reducible intro b)
  refine pv_cdD (fun ht=>?_) (fun ht=>?_)
  ·have hil:i<z.length:=by omega
   have q1:=zget hil
   have hsum:=sum_take_succ q1
   have hst:=fun h=>z_step (l:=z) (i:=i) (x:=z.getD i 0) hz rfl h
   generalize z.getD i 0=x at *
   by_cases h1:x<0
   ·have h1':=eq_true h1
    have hr:=hne i x q1 h1
    subst hr
    have ft:=And.intro g1 (And.intro g2 (And.intro g5 (And.intro g9 (And.intro g10 (And.intro g11 (And.intro s2 (And.intro q1 h1')))))))
    exact Wk
   ·have h1':=eq_false h1
    by_cases h2:8 - t<x
    ·have h2':=eq_true h2
     have hr:=hbg (i + 1) (by omega)
     subst hr
     have ft:=And.intro g1 (And.intro g2 (And.intro g5 (And.intro g9 (And.intro g10 (And.intro g11 (And.intro s2 (And.intro q1 (And.intro h1' h2'))))))))
     exact Wk
    ·have h2':=eq_false h2
     have hsb:8 - t - x=8 - (t + x):=by omega
     have ft:=And.intro g1 (And.intro g2 (And.intro g5 (And.intro g9 (And.intro g10 (And.intro g11 (And.intro s2 (And.intro q1 (And.intro h1' (And.intro h2' hsb)))))))))
     repeat (first|(with_reducible first|refine pv_seq fun K hK=>?_|((first|refine hK _ _ ?_|(clear hK;refine hK _ _ ?_)|(clear hK;clear hK;refine hK _ _ ?_));clear hK;try clear K))| refine W0 ?_|exact Z|with_reducible intro b)
     exact ⟨⟨i + 1,b2,t + x,by omega,Zr,Zr,Zr,Zr,Zr,Zr,by omega,by omega,by omega,hst (by omega),Zr⟩,by simp only [intD];omega⟩
  ·obtain rfl:i=z.length:=by omega
   by_cases h1:(z.length:Int)=n
   ·have h1':=eq_true h1
    have hr:=his h1 hz (by omega)
    subst hr
    have ft:=And.intro g1 (And.intro g2 (And.intro g5 (And.intro g9 (And.intro g10 (And.intro g11 (And.intro s2 h1'))))))
    exact Wk
   ·have h1':=eq_false h1
    have hr:=hln h1
    subst hr
    have ft:=And.intro g1 (And.intro g2 (And.intro g5 (And.intro g9 (And.intro g10 (And.intro g11 (And.intro s2 h1'))))))
    exact Wk
set_option maxHeartbeats 1000000 in
theorem p_rMono {m:Mo} {n:Int} (hm:Wm m) (h4:n≤4):PC Tryz.prog 47 [MO m,i64 n] fun d=>d=bl (monoB m n):=by
 have pR:=p_rRight hm.c.b
 have hne:=fun (i:Nat) (x:Int)=>monoB_neg (m:=m) (n:=n) (i:=i) (x:=x)
 have hbg:=fun (i:Nat)=>monoB_big (m:=m) (n:=n) (i:=i)
 have hln:=monoB_len (m:=m) (n:=n)
 have his:=monoB_is (m:=m) (n:=n)
 have hn1:=hm.n
 clear hm
 generalize monoB m n=r at *
 obtain ⟨c,z⟩:=m
 simp only at *
 generalize rightB c=s at *
 obtain ⟨n1,e1,w1⟩:=c
 have hbx:∀ (i:Nat) (x:Int),z[i]? = some x→(∀ j,j<i→0≤z.getD j 0)→8<x→r=false:=by
  intro i x hx hz h8
  refine hbg (i + 1) ?_
  rw [sum_take_succ hx]
  have:0≤(z.take i).sum:=by
   have:∀ y ∈ z.take i,0≤y:=fun y hy=>by
    obtain ⟨j,hj⟩:=List.mem_iff_getElem?.1 hy
    rw [List.getElem?_take] at hj
    split at hj
    ·rename_i hji
     have hjl:j<z.length:=(List.getElem?_eq_some_iff.1 hj).1
     have:=hz j hji
     rw [zget hjl] at hj
     injection hj with hj;omega
    ·cases hj
   have h0:=sum_take_le (l:=z.take i) 0 this
   simpa using h0
  omega
 refine PB (rs:=[.tmp 4]) Tryz.func47 ?_
 repeat (first|(with_reducible first|refine pv_seq fun K hK=>?_|((first|refine hK _ _ ?_|(clear hK;refine hK _ _ ?_)|(clear hK;clear hK;refine hK _ _ ?_));clear hK;try clear K))| refine W0 ?_|exact Z|with_reducible intro b)
 have J:∀ (e:DEnv) (S:Store) (i b2:Nat) (t:Int),i≤z.length→(z.length≤i∨4≤i)→e 1=i64 n→e 2=.ptr (.l 2) b2 0 0 4→e 5=i64 t→t=(z.take i).sum→(∀ j,j<i→0≤z.getD j 0)→S (.l 2)=some ⟨b2,4,0,[[bl n1,i64 e1,W64 w1,.g (eS eZ z)]]⟩→K e S:=by
  intro e S i b2 t hi hi2 g1 g2 g5 ht hz s2
  by_cases h1:(z.length:Int)=n
  ·have h1':=eq_true h1
   obtain rfl:i=z.length:=by omega
   by_cases h2:t≤8
   ·have h2':=eq_true h2
    have hr:=his h1 hz (by omega)
    subst hr
    have ft:=And.intro g1 (And.intro g2 (And.intro g5 (And.intro s2 (And.intro h1' h2'))))
    exact Wk
   ·have h2':=eq_false h2
    have hr:=hbg z.length (by omega)
    subst hr
    have ft:=And.intro g1 (And.intro g2 (And.intro g5 (And.intro s2 (And.intro h1' h2'))))
    exact Wk
  ·have h1':=eq_false h1
   have hr:=hln h1
   subst hr
   have ft:=And.intro g1 (And.intro g2 (And.intro g5 (And.intro s2 h1')))
   exact Wk
 clear hK
 refine pv_loop (fun e S=>Hid (∃ (i b2:Nat) (t:Int),i≤z.length∧i≤4∧e 1=i64 n∧e 2=.ptr (.l 2) b2 0 0 4∧e 5=i64 t∧e 6=i64 i∧t=(z.take i).sum∧0≤t∧t≤8 * i∧(∀ j,j<i→0≤z.getD j 0)∧S (.l 2)=some ⟨b2,4,0,[[bl n1,i64 e1,W64 w1,.g (eS eZ z)]]⟩)) (fun e _=>z.length - (intD (e 6)).toNat) ?_ ?_
 ·exact ⟨0,_,0,Nat.zero_le _,by omega,Zr,Zr,Zr,Zr,rfl,by omega,by omega,fun j hj=>by omega,Zr⟩
 ·rintro e S ⟨i,b2,t,hi,hi4,g1,g2,g5,g6,ht1,ht2,ht3,hz,s2⟩
  by_cases hil:i<z.length
  ·have k1:((i:Int)<(z.length:Int))=True:=eq_true (by omega)
   by_cases hi5:i<4
   ·have k2:((i:Int)<4)=True:=eq_true (by omega)
    have q1:=zget hil
    have hsum:=sum_take_succ q1
    have hst:=fun h=>z_step (l:=z) (i:=i) (x:=z.getD i 0) hz rfl h
    generalize z.getD i 0=x at *
    by_cases h1:x<0
    ·have h1':=eq_true h1
     have hr:=hne i x q1 h1
     subst hr
     have ft:=And.intro g1 (And.intro g2 (And.intro g5 (And.intro g6 (And.intro s2 (And.intro q1 (And.intro h1' (And.intro k1 k2)))))))
     exact Wk
    ·have h1':=eq_false h1
     by_cases h2:8<x
     ·have h2':=eq_true h2
      have hr:=hbx i x q1 hz h2
      subst hr
      have ft:=And.intro g1 (And.intro g2 (And.intro g5 (And.intro g6 (And.intro s2 (And.intro q1 (And.intro h1' (And.intro h2' (And.intro k1 k2))))))))
      exact Wk
     ·have h2':=eq_false h2
      have ft:=And.intro g1 (And.intro g2 (And.intro g5 (And.intro g6 (And.intro s2 (And.intro q1 (And.intro h1' (And.intro h2' (And.intro k1 k2))))))))
      repeat (first|(with_reducible first|refine pv_seq fun K hK=>?_|((first|refine hK _ _ ?_|(clear hK;refine hK _ _ ?_)|(clear hK;clear hK;refine hK _ _ ?_));clear hK;try clear K))| refine W0 ?_|exact Z|with_reducible intro b)
      exact ⟨⟨i + 1,b2,t + x,by omega,by omega,Zr,Zr,Zr,Zr,by omega,by omega,by omega,hst (by omega),Zr⟩,by simp only [intD];omega⟩
   ·have k2:((i:Int)<4)=False:=eq_false (by omega)
    have ft:=And.intro g1 (And.intro g2 (And.intro g5 (And.intro g6 (And.intro s2 (And.intro k1 k2)))))
    repeat (first|(with_reducible first|refine pv_seq fun K hK=>?_|((first|refine hK _ _ ?_|(clear hK;refine hK _ _ ?_)|(clear hK;clear hK;refine hK _ _ ?_));clear hK;try clear K))| refine W0 ?_|exact Z|with_reducible intro b)
    exact J _ _ i b2 t hi (.inr (by omega)) Zr Zr Zr ht1 hz Zr
  ·have k1:((i:Int)<(z.length:Int))=False:=eq_false (by omega)
   have ft:=And.intro g1 (And.intro g2 (And.intro g5 (And.intro g6 (And.intro s2 k1))))
   repeat (first|(with_reducible first|refine pv_seq fun K hK=>?_|((first|refine hK _ _ ?_|(clear hK;refine hK _ _ ?_)|(clear hK;clear hK;refine hK _ _ ?_));clear hK;try clear K))| refine W0 ?_|exact Z|with_reducible intro b)
   exact J _ _ i b2 t hi (.inl (by omega)) Zr Zr Zr ht1 hz Zr
end Go.V
namespace Go.V
open Go Go.RowKit Go.Proofs
def qT4_13_4:List (Nat × Nat):=[(0,1),(1,0),(2,3),(3,0),(4,0),(5,0),(6,0),(7,1),(8,0),(9,0),(10,0),(11,0),(12,0),(13,0),(14,0),(15,0),(16,0),(17,0),(18,0),(19,1),(20,1),(21,3),(22,0),(23,0),(24,0)]
def qT4_14_6:List (Nat × Nat):=[(0,0),(1,0),(2,0),(3,1),(4,0),(5,3),(6,0),(7,0),(8,0),(9,0),(10,0),(11,0),(12,0),(13,1),(14,0),(15,0),(16,0),(17,0),(18,0),(19,0),(20,0),(21,0),(22,0),(23,0),(24,0),(25,0),(26,1),(27,0),(28,0),(29,0),(30,0),(31,1),(32,3),(33,0),(34,0),(35,0)]
attribute [go_sem] qT4_13_4 qT4_14_6
def atB (q:List Mo) (n:Int) (i:Nat):Prop:=monoB (gM q i) n=true∧(gM q i).c.w≠[]∧(0<i→cmpE (gM q i).e (gM q (i - 1)).e<0)
theorem monosB_no {q:List Mo} {n:Int} {i:Nat} (hi:i<q.length) (h:¬ atB q n i):monosB q n=false:=decide_eq_false fun h2=>h (h2 i hi)
theorem monosB_yes {q:List Mo} {n:Int} (h:∀ i,i<q.length→atB q n i):monosB q n=true:=decide_eq_true h
theorem polyB_no {q:List Mo} {n:Int} (h:monosB q n=false):polyB q n=false:=by unfold polyB;rw [h,Bool.and_false]
theorem polyB_yes {q:List Mo} {n:Int} (h:monosB q n=true):polyB q n=(decide (1≤n) && decide (n≤4) && decide (q.length≤24)):=by unfold polyB;rw [h,Bool.and_true]
theorem at_step {q:List Mo} {n:Int} {i:Nat} (hz:∀ j,j<i→atB q n j) (h:atB q n i):∀ j,j<i + 1→atB q n j:=fun j hj=>by
 rcases Nat.lt_or_ge j i with h1|h1
 ·exact hz j h1
 ·obtain rfl:j=i:=by omega
  exact h
set_option maxHeartbeats 2000000 in
theorem p_pRight {q:List Mo} {n:Int} (hq:WfM q):PC Tryz.prog 13 [MM q,i64 n] fun d=>d=bl (polyB q n):=by
 have hno:=fun (i:Nat) (h1:i<q.length) (h2:¬ atB q n i)=>polyB_no (monosB_no h1 h2)
 have hyes:=fun (h:∀ i,i<q.length→atB q n i)=>polyB_yes (monosB_yes h)
 have hn1:=hq.n
 generalize polyB q n=r at *
 unfold MM
 have d1:=@dl 4 qT4_13_4
 refine PB (rs:=[.tmp 4]) Tryz.func13 ?_
 repeat (first|(with_reducible first|refine pv_seq fun K hK=>?_|((first|refine hK _ _ ?_|(clear hK;refine hK _ _ ?_)|(clear hK;clear hK;refine hK _ _ ?_));clear hK;try clear K))| refine W0 ?_|exact Z|with_reducible intro b)
 refine pv_loop (fun e S=>∃ i:Nat,i≤q.length∧e 0=.g (eS eM q)∧e 1=i64 n∧e 7=.g (eS eM q)∧e 8=i64 q.length∧e 9=i64 i∧∀ j,j<i→atB q n j) (fun e _=>q.length - (intD (e 9)).toNat) ?_ ?_
 ·exact ⟨0,Nat.zero_le _,Zr,Zr,Zr,Zr,Zr,fun j hj=>by omega⟩
 ·rintro e S ⟨i,hi,g0,g1,g7,g8,g9,hz⟩
  have ft:=And.intro g0 (And.intro g1 (And.intro g7 (And.intro g8 g9)))
  repeat (first|(with_reducible first|refine pv_seq fun K hK=>?_|((first|refine hK _ _ ?_|(clear hK;refine hK _ _ ?_)|(clear hK;clear hK;refine hK _ _ ?_));clear hK;try clear K))| refine W0 ?_|exact Z|with_reducible intro b)
  refine pv_cdD (fun ht=>?_) (fun ht=>?_)
  ·have hil:i<q.length:=by omega
   have q1:=gM_at hil
   have pM:=p_mono (n:=n) (hq.at_ hil)
   have pA:=fun (h:0<i)=>p_ahead (a:=gM q (i - 1)) (b:=gM q i) (hq.at_ (by omega)).n (hq.at_ hil).n
   have q2:=fun (h:0<i)=>gM_at (l:=q) (i:=i - 1) (by omega)
   have kt:0<i→((i:Int) - 1).toNat=i - 1:=fun h=>by omega
   have hst:=at_step hz
   have hnx:=hno i hil
   unfold atB at hst hnx
   clear hno hyes hq
   generalize gM q i=x at *
   generalize gM q (i - 1)=y at *
   generalize monoB x n=t at *
   generalize hc:cmpE x.e y.e=c at *
   obtain ⟨⟨n1,e1,w1⟩,z1⟩:=x
   obtain ⟨⟨n2,e2,w2⟩,z2⟩:=y
   simp only at hst hnx
   cases t
   ·have hr:=hnx (fun h=>by cases h.1)
    subst hr
    have ft:=And.intro g0 (And.intro g1 (And.intro g7 (And.intro g8 (And.intro g9 q1))))
    exact Wk
   ·by_cases hw:w1=[]
    ·have hr:=hnx (fun h=>h.2.1 hw)
     subst hr
     subst hw
     have ft:=And.intro g0 (And.intro g1 (And.intro g7 (And.intro g8 (And.intro g9 q1))))
     exact Wk
    ·have kw:((w1.length:Int)=0)=False:=eq_false (fun h=>hw (List.eq_nil_of_length_eq_zero (by omega)))
     by_cases h0:0<i
     ·have k0:((0:Int)<(i:Int))=True:=eq_true (by omega)
      have pA:=pA h0
      have q2:=q2 h0
      have kt:=kt h0
      by_cases h1:0≤c
      ·have k1:=eq_true h1
       have hr:=hnx (fun h=>by have:=h.2.2 h0;omega)
       subst hr
       have ft:=And.intro g0 (And.intro g1 (And.intro g7 (And.intro g8 (And.intro g9 (And.intro q1 (And.intro q2 (And.intro kw (And.intro k0 (And.intro k1 kt)))))))))
       exact Wk
      ·have k1:=eq_false h1
       have ft:=And.intro g0 (And.intro g1 (And.intro g7 (And.intro g8 (And.intro g9 (And.intro q1 (And.intro q2 (And.intro kw (And.intro k0 (And.intro k1 kt)))))))))
       repeat (first|(with_reducible first|refine pv_seq fun K hK=>?_|((first|refine hK _ _ ?_|(clear hK;refine hK _ _ ?_)|(clear hK;clear hK;refine hK _ _ ?_));clear hK;try clear K))| refine W ?_|exact Z|with_reducible intro b)
       exact ⟨⟨i + 1,by omega,rfl,hst ⟨rfl,hw,fun _=>by omega⟩⟩,by simp only [intD];omega⟩
     ·have k0:((0:Int)<(i:Int))=False:=eq_false (by omega)
      have ft:=And.intro g0 (And.intro g1 (And.intro g7 (And.intro g8 (And.intro g9 (And.intro q1 (And.intro kw k0))))))
      repeat (first|(with_reducible first|refine pv_seq fun K hK=>?_|((first|refine hK _ _ ?_|(clear hK;refine hK _ _ ?_)|(clear hK;clear hK;refine hK _ _ ?_));clear hK;try clear K))| refine W ?_|exact Z|with_reducible intro b)
      exact ⟨⟨i + 1,by omega,rfl,hst ⟨rfl,hw,fun h=>absurd h h0⟩⟩,by simp only [intD];omega⟩
  ·obtain rfl:i=q.length:=by omega
   have hr:=hyes hz
   have k3:((q.length:Int)≤24)=(q.length≤24):=propext ⟨fun h=>by omega,fun h=>by omega⟩
   by_cases h1:1≤n
   ·have h1':=eq_true h1
    by_cases h2:n≤4
    ·have h2':=eq_true h2
     rw [decide_eq_true h1,decide_eq_true h2,Bool.and_self,Bool.true_and] at hr
     subst hr
     have ft:=And.intro g0 (And.intro g1 (And.intro g7 (And.intro g8 (And.intro g9 (And.intro h1' (And.intro h2' k3))))))
     exact Wk
    ·have h2':=eq_false h2
     rw [decide_eq_true h1,decide_eq_false h2,Bool.and_false,Bool.false_and] at hr
     subst hr
     have ft:=And.intro g0 (And.intro g1 (And.intro g7 (And.intro g8 (And.intro g9 (And.intro h1' h2')))))
     exact Wk
   ·have h1':=eq_false h1
    rw [decide_eq_false h1,Bool.false_and,Bool.false_and] at hr
    subst hr
    have ft:=And.intro g0 (And.intro g1 (And.intro g7 (And.intro g8 (And.intro g9 h1'))))
    exact Wk
set_option maxHeartbeats 2000000 in
theorem p_rPRight {q:List Mo} {n:Int} (hq:WfM q):PC Tryz.prog 14 [MM q,i64 n] fun d=>d=bl (polyB q n):=by
 by_cases hn:1≤n∧n≤4∧q.length≤24
 ·obtain ⟨h1,h2,h3⟩:=hn
  have hno:=fun (i:Nat) (h1:i<q.length) (h2:¬ atB q n i)=>polyB_no (monosB_no h1 h2)
  have hyes:=fun (h:∀ i,i<q.length→atB q n i)=>polyB_yes (monosB_yes h)
  rw [decide_eq_true h1,decide_eq_true h2,decide_eq_true h3] at hyes
  have k1:(n<1)=False:=eq_false (by omega)
  have k2:(4<n)=False:=eq_false (by omega)
  have k3:((24:Int)<(q.length:Int))=False:=eq_false (by omega)
  generalize polyB q n=r at *
  unfold MM
  have d1:=@dl 6 qT4_14_6
  refine PB (rs:=[.tmp 4]) Tryz.func14 ?_
  have ft:=And.intro k1 (And.intro k2 k3)
  repeat (first|(with_reducible first|refine pv_seq fun K hK=>?_|((first|refine hK _ _ ?_|(clear hK;refine hK _ _ ?_)|(clear hK;clear hK;refine hK _ _ ?_));clear hK;try clear K))| refine W0 ?_|exact Z|with_reducible intro b)
  have J:∀ (e:DEnv) (S:Store),r=true→K e S:=by
   intro e S h
   subst h
   exact Wk
  clear hK
  refine pv_loop (fun e S=>∃ i:Nat,i≤q.length∧e 0=.g (eS eM q)∧e 1=i64 n∧e 5=i64 i∧∀ j,j<i→atB q n j) (fun e _=>q.length - (intD (e 5)).toNat) ?_ ?_
  ·exact ⟨0,Nat.zero_le _,Zr,Zr,Zr,fun j hj=>by omega⟩
  ·rintro e S ⟨i,hi,g0,g1,g5,hz⟩
   have ft:=And.intro g0 (And.intro g1 g5)
   repeat (first|(with_reducible first|refine pv_seq fun K hK=>?_|((first|refine hK _ _ ?_|(clear hK;refine hK _ _ ?_)|(clear hK;clear hK;refine hK _ _ ?_));clear hK;try clear K))| refine W0 ?_|exact Z|with_reducible intro b)
   refine pv_cdD (fun ht=>?_) (fun ht=>?_)
   ·have hil:i<q.length:=by omega
    have q1:=gM_at hil
    have pM:=p_rMono (n:=n) (hq.at_ hil) h2
    have pA:=fun (h:0<i)=>p_rOrdE (a:=(gM q (i - 1)).e) (b:=(gM q i).e) (hq.at_ (by omega)).n (hq.at_ hil).n
    have hlen:0<i→monoB (gM q i) n=true→(gM q (i - 1)).e.length=(gM q i).e.length:=fun h0 hm=>by
     have h5:=(hz (i - 1) (by omega)).1
     unfold monoB at h5 hm
     simp only [Bool.and_eq_true,decide_eq_true_eq] at h5 hm
     omega
    have q2:=fun (h:0<i)=>gM_at (l:=q) (i:=i - 1) (by omega)
    have kt:0<i→((i:Int) - 1).toNat=i - 1:=fun h=>by omega
    have hst:=at_step hz
    have hnx:=hno i hil
    unfold atB at hst hnx
    unfold ZI at pA
    clear hno hyes hq
    generalize gM q i=x at *
    generalize gM q (i - 1)=y at *
    have hoc:=fun (h:0<i) (h2:monoB x n=true)=>ordE_cmpE (hlen h h2)
    have hcs:=cmpE_cases x.e y.e
    generalize monoB x n=t at *
    generalize cmpE x.e y.e=c at *
    generalize ordE y.e x.e=o at *
    obtain ⟨⟨n1,e1,w1⟩,z1⟩:=x
    obtain ⟨⟨n2,e2,w2⟩,z2⟩:=y
    simp only at hst hnx pA
    cases t
    ·have hr:=hnx (fun h=>by cases h.1)
     subst hr
     have ft:=And.intro g0 (And.intro g1 (And.intro g5 q1))
     exact Wk
    ·by_cases hw:w1=[]
     ·have hr:=hnx (fun h=>h.2.1 hw)
      subst hr
      subst hw
      have ft:=And.intro g0 (And.intro g1 (And.intro g5 q1))
      exact Wk
     ·have kw:((w1.length:Int)=0)=False:=eq_false (fun h=>hw (List.eq_nil_of_length_eq_zero (by omega)))
      by_cases h0:0<i
      ·have k0:((0:Int)<(i:Int))=True:=eq_true (by omega)
       have pA:=pA h0
       have q2:=q2 h0
       have kt:=kt h0
       have hoc:=hoc h0 rfl
       by_cases h9:o=1
       ·have k9:=eq_true h9
        have ft:=And.intro g0 (And.intro g1 (And.intro g5 (And.intro q1 (And.intro q2 (And.intro kw (And.intro k0 (And.intro k9 kt)))))))
        repeat (first|(with_reducible first|refine pv_seq fun K hK=>?_|((first|refine hK _ _ ?_|(clear hK;refine hK _ _ ?_)|(clear hK;clear hK;refine hK _ _ ?_));clear hK;try clear K))| refine W ?_|exact Z|with_reducible intro b)
        exact ⟨⟨i + 1,by omega,rfl,hst ⟨rfl,hw,fun _=>by omega⟩⟩,by simp only [intD];omega⟩
       ·have k9:=eq_false h9
        have hr:=hnx (fun h=>by have:=h.2.2 h0;omega)
        subst hr
        have ft:=And.intro g0 (And.intro g1 (And.intro g5 (And.intro q1 (And.intro q2 (And.intro kw (And.intro k0 (And.intro k9 kt)))))))
        exact Wk
      ·have k0:((0:Int)<(i:Int))=False:=eq_false (by omega)
       have ft:=And.intro g0 (And.intro g1 (And.intro g5 (And.intro q1 (And.intro kw k0))))
       repeat (first|(with_reducible first|refine pv_seq fun K hK=>?_|((first|refine hK _ _ ?_|(clear hK;refine hK _ _ ?_)|(clear hK;clear hK;refine hK _ _ ?_));clear hK;try clear K))| refine W ?_|exact Z|with_reducible intro b)
       exact ⟨⟨i + 1,by omega,rfl,hst ⟨rfl,hw,fun h=>absurd h h0⟩⟩,by simp only [intD];omega⟩
   ·obtain rfl:i=q.length:=by omega
    repeat (first|(with_reducible first|refine pv_seq fun K hK=>?_|((first|refine hK _ _ ?_|(clear hK;refine hK _ _ ?_)|(clear hK;clear hK;refine hK _ _ ?_));clear hK;try clear K))| refine W0 ?_|exact Z|with_reducible intro b)
    exact J _ _ (hyes hz)
 ·have hr:polyB q n=false:=by
   unfold polyB
   by_cases h1:1≤n
   ·by_cases h2:n≤4
    ·rw [decide_eq_false (p:=q.length≤24) (fun h3=>hn ⟨h1,h2,h3⟩),Bool.and_false];rfl
    ·rw [decide_eq_false h2,Bool.and_false];rfl
   ·rw [decide_eq_false h1];rfl
  rw [hr]
  unfold MM
  by_cases h1:n<1
  ·have k1:=eq_true h1
   have d1:=@dl 6 qT4_14_6
   refine PB (rs:=[.tmp 4]) Tryz.func14 ?_
   have ft:=k1
   exact Wk
  ·have k1:=eq_false h1
   by_cases h2:4<n
   ·have k2:=eq_true h2
    have d1:=@dl 6 qT4_14_6
    refine PB (rs:=[.tmp 4]) Tryz.func14 ?_
    have ft:=And.intro k1 k2
    exact Wk
   ·have k2:=eq_false h2
    have k3:((24:Int)<(q.length:Int))=True:=eq_true (by omega)
    have d1:=@dl 6 qT4_14_6
    refine PB (rs:=[.tmp 4]) Tryz.func14 ?_
    have ft:=And.intro k1 (And.intro k2 k3)
    exact Wk
end Go.V
namespace Go.V
open Go Go.RowKit Go.Proofs
end Go.V
namespace Go.V
open Go Go.RowKit Go.Proofs
def z6:List D:=[bl false,i64 0,.nil,bl false,i64 0,.nil]
end Go.V
namespace Go.V
open Go Go.RowKit Go.Proofs
theorem Recast.z6 {N:DEnv→Store→Prop} {e:DEnv} {S:Store} {k:Nm} {b:Nat} (hk:S k=some ⟨b,6,0,[V.z6]⟩) (h:N e (updS S k (some ⟨b,6,0,[cI iv0]⟩))):Recast N e S:=by
 refine Recast.join (Recast.cell (i:=0) (j:=2) (es:=V.z6) (d:=.nil) (d':=W64 []) hk rfl rfl (fun I H v hv=>nil_row hv) ?_)
 refine Recast.cell (i:=0) (j:=5) (es:=V.z6.set 2 (W64 [])) (d:=.nil) (d':=W64 []) updS_at rfl rfl (fun I H v hv=>nil_row hv) ?_
 rw [updS_updS];exact h
theorem le_sum:∀ {l:List Int},(∀ x ∈ l,0≤x)→∀ i,i<l.length→l.getD i 0≤l.sum
 | x :: l,h,0,_=>by
   have h1:=sum_take_le (l:=l) 0 (fun y hy=>h y (List.mem_cons_of_mem _ hy))
   simp only [List.take_zero,List.sum_nil] at h1
   show x≤x + l.sum
   omega
 | x :: l,h,i + 1,hi=>by
   have h1:=le_sum (l:=l) (fun y hy=>h y (List.mem_cons_of_mem _ hy)) i (by simpa using hi)
   have h2:=h x List.mem_cons_self
   show l.getD i 0≤x + l.sum
   omega
end Go.V
namespace Go.V
open Go Go.RowKit Go.Proofs
theorem Sm.lift {k q:Nat} {v:Dyadic} (h:Sm k q v) (d:Nat):Sm (k + d) (q + d) v:=by
 obtain ⟨z,rfl,hz⟩:=h
 refine ⟨z * 2 ^ d,(owp_shl z q d).symm,?_⟩
 rw [Int.natAbs_mul,Int.natAbs_pow,Nat.pow_add]
 exact Nat.mul_lt_mul_of_pos_right hz (Nat.two_pow_pos d)
def SmV (k q:Nat) (a:Iv):Prop:=∃ x y,a=ivD x y∧Sm k q x∧Sm k q y∧x≤y
theorem SmV.mono {k q m:Nat} {a:Iv} (h:SmV k q a) (hm:k≤m):SmV m q a:=by
 obtain ⟨x,y,rfl,hx,hy,h⟩:=h
 exact ⟨x,y,rfl,hx.mono hm,hy.mono hm,h⟩
theorem SmV.lift {k q:Nat} {a:Iv} (h:SmV k q a) (d:Nat):SmV (k + d) (q + d) a:=by
 obtain ⟨x,y,rfl,hx,hy,h⟩:=h
 exact ⟨x,y,rfl,hx.lift d,hy.lift d,h⟩
theorem SmV.zero {k q:Nat}:SmV k q iv0:=⟨0,0,by unfold ivD;rw [nuOf_zero];rfl,Sm.zero,Sm.zero,by grind⟩
def addV (p:Nat) (a b:Iv):Iv:=ivD (rd p false (a.lo.val + b.lo.val)) (rd p true (a.hi.val + b.hi.val))
def mulV (p:Nat) (a b:Iv):Iv:=ivD (rd p false (minP a.lo.val a.hi.val b.lo.val b.hi.val)) (rd p true (maxP a.lo.val a.hi.val b.lo.val b.hi.val))
theorem rd_le_rd {p:Nat} {l h:Dyadic} (hl:l≤h):rd p false l≤rd p true h:=Dyadic.le_trans (dn_le p l) (Dyadic.le_trans hl (le_up p h))
theorem minP_le_maxP {x y u v:Dyadic} (h:x≤y) (k:u≤v):minP x y u v≤maxP x y u v:=by
 have:=prod_in (x:=x) (y:=y) (u:=u) (v:=v) (a:=x) (b:=u) (by grind) h (by grind) k
 exact Dyadic.le_trans this.1 this.2
theorem addV_sm {p k q:Nat} {a b:Iv} (ha:SmV k q a) (hb:SmV k q b) (h8:8≤p) (h256:p≤256) (hk:k≤1500) (hq:q≤1500):addI p a b=(addV p a b,0)∧SmV (k + 2) q (addV p a b):=by
 obtain ⟨x,y,rfl,hx,hy,hxy⟩:=ha
 obtain ⟨u,v,rfl,hu,hv,huv⟩:=hb
 have ok:∀ {d:Dyadic},Sm k q d→OkD d:=fun h=>(h.bx).ok (by omega) (by omega)
 unfold addI addV
 rw [ivD_l,ivD_h,ivD_l,ivD_h]
 refine ⟨opI_ok (ok hx) (ok hy) (ok hu) (ok hv) hxy huv h8 h256 ((hx.add hu).rdOk (by omega) (by omega) h8 h256) ((hy.add hv).rdOk (by omega) (by omega) h8 h256),_,_,rfl,(hx.add hu).rd,(hy.add hv).rd,rd_le_rd (by grind)⟩
theorem mulV_sm {p k q m r:Nat} {a b:Iv} (ha:SmV k q a) (hb:SmV m r b) (h8:8≤p) (h256:p≤256) (hk:k + m≤1500) (hq:q + r≤1500):mulI p a b=(mulV p a b,0)∧SmV (k + m + 1) (q + r) (mulV p a b):=by
 obtain ⟨x,y,rfl,hx,hy,hxy⟩:=ha
 obtain ⟨u,v,rfl,hu,hv,huv⟩:=hb
 have ok:∀ {d:Dyadic},Sm k q d→OkD d:=fun h=>(h.bx).ok (by omega) (by omega)
 have ok2:∀ {d:Dyadic},Sm m r d→OkD d:=fun h=>(h.bx).ok (by omega) (by omega)
 unfold mulI mulV
 rw [ivD_l,ivD_h,ivD_l,ivD_h]
 have sl:=minP_sm hx hy hu hv
 have sh:=maxP_sm hx hy hu hv
 refine ⟨opI_ok (ok hx) (ok hy) (ok2 hu) (ok2 hv) hxy huv h8 h256 (sl.rdOk (by omega) (by omega) h8 h256) (sh.rdOk (by omega) (by omega) h8 h256),_,_,rfl,sl.rd,sh.rd,rd_le_rd (minP_le_maxP hxy huv)⟩
end Go.V
namespace Go.V
open Go Go.RowKit Go.Proofs
end Go.V
namespace Go.V
open Go Go.RowKit Go.Proofs
theorem Sm.ok2 {k q:Nat} {d:Dyadic} (h:Sm k q d) (hk:k≤4000) (hq:q≤4000):OkD d:=(h.bx).ok (by omega) (by omega)
end Go.V
namespace Go.V
open Go Go.RowKit Go.Proofs
theorem rS_u {l:List Dyadic} {x:Dyadic}:rS eU (l.map nuOf) ++ [[bl (nuOf x).neg,i64 (nuOf x).exp,W64 (nuOf x).w]]=rS eU ((l ++ [x]).map nuOf):=by rw [List.map_append,← rS_app];rfl
end Go.V
