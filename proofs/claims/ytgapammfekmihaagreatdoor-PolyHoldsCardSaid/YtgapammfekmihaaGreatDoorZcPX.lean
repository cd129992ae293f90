/- Numbers as bits by a power of two: the plain laws, over the core library's dyadic numbers. No program, no model. Numbers as bits by a power of two: their parts, their sizes, right numbers. No program, no model. Numbers as bits by a power of two: order by bits, sizes of sums and products. No program, no model. Numbers as bits by a power of two: sizes of sums, products, opposites. No program, no model. Rounding of numbers to so many bits, and quotients: plain laws. No program, no model. Numbers over values as data: which are right, which are the same: package num's and the document's. Numbers over values as data: package exact. Numbers over values as data: package num. -/
import Derived.Test.YtgapammfekmihaaGreatDoorZcPD
import Derived.Test.YtgapammfekmihaaGreatDoorZcPT
set_option linter.unusedVariables false
set_option linter.unusedSimpArgs false
set_option maxRecDepth 100000
namespace Go.V
open Go
theorem owp_rat (x p:Int):(Dyadic.ofIntWithPrec x p).toRat=x * 2 ^ (-p):=Dyadic.toRat_ofIntWithPrec_eq_mul_two_pow
theorem owp_add (x y p:Int):Dyadic.ofIntWithPrec x p + Dyadic.ofIntWithPrec y p=Dyadic.ofIntWithPrec (x + y) p:=by
 rw [← Dyadic.toRat_inj,Dyadic.toRat_add,owp_rat,owp_rat,owp_rat,Rat.intCast_add,Rat.add_mul]
theorem owp_mul (x y p q:Int):Dyadic.ofIntWithPrec x p * Dyadic.ofIntWithPrec y q=Dyadic.ofIntWithPrec (x * y) (p + q):=by
 rw [← Dyadic.toRat_inj,Dyadic.toRat_mul,owp_rat,owp_rat,owp_rat,Rat.intCast_mul,Int.neg_add,Rat.zpow_add (by decide)]
 generalize (2:Rat) ^ (-p)=a
 generalize (2:Rat) ^ (-q)=b
 grind
theorem owp_lt {x y p:Int}:Dyadic.ofIntWithPrec x p<Dyadic.ofIntWithPrec y p ↔ x<y:=by
 rw [← Dyadic.toRat_lt_toRat_iff,owp_rat,owp_rat]
 have hp:(0:Rat)<2 ^ (-p):=Rat.zpow_pos (by decide)
 constructor
 ·intro h
  exact Rat.intCast_lt_intCast.1 (Rat.lt_of_mul_lt_mul_right h (Rat.le_of_lt hp))
 ·intro h
  exact Rat.mul_lt_mul_of_pos_right (Rat.intCast_lt_intCast.2 h) hp
theorem owp_inj {x y p:Int}:Dyadic.ofIntWithPrec x p=Dyadic.ofIntWithPrec y p ↔ x=y:=by
 constructor
 ·intro h
  rcases Int.lt_trichotomy x y with h1|h1|h1
  ·have:=owp_lt (p:=p).2 h1;rw [h] at this;exact absurd this (by simp)
  ·exact h1
  ·have:=owp_lt (p:=p).2 h1;rw [h] at this;exact absurd this (by simp)
 ·rintro rfl;rfl
theorem owp_zero {x p:Int}:Dyadic.ofIntWithPrec x p=0 ↔ x=0:=by
 have:=owp_inj (x:=x) (y:=0) (p:=p)
 rwa [Dyadic.ofIntWithPrec_zero] at this
theorem owp_shl (x p:Int) (k:Nat):Dyadic.ofIntWithPrec (x * 2 ^ k) (p + k)=Dyadic.ofIntWithPrec x p:=by
 have:=Dyadic.ofIntWithPrec_shiftLeft_add (x:=x) (i:=p) (n:=k)
 rwa [Int.shiftLeft_eq] at this
def sg (neg:Bool) (n:Nat):Int:=if neg then -(n:Int) else n
theorem sg_eq_zero {neg:Bool} {n:Nat}:sg neg n=0 ↔ n=0:=by cases neg<;>simp [sg]
theorem sg_not (neg:Bool) (n:Nat):sg (!neg) n = - sg neg n:=by cases neg<;>simp [sg]
theorem sg_mul (a b:Bool) (n m:Nat):sg a n * sg b m=sg (a != b) (n * m):=by cases a<;>cases b<;>simp [sg,Int.neg_mul,Int.mul_neg]
theorem sg_abs (neg:Bool) (n:Nat):(sg neg n).natAbs=n:=by cases neg<;>simp [sg]
theorem sg_neg {neg:Bool} {n:Nat} (h:n≠0):decide (sg neg n<0)=neg:=by cases neg<;>simp [sg]<;>omega
theorem sg_pow (neg:Bool) (n k:Nat):sg neg n * 2 ^ k=sg neg (n * 2 ^ k):=by cases neg<;>simp [sg,Int.neg_mul]
def dy (neg:Bool) (n:Nat) (e:Int):Dyadic:=.ofIntWithPrec (sg neg n) (-e)
theorem dy_zero {neg:Bool} {n:Nat} {e:Int}:dy neg n e=0 ↔ n=0:=by unfold dy;rw [owp_zero,sg_eq_zero]
theorem dy_shl (neg:Bool) (n k:Nat) (e:Int):dy neg (n * 2 ^ k) e=dy neg n (e + k):=by
 unfold dy
 rw [← sg_pow,← owp_shl (sg neg n) (-(e + k)) k]
 congr 1;omega
theorem dy_neg (neg:Bool) (n:Nat) (e:Int) : - dy neg n e=dy (!neg) n e:=by
 unfold dy;rw [Dyadic.neg_ofIntWithPrec,sg_not]
theorem dy_mul (a b:Bool) (n m:Nat) (e f:Int):dy a n e * dy b m f=dy (a != b) (n * m) (e + f):=by
 unfold dy;rw [owp_mul,sg_mul,Int.neg_add]
theorem dy_add (a:Bool) (n m:Nat) (e:Int):dy a n e + dy a m e=dy a (n + m) e:=by
 unfold dy;rw [owp_add];congr 1;cases a<;>simp [sg]<;>omega
theorem dy_sub {a b:Bool} (h:a≠b) {n m:Nat} (hle:m≤n) (e:Int):dy a n e + dy b m e=dy a (n - m) e:=by
 unfold dy;rw [owp_add];congr 1;cases a<;>cases b<;>simp [sg] at h ⊢<;>omega
theorem sg_odd {neg:Bool} {n:Nat} (h:n % 2=1):sg neg n % 2=1:=by cases neg<;>simp only [sg,Bool.false_eq_true,if_true,if_false]<;>omega
theorem dy_odd {neg:Bool} {n:Nat} {e:Int} (h:n % 2=1):dy neg n e=.ofOdd (sg neg n) (-e) (sg_odd h):=by
 rw [Dyadic.ofOdd_eq_ofIntWithPrec];rfl
theorem dy_form (d:Dyadic) (h:d≠0):∃ neg n e,d=dy neg n e∧n % 2=1:=by
 cases d with
 | zero=>exact absurd rfl h
 | ofOdd n k hn =>
   refine ⟨decide (n<0),n.natAbs, -k,?_,by omega⟩
   rw [Dyadic.ofOdd_eq_ofIntWithPrec]
   unfold dy sg
   congr 1
   ·by_cases h0:n<0
    ·rw [decide_eq_true h0];simp;omega
    ·rw [decide_eq_false h0];simp;omega
   ·omega
theorem dy_tz {neg:Bool} {n:Nat} {e:Int} (h:n≠0):dy neg n e=dy neg (n / 2 ^ tz n) (e + tz n)∧n / 2 ^ tz n % 2=1:=by
 obtain ⟨m,hm⟩:=tz_spec n h
 have h1:n / 2 ^ tz n=2 * m + 1:=by
  conv=>lhs;lhs;rw [hm]
  exact Nat.mul_div_cancel_left _ (Nat.two_pow_pos _)
 refine ⟨?_,by rw [h1];omega⟩
 rw [h1,← dy_shl,Nat.mul_comm (2 * m + 1),← hm]
def sgnD (d:Dyadic):Int:=if d<0 then -1 else if 0<d then 1 else 0
def cmpD (a b:Dyadic):Int:=if a<b then -1 else if b<a then 1 else 0
theorem dy_pos {neg:Bool} {n:Nat} {e:Int}:0<dy neg n e ↔ neg=false∧n≠0:=by
 have h:=owp_lt (x:=0) (y:=sg neg n) (p := -e)
 rw [Dyadic.ofIntWithPrec_zero] at h
 unfold dy;rw [h];cases neg<;>simp [sg]<;>omega
theorem dy_neg_lt {neg:Bool} {n:Nat} {e:Int}:dy neg n e<0 ↔ neg=true∧n≠0:=by
 have h:=owp_lt (x:=sg neg n) (y:=0) (p := -e)
 rw [Dyadic.ofIntWithPrec_zero] at h
 unfold dy;rw [h];cases neg<;>simp [sg]<;>omega
theorem sgnD_dy (neg:Bool) (n:Nat) (e:Int):sgnD (dy neg n e)=if n=0 then 0 else if neg then -1 else 1:=by
 unfold sgnD
 simp only [dy_pos,dy_neg_lt]
 by_cases h:n=0
 ·subst h;simp
 ·cases neg<;>simp [h]
theorem cmpD_sub (a b:Dyadic):cmpD a b=sgnD (a - b):=by
 unfold cmpD sgnD
 have h1:a<b ↔ a - b<0:=by grind
 have h2:b<a ↔ 0<a - b:=by grind
 simp only [h1,h2]
structure Nu where
 neg:Bool
 exp:Int
 w:List Nat
 deriving DecidableEq
def Nu.val (x:Nu):Dyadic:=dy x.neg (nval 18446744073709551616 x.w) x.exp
def nuOf:Dyadic→Nu
 | .zero=>⟨false,0,[]⟩
 | .ofOdd n k _=>⟨decide (n<0), -k,digs 18446744073709551616 n.natAbs⟩
def nu0:Nu:=⟨false,0,[]⟩
theorem nuOf_zero:nuOf 0=nu0:=rfl
theorem nuOf_odd {neg:Bool} {n:Nat} {e:Int} (h:n % 2=1):nuOf (dy neg n e)=⟨neg,e,digs 18446744073709551616 n⟩:=by
 rw [dy_odd h]
 simp only [nuOf,sg_abs,Int.neg_neg]
 rw [sg_neg (by intro h0;subst h0;cases h)]
theorem nuOf_dy {neg:Bool} {n:Nat} {e:Int} (h:n≠0):nuOf (dy neg n e)=⟨neg,e + tz n,digs 18446744073709551616 (n / 2 ^ tz n)⟩:=by
 obtain ⟨h1,h2⟩:=dy_tz (neg:=neg) (e:=e) h
 rw [h1,nuOf_odd h2]
theorem val_nuOf (d:Dyadic):(nuOf d).val=d:=by
 by_cases h:d=0
 ·subst h;rfl
 ·obtain ⟨neg,n,e,rfl,hn⟩:=dy_form d h
  rw [nuOf_odd hn]
  unfold Nu.val
  rw [nval_digs (by decide)]
structure Nu.Ok (x:Nu):Prop where
 len:x.w.length≤64
 lo : -65536≤x.exp
 hi:x.exp≤65536
instance (x:Nu):Decidable x.Ok:=decidable_of_iff (x.w.length≤64 ∧ -65536≤x.exp∧x.exp≤65536) ⟨fun h=>⟨h.1,h.2.1,h.2.2⟩,fun h=>⟨h.1,h.2,h.3⟩⟩
def Nu.Right (x:Nu):Prop:=(x=nu0)∨(x.Ok∧x.w≠[]∧NoTail x.w∧x.w.getD 0 0 % 2=1)
theorem nval_head {B:Nat} {xs:List Nat} (hB:B % 2=0):nval B xs % 2=xs.getD 0 0 % 2:=by
 cases xs with
 | nil=>rfl
 | cons a r => 
   simp only [nval_cons,List.getD_cons_zero]
   rw [Nat.add_mod,Nat.mul_mod,hB];simp
theorem right_form {x:Nu} (hb:∀ y ∈ x.w,y<18446744073709551616) (h:x.Right):x=nuOf x.val∧x.Ok:=by
 rcases h with rfl|⟨h1,h2,h3,h4⟩
 ·exact ⟨rfl,⟨by decide,by decide,by decide⟩⟩
 ·refine ⟨?_,h1⟩
  unfold Nu.val
  rw [nuOf_odd (by rw [nval_head (by decide)];exact h4),digs_nval (by decide) _ hb h3]
theorem right_of {x:Nu} (h:x=nuOf x.val) (hk:x.Ok):x.Right:=by
 by_cases h0:x.val=0
 ·left;rw [h,h0];rfl
 ·right
  obtain ⟨neg,n,e,hv,hn⟩:=dy_form _ h0
  have hx:x=⟨neg,e,digs 18446744073709551616 n⟩:=by rw [h,hv,nuOf_odd hn]
  subst hx
  refine ⟨hk,?_,digs_noTail (by decide) n,?_⟩
  ·simp only [ne_eq,digs_eq_nil (by decide:2≤18446744073709551616)];omega
  ·rw [← nval_head (B:=18446744073709551616) (by decide),nval_digs (by decide)];exact hn
def numR (d:Dyadic):Nu × Int:=if (nuOf d).Ok then (nuOf d,0) else (nu0,2)
end Go.V
namespace Go.V
open Go
def fS (d:Dyadic):Bool:=(nuOf d).neg
def fE (d:Dyadic):Int:=(nuOf d).exp
def fN (d:Dyadic):Nat:=nval 18446744073709551616 (nuOf d).w
theorem fN_odd {neg:Bool} {n:Nat} {e:Int} (h:n % 2=1):fN (dy neg n e)=n:=by unfold fN;rw [nuOf_odd h];exact nval_digs (by decide) n
theorem fS_odd {neg:Bool} {n:Nat} {e:Int} (h:n % 2=1):fS (dy neg n e)=neg:=by unfold fS;rw [nuOf_odd h]
theorem fE_odd {neg:Bool} {n:Nat} {e:Int} (h:n % 2=1):fE (dy neg n e)=e:=by unfold fE;rw [nuOf_odd h]
theorem fN_zero:fN 0=0:=rfl
theorem fE_zero:fE 0=0:=rfl
theorem fN_eq_zero {d:Dyadic}:fN d=0 ↔ d=0:=by
 constructor
 ·intro h
  by_cases h0:d=0
  ·exact h0
  ·obtain ⟨neg,n,e,rfl,hn⟩:=dy_form d h0
   rw [fN_odd hn] at h;omega
 ·rintro rfl;rfl
theorem dy_f (d:Dyadic):dy (fS d) (fN d) (fE d)=d:=by
 by_cases h0:d=0
 ·subst h0;rfl
 ·obtain ⟨neg,n,e,rfl,hn⟩:=dy_form d h0
  rw [fN_odd hn,fS_odd hn,fE_odd hn]
theorem nuOf_f (d:Dyadic):nuOf d=⟨fS d,fE d,digs 18446744073709551616 (fN d)⟩:=by
 by_cases h0:d=0
 ·subst h0;rw [fN_zero,digs_zero];rfl
 ·obtain ⟨neg,n,e,rfl,hn⟩:=dy_form d h0
  rw [nuOf_odd hn,fN_odd hn,fS_odd hn,fE_odd hn]
theorem fN_mod {d:Dyadic} (h:d≠0):fN d % 2=1:=by
 obtain ⟨neg,n,e,rfl,hn⟩:=dy_form d h
 rw [fN_odd hn];exact hn
theorem f_of {neg:Bool} {n:Nat} {e:Int} (h:n≠0):fS (dy neg n e)=neg∧fN (dy neg n e)=n / 2 ^ tz n∧fE (dy neg n e)=e + tz n:=by
 obtain ⟨h1,h2⟩:=dy_tz (neg:=neg) (e:=e) h
 rw [h1,fN_odd h2,fS_odd h2,fE_odd h2];exact ⟨rfl,rfl,rfl⟩
def Bd (k:Nat) (d:Dyadic):Prop:=fN d<2 ^ k ∧ -(k:Int)≤fE d∧fE d≤k
theorem Bd.zero (k:Nat):Bd k 0:=⟨Nat.two_pow_pos k,by rw [fE_zero];omega,by rw [fE_zero];omega⟩
theorem Bd.mono {k m:Nat} {d:Dyadic} (h:Bd k d) (hm:k≤m):Bd m d:=⟨Nat.lt_of_lt_of_le h.1 (Nat.pow_le_pow_right (by decide) hm),by have:=h.2.1;omega,by have:=h.2.2;omega⟩
theorem tz_lt {n k:Nat} (h:n<2 ^ k) (h0:n≠0):tz n<k:=by
 obtain ⟨m,hm⟩:=tz_spec n h0
 have h1:2 ^ tz n≤n:=by
  have:=Nat.mul_le_mul_left (2 ^ tz n) (show 1≤2 * m + 1 by omega)
  omega
 exact (Nat.pow_lt_pow_iff_right (by decide:1<2)).1 (Nat.lt_of_le_of_lt h1 h)
def rightB (x:Nu):Bool:=if x.w.length=0 then (!x.neg && decide (x.exp=0)) else (decide ((digs 18446744073709551616 (nval 18446744073709551616 x.w)).length=x.w.length) && decide (x.w.length≤64) && decide (x.w.getD 0 0 % 2=1) && decide (-65536≤x.exp) && decide (x.exp≤65536))
theorem rightB_iff {x:Nu} (hb:∀ y ∈ x.w,y<18446744073709551616):rightB x=true ↔ x=nuOf x.val∧x.Ok:=by
 constructor
 ·intro h
  refine right_form hb ?_
  unfold rightB at h
  obtain ⟨neg,exp,w⟩:=x
  simp only at h hb ⊢
  split at h
  ·rename_i h0
   left
   obtain rfl:w=[]:=List.eq_nil_of_length_eq_zero h0
   simp only [Bool.and_eq_true,Bool.not_eq_true',decide_eq_true_eq] at h
   obtain ⟨rfl,rfl⟩:=h;rfl
  ·rename_i h0
   right
   simp only [Bool.and_eq_true,decide_eq_true_eq] at h
   obtain ⟨⟨⟨⟨h1,h2⟩,h3⟩,h4⟩,h5⟩:=h
   exact ⟨⟨h2,h4,h5⟩,fun h=>h0 (by simp at h;rw [h];rfl),(digs_len_eq (by decide) hb).1 h1,h3⟩
 ·rintro ⟨h1,h2⟩
  rcases right_of h1 h2 with h|⟨_,h3,h4,h5⟩
  ·rw [h];rfl
  ·unfold rightB
   rw [if_neg (fun h=>h3 (List.eq_nil_of_length_eq_zero h))]
   simp only [Bool.and_eq_true,decide_eq_true_eq]
   exact ⟨⟨⟨⟨(digs_len_eq (by decide) hb).2 h4,h2.len⟩,h5⟩,h2.lo⟩,h2.hi⟩
def OkD (d:Dyadic):Prop:=(nuOf d).Ok
instance (d:Dyadic):Decidable (OkD d):=inferInstanceAs (Decidable (nuOf d).Ok)
theorem rightB_nuOf {d:Dyadic}:rightB (nuOf d)=decide (OkD d):=by
 have hb:∀ y ∈ (nuOf d).w,y<18446744073709551616:=by rw [nuOf_f];exact digs_lt (by decide) _
 by_cases h:OkD d
 ·rw [decide_eq_true h];exact (rightB_iff hb).2 ⟨by rw [val_nuOf],h⟩
 ·rw [decide_eq_false h]
  cases hr:rightB (nuOf d)
  ·rfl
  ·exact absurd ((rightB_iff hb).1 hr).2 h
theorem right_is {x:Nu} (hb:∀ y ∈ x.w,y<18446744073709551616) (h:rightB x=true):∃ d,OkD d∧x=nuOf d:=by
 obtain ⟨h1,h2⟩:=(rightB_iff hb).1 h
 exact ⟨x.val,by unfold OkD;rw [← h1];exact h2,h1⟩
theorem OkD.zero:OkD 0:=⟨by decide,by decide,by decide⟩
theorem OkD.bdk {d:Dyadic} (h:OkD d) {k:Nat} (hk:65536≤k):Bd k d:=by
 refine ⟨?_,by have:=h.lo;unfold fE;omega,by have:=h.hi;unfold fE;omega⟩
 have h1:fN d<18446744073709551616 ^ (nuOf d).w.length:=by
  unfold fN;exact nval_lt (by decide) _ (by rw [nuOf_f];exact digs_lt (by decide) _)
 refine Nat.lt_of_lt_of_le h1 ?_
 rw [show (18446744073709551616:Nat)=2 ^ 64 from rfl,← Nat.pow_mul]
 exact Nat.pow_le_pow_right (by decide) (by have:=h.len;omega)
theorem OkD.bd {d:Dyadic} (h:OkD d):Bd 65536 d:=h.bdk (Nat.le_refl _)
theorem numR_ok {d:Dyadic} (h:OkD d):numR d=(nuOf d,0):=if_pos h
theorem numR_over {d:Dyadic} (h:¬ OkD d):numR d=(nu0,2):=if_neg h
end Go.V
namespace Go.V
open Go
theorem dy_lt {n m:Nat} {e:Int}:dy false n e<dy false m e ↔ n<m:=by
 unfold dy;rw [owp_lt];simp [sg]
theorem dy_cmp {n m:Nat} {e:Int}:cmpD (dy false n e) (dy false m e)=cmpI n m:=by
 unfold cmpD cmpI;simp only [dy_lt,Int.ofNat_lt]
theorem dy_up (neg:Bool) (n m:Nat) (e:Int):dy neg n (e + m)=dy neg (n * 2 ^ m) e:=(dy_shl neg n m e).symm
theorem bit_lo {n:Nat} (h:n≠0):2 ^ (bitLen n - 1)≤n:=(bitLen_spec n).2 h
theorem bit_hi (n:Nat):n<2 ^ bitLen n:=(bitLen_spec n).1
theorem size_lt {n m:Nat} {ea eb:Int} (hm:m≠0) (h:(bitLen n:Int) + ea<bitLen m + eb):dy false n ea<dy false m eb:=by
 have key:∀ (e0:Int) (i j:Nat),ea=e0 + i→eb=e0 + j→dy false n ea<dy false m eb:=by
  rintro e0 i j rfl rfl
  rw [dy_up,dy_up,dy_lt]
  have h1:=Nat.mul_lt_mul_of_pos_right (bit_hi n) (Nat.two_pow_pos i)
  have h2:=Nat.mul_le_mul_right (2 ^ j) (bit_lo hm)
  have h3:=bitLen_pos hm
  rw [← Nat.pow_add] at h1 h2
  have h4:(2:Nat) ^ (bitLen n + i)≤2 ^ (bitLen m - 1 + j):=Nat.pow_le_pow_right (by decide) (by omega)
  omega
 by_cases he:ea≤eb
 ·exact key ea 0 (eb - ea).toNat (by omega) (by omega)
 ·exact key eb (ea - eb).toNat 0 (by omega) (by omega)
theorem cmpD_lt {a b:Dyadic} (h:a<b):cmpD a b = -1:=if_pos h
theorem cmpD_gt {a b:Dyadic} (h:b<a):cmpD a b=1:=by
 unfold cmpD
 rw [if_neg (by grind),if_pos h]
theorem cmpD_negs (a b:Dyadic):cmpD (-a) (-b) = - cmpD a b:=by
 unfold cmpD
 have h1 : -a < -b ↔ b<a:=by grind
 have h2 : -b < -a ↔ a<b:=by grind
 simp only [h1,h2]
 by_cases h:a<b
 ·rw [if_neg (by grind),if_pos h,if_pos h];rfl
 ·rw [if_neg h,if_neg h]
  split<;>rfl
theorem cmpD_sgn {a b:Dyadic} (h:sgnD a≠sgnD b):cmpD a b=cmpI (sgnD a) (sgnD b):=by
 unfold cmpD sgnD cmpI at *
 by_cases a1:a<0<;>by_cases a2:0<a<;>by_cases b1:b<0<;>by_cases b2:0<b<;>simp only [a1,a2,b1,b2,if_true,if_false] at h ⊢<;>first
  | exact absurd rfl h
  | (have:a<b:=by grind
     simp only [this,if_true];decide)
  | (have h1:¬ a<b:=by grind
     have h2:b<a:=by grind
     simp only [h1,h2,if_true,if_false];decide)
  | (exfalso;grind)
theorem cmpD_zero:cmpD 0 0=0:=by decide
theorem sgnD_zero {d:Dyadic}:sgnD d=0 ↔ d=0:=by
 unfold sgnD
 constructor
 ·intro h
  by_cases h1:d<0
  ·rw [if_pos h1] at h;simp at h
  ·rw [if_neg h1] at h
   by_cases h2:0<d
   ·rw [if_pos h2] at h;simp at h
   ·grind
 ·rintro rfl;decide
theorem sgnD_range (d:Dyadic) : -1≤sgnD d∧sgnD d≤1:=by
 unfold sgnD;split
 ·decide
 ·split<;>decide
theorem cmpD_range (a b:Dyadic) : -1≤cmpD a b∧cmpD a b≤1:=by
 unfold cmpD;split
 ·decide
 ·split<;>decide
theorem cmpD_abs {neg neg':Bool} {n m:Nat} {e f:Int} (hn:n≠0) (hm:m≠0) (h:sgnD (dy neg n e)=sgnD (dy neg' m f)) :
 sgnD (dy neg' m f) * cmpD (dy false n e) (dy false m f)=cmpD (dy neg n e) (dy neg' m f):=by
 rw [sgnD_dy,sgnD_dy,if_neg hn,if_neg hm] at h
 rw [sgnD_dy,if_neg hm]
 cases neg<;>cases neg'<;>simp at h ⊢
 have h1:=dy_neg false n e
 have h2:=dy_neg false m f
 simp only [Bool.not_false] at h1 h2
 rw [← h1,← h2,cmpD_negs]
theorem tz_words {w:List Nat} {k:Nat} (hb:∀ y ∈ w,y<18446744073709551616) (hl:w.length≤k) (h0:nval 18446744073709551616 w≠0):tz (nval 18446744073709551616 w)<64 * k:=by
 refine tz_lt (Nat.lt_of_lt_of_le (nval_lt (B:=18446744073709551616) (by decide) w hb) ?_) h0
 rw [Nat.pow_mul]
 exact Nat.pow_le_pow_right (by decide) hl
structure Sz (k:Nat) (x:Nu):Prop where
 b:∀ y ∈ x.w,y<18446744073709551616
 len:x.w.length≤k
 lo : -(k:Int)≤x.exp
 hi:x.exp≤k
theorem Sz.mono {k m:Nat} {x:Nu} (h:Sz k x) (hm:k≤m):Sz m x:=⟨h.b,by have:=h.len;omega,by have:=h.lo;omega,by have:=h.hi;omega⟩
theorem Sz.lt {k:Nat} {x:Nu} (h:Sz k x):nval 18446744073709551616 x.w<18446744073709551616 ^ k :=
 Nat.lt_of_lt_of_le (nval_lt (by decide) _ h.b) (Nat.pow_le_pow_right (by decide) h.len)
theorem Sz.mk' {k:Nat} {neg:Bool} {n:Nat} {e:Int} (hn:n<18446744073709551616 ^ k) (h1 : -(k:Int)≤e) (h2:e≤k):Sz k ⟨neg,e,digs 18446744073709551616 n⟩ :=
 ⟨digs_lt (by decide) n,digs_len_le (by decide) hn,h1,h2⟩
theorem Sz.zero (k:Nat):Sz k nu0:=⟨by simp [nu0],by simp [nu0],by simp [nu0],by simp [nu0]⟩
theorem val_mk {neg:Bool} {n:Nat} {e:Int}:(⟨neg,e,digs 18446744073709551616 n⟩:Nu).val=dy neg n e:=by
 unfold Nu.val;rw [nval_digs (by decide)]
theorem OkD.sz {d:Dyadic} (h:OkD d):Sz 65536 (nuOf d):=⟨by rw [nuOf_f];exact digs_lt (by decide) _,by have:=h.len;omega,by have:=h.lo;omega,by have:=h.hi;omega⟩
theorem pow_up {n m k:Nat} (hn:n<18446744073709551616 ^ k):n * 2 ^ m<18446744073709551616 ^ (k + m):=by
 rw [Nat.pow_add]
 have h1:(2:Nat) ^ m≤18446744073709551616 ^ m:=Nat.pow_le_pow_left (by decide) m
 have h2:=Nat.mul_lt_mul_of_pos_right hn (Nat.two_pow_pos m)
 have h3:=Nat.mul_le_mul_left (18446744073709551616 ^ k) h1
 omega
theorem OkD_word {neg:Bool} {n:Nat} {e:Int} (hn:n<18446744073709551616) (h1 : -65536≤e) (h2:e + 64≤65536):OkD (dy neg n e):=by
 by_cases h0:n=0
 ·rw [dy_zero.2 h0];exact OkD.zero
 ·unfold OkD
  rw [nuOf_dy h0]
  have ht:tz n<64:=tz_lt hn h0
  refine ⟨?_,?_,?_⟩
  ·have:(digs 18446744073709551616 (n / 2 ^ tz n)).length≤1:=digs_len_le (by decide) (Nat.lt_of_le_of_lt (Nat.div_le_self _ _) (by simpa using hn))
   simp only;omega
  ·simp only;omega
  ·simp only;omega
structure Wl (k:Nat) (x:Nu):Prop where
 b:∀ y ∈ x.w,y<18446744073709551616
 len:x.w.length≤k
theorem Sz.wl {k:Nat} {x:Nu} (h:Sz k x):Wl k x:=⟨h.b,h.len⟩
theorem right_sz {x:Nu} (hb:∀ y ∈ x.w,y<18446744073709551616) (h:rightB x=true):Sz 65536 x:=by
 obtain ⟨d,hd,rfl⟩:=right_is hb h
 exact hd.sz
end Go.V
namespace Go.V
open Go
theorem Bd.of {k m:Nat} {neg:Bool} {n:Nat} {e:Int} (hn:n<2 ^ m) (h1 : -(k:Int)≤e) (h2:e≤k):Bd (k + m) (Go.V.dy neg n e):=by
 by_cases h0:n=0
 ·rw [dy_zero.2 h0];exact Bd.zero _
 ·obtain ⟨a,b,c⟩:=f_of (neg:=neg) (e:=e) h0
  have ht:=tz_lt hn h0
  refine ⟨?_,?_,?_⟩
  ·rw [b]
   exact Nat.lt_of_le_of_lt (Nat.div_le_self _ _) (Nat.lt_of_lt_of_le hn (Nat.pow_le_pow_right (by decide) (by omega)))
  ·rw [c];omega
  ·rw [c];omega
theorem f_neg (d:Dyadic) (h:d≠0):fS (-d) = !fS d∧fN (-d)=fN d∧fE (-d)=fE d:=by
 have e : -d=Go.V.dy (!fS d) (fN d) (fE d):=by rw [← dy_neg,dy_f]
 rw [e,fS_odd (fN_mod h),fN_odd (fN_mod h),fE_odd (fN_mod h)]
 exact ⟨rfl,rfl,rfl⟩
theorem Bd.neg {k:Nat} {d:Dyadic} (h:Bd k d):Bd k (-d):=by
 by_cases h0:d=0
 ·subst h0;exact Bd.zero k
 ·obtain ⟨_,a,b⟩:=f_neg d h0
  refine ⟨?_,?_,?_⟩
  ·rw [a];exact h.1
  ·rw [b];exact h.2.1
  ·rw [b];exact h.2.2
theorem mul_f (a b:Dyadic):a * b=Go.V.dy (fS a != fS b) (fN a * fN b) (fE a + fE b):=by rw [← dy_mul,dy_f,dy_f]
theorem mul_odd {a b:Dyadic} (ha:a≠0) (hb:b≠0):fS (a * b)=(fS a != fS b)∧fN (a * b)=fN a * fN b∧fE (a * b)=fE a + fE b:=by
 have h:fN a * fN b % 2=1:=by rw [Nat.mul_mod,fN_mod ha,fN_mod hb]
 rw [mul_f,fS_odd h,fN_odd h,fE_odd h]
 exact ⟨rfl,rfl,rfl⟩
theorem Bd.mul {k m:Nat} {a b:Dyadic} (ha:Bd k a) (hb:Bd m b):Bd (k + m) (a * b):=by
 by_cases h0:a=0
 ·subst h0;rw [Dyadic.zero_mul];exact Bd.zero _
 by_cases h1:b=0
 ·subst h1;rw [Dyadic.mul_zero];exact Bd.zero _
 obtain ⟨_,x,y⟩:=mul_odd h0 h1
 have:=ha.2.1;have:=ha.2.2;have:=hb.2.1;have:=hb.2.2
 refine ⟨?_,?_,?_⟩
 ·rw [x,Nat.pow_add];exact Nat.mul_lt_mul_of_lt_of_le ha.1 (Nat.le_of_lt hb.1) (Nat.two_pow_pos m)
 ·rw [y];omega
 ·rw [y];omega
theorem low_e (a b:Dyadic):∃ (e:Int) (i j:Nat),(if fE b<fE a then fE b else fE a)=e∧fE a - e=i∧fE b - e=j:=by
 by_cases h:fE b<fE a
 ·exact ⟨fE b,(fE a - fE b).toNat,0,if_pos h,by omega,by omega⟩
 ·exact ⟨fE a,0,(fE b - fE a).toNat,if_neg h,by omega,by omega⟩
theorem up_f {d:Dyadic} {e:Int} {i:Nat} (h:fE d - e=i):d=Go.V.dy (fS d) (fN d * 2 ^ i) e:=by
 conv=>lhs;rw [← dy_f d]
 rw [← dy_up];congr 1;omega
theorem up_lt2 {k m n i:Nat} (hn:n<2 ^ k) (hi:i≤m):n * 2 ^ i<2 ^ (k + m):=by
 rw [Nat.pow_add]
 have h1:(2:Nat) ^ i≤2 ^ m:=Nat.pow_le_pow_right (by decide) hi
 have h2:=Nat.mul_lt_mul_of_pos_right hn (Nat.two_pow_pos i)
 have h3:=Nat.mul_le_mul_left (2 ^ k) h1
 omega
theorem Bd.add {k:Nat} {a b:Dyadic} (ha:Bd k a) (hb:Bd k b):Bd (4 * k + 1) (a + b):=by
 obtain ⟨e,i,j,h1,h2,h3⟩:=low_e a b
 have a1:=ha.2.1;have a2:=ha.2.2;have b1:=hb.2.1;have b2:=hb.2.2
 have e1 : -(k:Int)≤e:=by rw [← h1];split<;>assumption
 have e2:e≤k:=by rw [← h1];split<;>assumption
 have i1:i≤2 * k:=by omega
 have j1:j≤2 * k:=by omega
 have x:=up_lt2 ha.1 i1
 have y:=up_lt2 hb.1 j1
 rw [up_f h2,up_f h3]
 have hp:(2:Nat) ^ (k + 2 * k) + 2 ^ (k + 2 * k)=2 ^ (3 * k + 1):=by rw [show k + 2 * k=3 * k by omega,Nat.pow_succ];omega
 rw [show 4 * k + 1=k + (3 * k + 1) by omega]
 by_cases hs:fS a=fS b
 ·rw [← hs,dy_add]
  exact Bd.of (by omega) e1 e2
 ·by_cases hle:fN b * 2 ^ j≤fN a * 2 ^ i
  ·rw [dy_sub hs hle];exact Bd.of (by omega) e1 e2
  ·rw [Dyadic.add_comm,dy_sub (Ne.symm hs) (by omega)];exact Bd.of (by omega) e1 e2
theorem digs32_le {n k:Nat} (h:n<2 ^ k):(digs 4294967296 n).length≤k :=
 digs_len_le (by decide) (Nat.lt_of_lt_of_le h (Nat.pow_le_pow_left (by decide) k))
end Go.V
namespace Go.V
open Go
theorem owp_le {x y p:Int}:Dyadic.ofIntWithPrec x p≤Dyadic.ofIntWithPrec y p ↔ x≤y:=by
 have:=owp_lt (x:=y) (y:=x) (p:=p)
 constructor
 ·intro h;by_cases h2:y<x
  ·have:=this.2 h2;grind
  ·omega
 ·intro h
  have h3:¬ Dyadic.ofIntWithPrec y p<Dyadic.ofIntWithPrec x p:=by rw [this];omega
  grind
theorem dy_le {n m:Nat} {e:Int}:dy false n e≤dy false m e ↔ n≤m:=by
 unfold dy;rw [owp_le];simp [sg]
theorem bitLen_mul {n:Nat} (k:Nat) (h:n≠0):bitLen (n * 2 ^ k)=bitLen n + k:=by
 have h1:=bitLen_pos h
 refine bitLen_unique ?_ (fun _=>?_)
 ·rw [Nat.pow_add];exact Nat.mul_lt_mul_of_pos_right (bit_hi n) (Nat.two_pow_pos k)
 ·rw [show bitLen n + k - 1=bitLen n - 1 + k by omega,Nat.pow_add];exact Nat.mul_le_mul_right _ (bit_lo h)
def rdM (p:Nat) (up s:Bool) (n:Nat) (e:Int):Dyadic :=
 if bitLen n≤p then dy s n e else dy s (n / 2 ^ (bitLen n - p) + if n % 2 ^ (bitLen n - p)≠0∧up≠s then 1 else 0) (e + (bitLen n - p:Nat))
def rd (p:Nat) (up:Bool) (d:Dyadic):Dyadic:=rdM p up (fS d) (fN d) (fE d)
theorem dy0 (s:Bool) (e:Int):dy s 0 e=0:=dy_zero.2 rfl
theorem rdM_zero (p:Nat) (up s:Bool) (e:Int):rdM p up s 0 e=0:=by
 unfold rdM;rw [if_pos (by rw [bitLen_zero];omega),dy0]
theorem rdM_shl (p:Nat) (up s:Bool) (n k:Nat) (e:Int):rdM p up s (n * 2 ^ k) e=rdM p up s n (e + k):=by
 by_cases h0:n=0
 ·subst h0;rw [Nat.zero_mul,rdM_zero,rdM_zero]
 unfold rdM
 rw [bitLen_mul k h0]
 by_cases h1:bitLen n + k≤p
 ·rw [if_pos h1,if_pos (by omega),dy_shl]
 rw [if_neg h1]
 by_cases h2:bitLen n≤p
 ·rw [if_pos h2]
  obtain ⟨j,hj⟩:∃ j,bitLen n + k - p=j:=⟨_,rfl⟩
  obtain ⟨i,hi⟩:∃ i,k=i + j:=⟨k - j,by omega⟩
  rw [hj];subst hi
  rw [Nat.pow_add,← Nat.mul_assoc,Nat.mul_mod_left,if_neg (by simp),Nat.mul_div_cancel _ (Nat.two_pow_pos j),Nat.add_zero,dy_shl]
  congr 1;omega
 ·rw [if_neg h2]
  obtain ⟨j,hj⟩:∃ j,bitLen n - p=j:=⟨_,rfl⟩
  rw [show bitLen n + k - p=j + k by omega,hj,Nat.pow_add,Nat.mul_div_mul_right _ _ (Nat.two_pow_pos k),Nat.mul_mod_mul_right]
  have:(n % 2 ^ j * 2 ^ k≠0) ↔ (n % 2 ^ j≠0):=by
   rw [Ne,Nat.mul_eq_zero]
   have:=Nat.two_pow_pos k
   omega
  simp only [this]
  congr 1;omega
theorem rd_dy (p:Nat) (up s:Bool) (n:Nat) (e:Int):rd p up (dy s n e)=rdM p up s n e:=by
 by_cases h0:n=0
 ·subst h0;rw [rdM_zero,dy0];unfold rd;rw [fN_zero,rdM_zero]
 obtain ⟨h1,h2,h3⟩:=f_of (neg:=s) (e:=e) h0
 unfold rd
 rw [h1,h2,h3,← rdM_shl]
 obtain ⟨m,hm⟩:=tz_spec n h0
 congr 1
 generalize tz n=t at hm
 subst hm
 rw [Nat.mul_comm (2 ^ t),Nat.mul_div_cancel _ (Nat.two_pow_pos t)]
theorem rdM_not (p:Nat) (up s:Bool) (n:Nat) (e:Int):rdM p up (!s) n e = - rdM p (!up) s n e:=by
 unfold rdM
 split
 ·rw [dy_neg]
 ·rw [dy_neg]
  congr 2
  cases up<;>cases s<;>simp
theorem rd_neg (p:Nat) (up:Bool) (d:Dyadic):rd p up (-d) = - rd p (!up) d:=by
 have:=dy_f d
 rw [← this,dy_neg,rd_dy,rd_dy,rdM_not]
def Pb (p:Nat) (d:Dyadic):Prop:=fN d<2 ^ p
theorem Pb.dy {p n:Nat} {s:Bool} {e:Int} (h:n<2 ^ p):Pb p (Go.V.dy s n e):=by
 by_cases h0:n=0
 ·subst h0;rw [dy0];unfold Pb;rw [fN_zero];exact Nat.two_pow_pos p
 ·unfold Pb;rw [(f_of h0).2.1];exact Nat.lt_of_le_of_lt (Nat.div_le_self _ _) h
theorem f_negN (d:Dyadic):fN (-d)=fN d:=by
 by_cases h:d=0
 ·subst h;rfl
 ·exact (f_neg d h).2.1
theorem Pb.neg {p:Nat} {d:Dyadic} (h:Pb p d):Pb p (-d):=by unfold Pb;rw [f_negN];exact h
theorem q_lo {p n:Nat} (h:¬ bitLen n≤p) (hp:1≤p):2 ^ (p - 1)≤n / 2 ^ (bitLen n - p):=by
 rw [Nat.le_div_iff_mul_le (Nat.two_pow_pos _),← Nat.pow_add]
 have h0:n≠0:=by rintro rfl;rw [bitLen_zero] at h;omega
 have:=bit_lo h0
 rwa [show p - 1 + (bitLen n - p)=bitLen n - 1 by omega]
theorem q_hi {p n:Nat} (h:¬ bitLen n≤p):n / 2 ^ (bitLen n - p)<2 ^ p:=by
 rw [Nat.div_lt_iff_lt_mul (Nat.two_pow_pos _),← Nat.pow_add,show p + (bitLen n - p)=bitLen n by omega]
 exact bit_hi n
theorem rdM_pb {p:Nat} {up s:Bool} {n:Nat} {e:Int} (hp:1≤p):Pb p (rdM p up s n e):=by
 unfold rdM
 by_cases h:bitLen n≤p
 ·rw [if_pos h];exact Pb.dy (Nat.lt_of_lt_of_le (bit_hi n) (Nat.pow_le_pow_right (by decide) h))
 rw [if_neg h]
 have h1:=q_hi h
 generalize n / 2 ^ (bitLen n - p)=q at *
 split
 ·by_cases h2:q + 1<2 ^ p
  ·exact Pb.dy h2
  ·have h3:q + 1=1 * 2 ^ p:=by omega
   rw [h3,dy_shl]
   exact Pb.dy (Nat.lt_of_lt_of_le (by decide:1<2 ^ 1) (Nat.pow_le_pow_right (by decide) hp))
 ·exact Pb.dy h1
theorem rd_pb {p:Nat} {up:Bool} {d:Dyadic} (hp:1≤p):Pb p (rd p up d):=rdM_pb hp
theorem pb_gap {p q m:Nat} {g f:Int} (hp:1≤p) (hq:2 ^ (p - 1)≤q) (hm:m<2 ^ p) (h1:dy false q g<dy false m f) (h2:dy false m f<dy false (q + 1) g):False:=by
 by_cases h:g≤f
 ·obtain ⟨i,rfl⟩:∃ i:Nat,f=g + i:=⟨(f - g).toNat,by omega⟩
  rw [dy_up,dy_lt] at h1 h2
  omega
 ·obtain ⟨i,rfl⟩:∃ i:Nat,g=f + (i + 1:Nat):=⟨(g - f - 1).toNat,by omega⟩
  rw [dy_up,dy_lt] at h1
  have h3:2 ^ (p - 1) * 2 ^ 1≤q * 2 ^ (i + 1):=Nat.mul_le_mul hq (Nat.pow_le_pow_right (by decide) (by omega))
  rw [← Nat.pow_add,show p - 1 + 1=p by omega] at h3
  omega
theorem pos_f {c:Dyadic} (h:0<c):c=dy false (fN c) (fE c)∧fN c≠0:=by
 have h1:=dy_f c
 have h2:fS c=false∧fN c≠0:=by rw [← h1] at h;exact dy_pos.1 h
 rw [h2.1] at h1
 exact ⟨h1.symm,h2.2⟩
theorem dy_nn (n:Nat) (e:Int):0≤dy false n e:=by
 have:=dy_le (n:=0) (m:=n) (e:=e)
 rw [dy0] at this
 exact this.2 (Nat.zero_le _)
theorem pb_gap' {p q:Nat} {g:Int} {c:Dyadic} (hp:1≤p) (hq:2 ^ (p - 1)≤q) (hc:Pb p c) (h1:dy false q g<c) (h2:c<dy false (q + 1) g):False:=by
 have h0:=dy_nn q g
 obtain ⟨h3,h4⟩:=pos_f (c:=c) (by grind)
 rw [h3] at h1 h2
 exact pb_gap hp hq hc h1 h2
theorem mod_up {n j:Nat} (h:n % 2 ^ j≠0):n<(n / 2 ^ j + 1) * 2 ^ j:=by
 have:=Nat.div_add_mod n (2 ^ j)
 have h2:=Nat.mod_lt n (Nat.two_pow_pos j)
 rw [Nat.add_mul,Nat.one_mul,Nat.mul_comm];omega
theorem mod_eq {n j:Nat} (h:¬ n % 2 ^ j≠0):n=n / 2 ^ j * 2 ^ j:=by
 have:=Nat.div_add_mod n (2 ^ j)
 rw [Nat.mul_comm];omega
theorem dn_le_pos {p n:Nat} {e:Int}:rdM p false false n e≤dy false n e:=by
 unfold rdM
 by_cases h:bitLen n≤p
 ·rw [if_pos h];grind
 ·rw [if_neg h,if_neg (by simp),Nat.add_zero,dy_up,dy_le]
  exact Nat.div_mul_le_self _ _
theorem up_ge_pos {p n:Nat} {e:Int}:dy false n e≤rdM p true false n e:=by
 unfold rdM
 by_cases h:bitLen n≤p
 ·rw [if_pos h];grind
 ·rw [if_neg h,dy_up,dy_le]
  by_cases h2:n % 2 ^ (bitLen n - p)≠0
  ·rw [if_pos ⟨h2,by decide⟩];exact Nat.le_of_lt (mod_up h2)
  ·rw [if_neg (by simp only [not_and];exact fun h3=>absurd h3 h2),Nat.add_zero];exact Nat.le_of_eq (mod_eq h2)
theorem dn_max_pos {p n:Nat} {e:Int} {c:Dyadic} (hp:1≤p) (hc:Pb p c) (h:c≤dy false n e):c≤rdM p false false n e:=by
 unfold rdM
 by_cases h1:bitLen n≤p
 ·rw [if_pos h1];exact h
 ·rw [if_neg h1,if_neg (by simp),Nat.add_zero]
  have hq:=q_lo h1 hp
  by_cases h2:n % 2 ^ (bitLen n - p)≠0
  ·have h3:dy false n e<dy false (n / 2 ^ (bitLen n - p) + 1) (e + (bitLen n - p:Nat)):=by
    rw [dy_up,dy_lt];exact mod_up h2
   by_cases h4:dy false (n / 2 ^ (bitLen n - p)) (e + (bitLen n - p:Nat))<c
   ·exact (pb_gap' hp hq hc h4 (by grind)).elim
   ·grind
  ·have h3:dy false (n / 2 ^ (bitLen n - p)) (e + (bitLen n - p:Nat))=dy false n e:=by
    rw [dy_up,← mod_eq h2]
   rw [h3];exact h
theorem up_min_pos {p n:Nat} {e:Int} {c:Dyadic} (hp:1≤p) (hc:Pb p c) (h:dy false n e≤c):rdM p true false n e≤c:=by
 unfold rdM
 by_cases h1:bitLen n≤p
 ·rw [if_pos h1];exact h
 ·rw [if_neg h1]
  have hq:=q_lo h1 hp
  by_cases h2:n % 2 ^ (bitLen n - p)≠0
  ·rw [if_pos ⟨h2,by decide⟩]
   have h3:dy false (n / 2 ^ (bitLen n - p)) (e + (bitLen n - p:Nat))<dy false n e:=by
    rw [dy_up,dy_lt]
    have:=Nat.div_add_mod n (2 ^ (bitLen n - p))
    rw [Nat.mul_comm];omega
   by_cases h4:c<dy false (n / 2 ^ (bitLen n - p) + 1) (e + (bitLen n - p:Nat))
   ·exact (pb_gap' hp hq hc (by grind) h4).elim
   ·grind
  ·rw [if_neg (by simp only [not_and];exact fun h3=>absurd h3 h2),Nat.add_zero,dy_up,← mod_eq h2]
   exact h
theorem sgn_cases (d:Dyadic):(∃ n e,d=dy false n e)∨(∃ n e,d = - dy false n e):=by
 have h:=dy_f d
 cases hs:fS d
 ·rw [hs] at h;exact .inl ⟨_,_,h.symm⟩
 ·rw [hs] at h;exact .inr ⟨fN d,fE d,by rw [dy_neg];exact h.symm⟩
theorem dn_le (p:Nat) (d:Dyadic):rd p false d≤d:=by
 rcases sgn_cases d with ⟨n,e,rfl⟩|⟨n,e,rfl⟩
 ·rw [rd_dy];exact dn_le_pos
 ·rw [rd_neg,rd_dy];have:=up_ge_pos (p:=p) (n:=n) (e:=e);simp only [Bool.not_false];grind
theorem le_up (p:Nat) (d:Dyadic):d≤rd p true d:=by
 have:=dn_le p (-d)
 rw [rd_neg] at this;simp only [Bool.not_false] at this;grind
theorem dn_max {p:Nat} {c d:Dyadic} (hp:1≤p) (hc:Pb p c) (h:c≤d):c≤rd p false d:=by
 rcases sgn_cases d with ⟨n,e,rfl⟩|⟨n,e,rfl⟩
 ·rw [rd_dy];exact dn_max_pos hp hc h
 ·rw [rd_neg,rd_dy];have:=up_min_pos (n:=n) (e:=e) hp hc.neg (by grind);simp only [Bool.not_false];grind
theorem up_min {p:Nat} {c d:Dyadic} (hp:1≤p) (hc:Pb p c) (h:d≤c):rd p true d≤c:=by
 have:=dn_max (d := -d) hp hc.neg (by grind)
 rw [rd_neg] at this;simp only [Bool.not_false] at this;grind
theorem rd_mono {p:Nat} {up:Bool} {a b:Dyadic} (hp:1≤p) (h:a≤b):rd p up a≤rd p up b:=by
 cases up
 ·exact dn_max hp (rd_pb hp) (by have:=dn_le p a;grind)
 ·exact up_min hp (rd_pb hp) (by have:=le_up p b;grind)
def quo (p:Nat) (a b:Dyadic):Dyadic :=
 dy (fS a != fS b) (2 * (fN a * 2 ^ (p + 2 + bitLen (fN b) - bitLen (fN a)) / fN b) + if fN a * 2 ^ (p + 2 + bitLen (fN b) - bitLen (fN a)) % fN b=0 then 0 else 1) (fE a - fE b - (p + 2 + bitLen (fN b) - bitLen (fN a):Nat) - 1)
end Go.V
namespace Go.V
open Go Go.RowKit Go.Proofs
def qC1_34_6:List (Nat × Nat):=[(0,0),(1,1),(2,0),(3,0),(4,1),(5,0),(6,1),(7,0),(8,0),(9,1),(10,0)]
def qC1_52_6:List (Nat × Nat):=[(0,0),(1,1),(2,0),(3,0),(4,1),(5,0),(6,1),(7,0),(8,0),(9,1),(10,0)]
attribute [go_sem] qC1_34_6 qC1_52_6
def NU (x:Nu):D:=.agg [bl x.neg,i64 x.exp,W64 x.w]
theorem rnD_W64 {σ:Nm→Nm} {xs:List Nat}:rnD σ (W64 xs)=W64 xs:=rfl
theorem rnC_W64 {σ:Nm→Nm} {xs:List Nat}:rnC σ (W64 xs)=W64 xs:=rfl
attribute [go_sem] NU rnD_W64 rnC_W64
def NE (p:Nu × Int):D:=.tup [NU p.1,i64 p.2]
theorem ar_u64 {n:Int} {K:Value→Prop}:arith .u64 n K=K (.int .u64 (IntKind.u64.wrap n)):=rfl
attribute [go_sem] NE ar_u64
theorem numR_zero:numR 0=(nu0,0):=numR_ok OkD.zero
def opR (x y:Nu) (v:Dyadic):Nu × Int:=if rightB x && rightB y then numR v else (nu0,1)
theorem and1_64 {x:Nat} (h:x<18446744073709551616):bitsV .and .u64 (x:Int) 1=((x % 2:Nat):Int):=by
 have:=and64_nat x 1 h (by decide)
 rw [show ((1:Nat):Int)=1 from rfl,Nat.and_one_is_mod] at this
 exact this
theorem rightB_ne {neg:Bool} {exp:Int} {w:List Nat} (h:¬ w.length=0):rightB ⟨neg,exp,w⟩=(decide ((D64 (N64 w)).length=w.length) && decide (w.length≤64) && decide (w.getD 0 0 % 2=1) && decide (-65536≤exp) && decide (exp≤65536)):=if_neg h
theorem p_nRight {x:Nu} (hb:B64 x.w):PC Tryz.prog 76 [NU x] fun d=>d=bl (rightB x):=by
 obtain ⟨neg,exp,w⟩:=x
 have hb:B64 w:=hb
 refine PB (rs:=[.tmp 2]) Tryz.func76 ?_
 repeat (first|(with_reducible first|refine pv_seq fun K hK=>?_|((first|refine hK _ _ ?_|(clear hK;refine hK _ _ ?_)|(clear hK;clear hK;refine hK _ _ ?_));clear hK;try clear K))| refine W0 ?_|exact Z|with_reducible intro b)
 refine pv_cdD (fun ht=>?_) (fun ht=>?_)
 ·cases neg
  ·repeat (first|(with_reducible first|refine pv_seq fun K hK=>?_|((first|refine hK _ _ ?_|(clear hK;refine hK _ _ ?_)|(clear hK;clear hK;refine hK _ _ ?_));clear hK;try clear K))| refine W0 ?_|exact Z|with_reducible intro b)
   simp [rightB,ht]
  ·repeat (first|(with_reducible first|refine pv_seq fun K hK=>?_|((first|refine hK _ _ ?_|(clear hK;refine hK _ _ ?_)|(clear hK;clear hK;refine hK _ _ ?_));clear hK;try clear K))| refine W0 ?_|exact Z|with_reducible intro b)
   simp [rightB,ht]
 ·by_cases h1:(D64 (N64 w)).length=w.length
  ·have a1:=and1_64 (get_lt hb (by decide) 0)
   have ft:=And.intro h1 a1
   repeat (first|(with_reducible first|refine pv_seq fun K hK=>?_|((first|refine hK _ _ ?_|(clear hK;refine hK _ _ ?_)|(clear hK;clear hK;refine hK _ _ ?_));clear hK;try clear K))| refine W0 ?_|exact Z|with_reducible intro b|refine call_is (by exact (p_Right hb)) ?_)
   refine pv_cdD (fun ht2=>?_) (fun ht2=>?_)
   ·repeat (first|(with_reducible first|refine pv_seq fun K hK=>?_|((first|refine hK _ _ ?_|(clear hK;refine hK _ _ ?_)|(clear hK;clear hK;refine hK _ _ ?_));clear hK;try clear K))| refine W0 ?_|exact Z|with_reducible intro b)
    have:(w.length≤64)=False:=eq_false (by omega)
    simp only [rightB_ne ht,this,eq_self,decide_true,decide_false,Bool.true_and,Bool.and_true,Bool.false_and,Bool.and_false]
   ·have i0:0<w.length:=by omega
    have hl:w.length≤64:=by omega
    by_cases h3:w.getD 0 0 % 2=1
    ·by_cases h4 : -65536≤exp
     ·have k3:(((w.getD 0 0 % 2:Nat):Int)=1)=True:=eq_true (by omega)
      have k4:(-65536≤exp)=True:=eq_true h4
      have ft:=And.intro h1 (And.intro a1 (And.intro k3 (And.intro k4 i0)))
      repeat (first|(with_reducible first|refine pv_seq fun K hK=>?_|((first|refine hK _ _ ?_|(clear hK;refine hK _ _ ?_)|(clear hK;clear hK;refine hK _ _ ?_));clear hK;try clear K))| refine W0 ?_|exact Z|with_reducible intro b)
      simp only [rightB_ne ht,h1,eq_true hl,h3,eq_true h4,eq_self,decide_true,decide_false,Bool.true_and,Bool.and_true,Bool.false_and,Bool.and_false]
     ·have k3:(((w.getD 0 0 % 2:Nat):Int)=1)=True:=eq_true (by omega)
      have k4:(-65536≤exp)=False:=eq_false h4
      have ft:=And.intro h1 (And.intro a1 (And.intro k3 (And.intro k4 i0)))
      repeat (first|(with_reducible first|refine pv_seq fun K hK=>?_|((first|refine hK _ _ ?_|(clear hK;refine hK _ _ ?_)|(clear hK;clear hK;refine hK _ _ ?_));clear hK;try clear K))| refine W0 ?_|exact Z|with_reducible intro b)
      simp only [rightB_ne ht,eq_false h4,eq_self,decide_true,decide_false,Bool.true_and,Bool.and_true,Bool.false_and,Bool.and_false]
    ·have k3:(((w.getD 0 0 % 2:Nat):Int)=1)=False:=eq_false (by omega)
     have ft:=And.intro h1 (And.intro a1 (And.intro k3 i0))
     repeat (first|(with_reducible first|refine pv_seq fun K hK=>?_|((first|refine hK _ _ ?_|(clear hK;refine hK _ _ ?_)|(clear hK;clear hK;refine hK _ _ ?_));clear hK;try clear K))| refine W0 ?_|exact Z|with_reducible intro b)
     simp only [rightB_ne ht,eq_false h3,eq_self,decide_true,decide_false,Bool.true_and,Bool.and_true,Bool.false_and,Bool.and_false]
  ·repeat (first|(with_reducible first|refine pv_seq fun K hK=>?_|((first|refine hK _ _ ?_|(clear hK;refine hK _ _ ?_)|(clear hK;clear hK;refine hK _ _ ?_));clear hK;try clear K))| refine W0 ?_|exact Z|with_reducible intro b)
   refine call_is (p_Right hb) ?_
   rw [decide_eq_false h1]
   repeat (first|(with_reducible first|refine pv_seq fun K hK=>?_|((first|refine hK _ _ ?_|(clear hK;refine hK _ _ ?_)|(clear hK;clear hK;refine hK _ _ ?_));clear hK;try clear K))| refine W0 ?_|exact Z|with_reducible intro b)
   simp only [rightB_ne ht,eq_false h1,eq_self,decide_true,decide_false,Bool.true_and,Bool.and_true,Bool.false_and,Bool.and_false]
theorem p_rRight {x:Nu} (hb:B64 x.w):PC Tryz.prog 91 [NU x] fun d=>d=bl (rightB x):=by
 obtain ⟨neg,exp,w⟩:=x
 have hb:B64 w:=hb
 refine PB (rs:=[.tmp 2]) Tryz.func91 ?_
 repeat (first|(with_reducible first|refine pv_seq fun K hK=>?_|((first|refine hK _ _ ?_|(clear hK;refine hK _ _ ?_)|(clear hK;clear hK;refine hK _ _ ?_));clear hK;try clear K))| refine W0 ?_|exact Z|with_reducible intro b)
 refine pv_cdD (fun ht=>?_) (fun ht=>?_)
 ·cases neg
  ·repeat (first|(with_reducible first|refine pv_seq fun K hK=>?_|((first|refine hK _ _ ?_|(clear hK;refine hK _ _ ?_)|(clear hK;clear hK;refine hK _ _ ?_));clear hK;try clear K))| refine W0 ?_|exact Z|with_reducible intro b)
   simp [rightB,ht]
  ·repeat (first|(with_reducible first|refine pv_seq fun K hK=>?_|((first|refine hK _ _ ?_|(clear hK;refine hK _ _ ?_)|(clear hK;clear hK;refine hK _ _ ?_));clear hK;try clear K))| refine W0 ?_|exact Z|with_reducible intro b)
   simp [rightB,ht]
 ·have a1:=and1_64 (get_lt hb (by decide) 0)
  have i0:0<w.length:=by omega
  have e1:(w.length:Int) - 1=((w.length - 1:Nat):Int):=by omega
  have i1:w.length - 1<w.length:=by omega
  have hnt:(D64 (N64 w)).length=w.length ↔ w.getD (w.length - 1) 0≠0:=by
   rw [digs_len_eq (by decide) hb]
   unfold NoTail
   rw [List.getLast?_eq_getElem?,getD_some i1]
   exact ⟨fun h=>h _ rfl,fun h y hy=>by injection hy with hy;rw [← hy];exact h⟩
  by_cases hl:w.length≤64
  ·have kl:((w.length:Int)≤64)=True:=eq_true (by omega)
   by_cases h1:w.getD (w.length - 1) 0=0
   ·have ft:=And.intro kl (And.intro h1 (And.intro e1 i1))
    repeat (first|(with_reducible first|refine pv_seq fun K hK=>?_|((first|refine hK _ _ ?_|(clear hK;refine hK _ _ ?_)|(clear hK;clear hK;refine hK _ _ ?_));clear hK;try clear K))| refine W0 ?_|exact Z|with_reducible intro b)
    simp only [rightB_ne ht,eq_false (fun h=>hnt.1 h h1),decide_true,decide_false,Bool.true_and,Bool.and_true,Bool.false_and,Bool.and_false]
   ·have h2:=hnt.2 h1
    by_cases h3:w.getD 0 0 % 2=1
    ·have k3:(((w.getD 0 0 % 2:Nat):Int)=1)=True:=eq_true (by omega)
     by_cases h4 : -65536≤exp
     ·have ft:=And.intro kl (And.intro (eq_false h1) (And.intro e1 (And.intro i1 (And.intro a1 (And.intro k3 (And.intro (eq_true h4) i0))))))
      repeat (first|(with_reducible first|refine pv_seq fun K hK=>?_|((first|refine hK _ _ ?_|(clear hK;refine hK _ _ ?_)|(clear hK;clear hK;refine hK _ _ ?_));clear hK;try clear K))| refine W0 ?_|exact Z|with_reducible intro b)
      simp only [rightB_ne ht,h2,eq_true hl,h3,eq_true h4,eq_self,decide_true,decide_false,Bool.true_and,Bool.and_true,Bool.false_and,Bool.and_false]
     ·have ft:=And.intro kl (And.intro (eq_false h1) (And.intro e1 (And.intro i1 (And.intro a1 (And.intro k3 (And.intro (eq_false h4) i0))))))
      repeat (first|(with_reducible first|refine pv_seq fun K hK=>?_|((first|refine hK _ _ ?_|(clear hK;refine hK _ _ ?_)|(clear hK;clear hK;refine hK _ _ ?_));clear hK;try clear K))| refine W0 ?_|exact Z|with_reducible intro b)
      simp only [rightB_ne ht,eq_false h4,eq_self,decide_true,decide_false,Bool.true_and,Bool.and_true,Bool.false_and,Bool.and_false]
    ·have k3:(((w.getD 0 0 % 2:Nat):Int)=1)=False:=eq_false (by omega)
     have ft:=And.intro kl (And.intro (eq_false h1) (And.intro e1 (And.intro i1 (And.intro a1 (And.intro k3 i0)))))
     repeat (first|(with_reducible first|refine pv_seq fun K hK=>?_|((first|refine hK _ _ ?_|(clear hK;refine hK _ _ ?_)|(clear hK;clear hK;refine hK _ _ ?_));clear hK;try clear K))| refine W0 ?_|exact Z|with_reducible intro b)
     simp only [rightB_ne ht,eq_false h3,eq_self,decide_true,decide_false,Bool.true_and,Bool.and_true,Bool.false_and,Bool.and_false]
  ·have kl:((w.length:Int)≤64)=False:=eq_false (by omega)
   have ft:=kl
   repeat (first|(with_reducible first|refine pv_seq fun K hK=>?_|((first|refine hK _ _ ?_|(clear hK;refine hK _ _ ?_)|(clear hK;clear hK;refine hK _ _ ?_));clear hK;try clear K))| refine W0 ?_|exact Z|with_reducible intro b)
   simp only [rightB_ne ht,eq_false hl,eq_self,decide_true,decide_false,Bool.true_and,Bool.and_true,Bool.false_and,Bool.and_false]
theorem p_nSame {x y:Nu} (hl:x.w.length≤1099511627776):PC Tryz.prog 34 [NU x,NU y] fun d=>d=bl (decide (x=y)):=by
 obtain ⟨neg,exp,w⟩:=x
 obtain ⟨neg',exp',w'⟩:=y
 have hl:w.length≤1099511627776:=hl
 have d1:=@dl 6 qC1_34_6
 refine PB (rs:=[.tmp 4]) Tryz.func34 ?_
 by_cases h1:neg=neg'
 ·subst h1
  have k1:(!neg == neg)=false:=by cases neg<;>rfl
  have k1':(neg != neg)=false:=by cases neg<;>rfl
  by_cases h2:exp=exp'
  ·subst h2
   by_cases h3:w.length=w'.length
   ·have k3:((w.length:Int)=(w'.length:Int))=True:=eq_true (by omega)
    have ft:=And.intro k1 (And.intro k1' h3)
    repeat (first|(with_reducible first|refine pv_seq fun K hK=>?_|((first|refine hK _ _ ?_|(clear hK;refine hK _ _ ?_)|(clear hK;clear hK;refine hK _ _ ?_));clear hK;try clear K))| refine W0 ?_|exact Z|with_reducible intro b)
    have J:∀ (e:DEnv) (S:Store),w=w'→K e S:=by
     intro e S h
     repeat (first|(with_reducible first|refine pv_seq fun K hK=>?_|((first|refine hK _ _ ?_|(clear hK;refine hK _ _ ?_)|(clear hK;clear hK;refine hK _ _ ?_));clear hK;try clear K))| refine W0 ?_|exact Z|with_reducible intro b)
     subst h;simp
    clear hK
    refine pv_loop (fun e S=>∃ (i b2 b3:Nat),i≤w'.length∧(∀ j,j<i→w.getD j 0=w'.getD j 0)∧e 2=.ptr (.l 2) b2 0 0 3∧e 3=.ptr (.l 3) b3 0 0 3∧e 29=i64 w'.length∧e 30=i64 i∧S (.l 2)=some ⟨b2,3,0,[[bl neg,i64 exp,W64 w]]⟩∧S (.l 3)=some ⟨b3,3,0,[[bl neg,i64 exp,W64 w']]⟩) (fun e _=>w'.length - (intD (e 30)).toNat) ?_ ?_
    ·exact ⟨0,_,_,Nat.zero_le _,fun j hj=>by omega,rfl,rfl,Z,Z,rfl,rfl⟩
    ·rintro e S ⟨i,b2,b3,hi,hz,g2,g3,g29,g5,hS2,hS3⟩
     have ft:=And.intro g2 (And.intro g3 (And.intro g29 (And.intro g5 (And.intro hS2 (And.intro hS3 h3)))))
     repeat (first|(with_reducible first|refine pv_seq fun K hK=>?_|((first|refine hK _ _ ?_|(clear hK;refine hK _ _ ?_)|(clear hK;clear hK;refine hK _ _ ?_));clear hK;try clear K))| refine W0 ?_|exact Z|with_reducible intro b)
     refine pv_cdD (fun ht=>?_) (fun ht=>?_)
     ·have hi2:i<w.length:=by omega
      have ft:=And.intro g2 (And.intro g3 (And.intro g29 (And.intro g5 (And.intro hS2 (And.intro hS3 (And.intro (eq_true hi2) (eq_true ht)))))))
      repeat (first|(with_reducible first|refine pv_seq fun K hK=>?_|((first|refine hK _ _ ?_|(clear hK;refine hK _ _ ?_)|(clear hK;clear hK;refine hK _ _ ?_));clear hK;try clear K))| refine W0 ?_|exact Z|with_reducible intro b)
      refine pv_cdD (fun ht2=>?_) (fun ht2=>?_)
      ·repeat (first|(with_reducible first|refine pv_seq fun K hK=>?_|((first|refine hK _ _ ?_|(clear hK;refine hK _ _ ?_)|(clear hK;clear hK;refine hK _ _ ?_));clear hK;try clear K))| refine W0 ?_|exact Z|with_reducible intro b)
       rw [decide_eq_false]
       intro h
       injection h with _ _ h
       subst h;exact ht2 rfl
      ·repeat (first|(with_reducible first|refine pv_seq fun K hK=>?_|((first|refine hK _ _ ?_|(clear hK;refine hK _ _ ?_)|(clear hK;clear hK;refine hK _ _ ?_));clear hK;try clear K))| refine W0 ?_|exact Z|with_reducible intro b)
       refine ⟨⟨i + 1,b2,b3,by omega,fun j hj=>?_,rfl,rfl,rfl,rfl,rfl⟩,by simp only [intD];omega⟩
       rcases Nat.lt_or_ge j i with h|h
       ·exact hz j h
       ·obtain rfl:j=i:=by omega
        exact Decidable.not_not.1 ht2
     ·have ft:=And.intro g2 (And.intro g3 (And.intro g29 (And.intro g5 (And.intro hS2 hS3))))
      repeat (first|(with_reducible first|refine pv_seq fun K hK=>?_|((first|refine hK _ _ ?_|(clear hK;refine hK _ _ ?_)|(clear hK;clear hK;refine hK _ _ ?_));clear hK;try clear K))| refine W0 ?_|exact Z|with_reducible intro b)
      refine J _ _ (list_ext_getD h3 fun j=>?_)
      rcases Nat.lt_or_ge j i with h|h
      ·exact hz j h
      ·simp [List.getD,List.getElem?_eq_none (show w.length≤j by omega),List.getElem?_eq_none (show w'.length≤j by omega)]
   ·have ft:=And.intro k1 (And.intro k1' (eq_false h3))
    repeat (first|(with_reducible first|refine pv_seq fun K hK=>?_|((first|refine hK _ _ ?_|(clear hK;refine hK _ _ ?_)|(clear hK;clear hK;refine hK _ _ ?_));clear hK;try clear K))| refine W0 ?_|exact Z|with_reducible intro b)
    rw [decide_eq_false]
    intro h;injection h with _ _ h;subst h;exact h3 rfl
  ·have ft:=And.intro k1 (And.intro k1' (eq_false h2))
   repeat (first|(with_reducible first|refine pv_seq fun K hK=>?_|((first|refine hK _ _ ?_|(clear hK;refine hK _ _ ?_)|(clear hK;clear hK;refine hK _ _ ?_));clear hK;try clear K))| refine W0 ?_|exact Z|with_reducible intro b)
   rw [decide_eq_false]
   intro h;injection h with _ h;exact h2 h
 ·have k1:(!neg == neg')=true:=by cases neg<;>cases neg'<;>simp at h1 ⊢
  have k1':(neg != neg')=true:=by cases neg<;>cases neg'<;>simp at h1 ⊢
  have ft:=And.intro k1 k1'
  repeat (first|(with_reducible first|refine pv_seq fun K hK=>?_|((first|refine hK _ _ ?_|(clear hK;refine hK _ _ ?_)|(clear hK;clear hK;refine hK _ _ ?_));clear hK;try clear K))| refine W0 ?_|exact Z|with_reducible intro b)
  rw [decide_eq_false]
  intro h;injection h with h;exact h1 h
theorem p_rSame {x y:Nu} (hl:x.w.length≤1099511627776):PC Tryz.prog 52 [NU x,NU y] fun d=>d=bl (decide (x=y)):=by
 obtain ⟨neg,exp,w⟩:=x
 obtain ⟨neg',exp',w'⟩:=y
 have hl:w.length≤1099511627776:=hl
 have d1:=@dl 6 qC1_52_6
 refine PB (rs:=[.tmp 4]) Tryz.func52 ?_
 by_cases h1:neg=neg'
 ·subst h1
  have k1:(!neg == neg)=false:=by cases neg<;>rfl
  have k1':(neg != neg)=false:=by cases neg<;>rfl
  by_cases h2:exp=exp'
  ·subst h2
   by_cases h3:w.length=w'.length
   ·have k3:((w.length:Int)=(w'.length:Int))=True:=eq_true (by omega)
    have ft:=And.intro k1 (And.intro k1' h3)
    repeat (first|(with_reducible first|refine pv_seq fun K hK=>?_|((first|refine hK _ _ ?_|(clear hK;refine hK _ _ ?_)|(clear hK;clear hK;refine hK _ _ ?_));clear hK;try clear K))| refine W0 ?_|exact Z|with_reducible intro b)
    have J:∀ (e:DEnv) (S:Store),w=w'→K e S:=by
     intro e S h
     repeat (first|(with_reducible first|refine pv_seq fun K hK=>?_|((first|refine hK _ _ ?_|(clear hK;refine hK _ _ ?_)|(clear hK;clear hK;refine hK _ _ ?_));clear hK;try clear K))| refine W0 ?_|exact Z|with_reducible intro b)
     subst h;simp
    clear hK
    refine pv_loop (fun e S=>∃ (i b2 b3:Nat),i≤w'.length∧(∀ j,j<i→w.getD j 0=w'.getD j 0)∧e 2=.ptr (.l 2) b2 0 0 3∧e 3=.ptr (.l 3) b3 0 0 3 ∧  e 5=i64 i∧S (.l 2)=some ⟨b2,3,0,[[bl neg,i64 exp,W64 w]]⟩∧S (.l 3)=some ⟨b3,3,0,[[bl neg,i64 exp,W64 w']]⟩) (fun e _=>w'.length - (intD (e 5)).toNat) ?_ ?_
    ·exact ⟨0,_,_,Nat.zero_le _,fun j hj=>by omega,rfl,rfl,Z,rfl,rfl⟩
    ·rintro e S ⟨i,b2,b3,hi,hz,g2,g3,  g5,hS2,hS3⟩
     have ft:=And.intro g2 (And.intro g3 (And.intro g5 (And.intro hS2 (And.intro hS3 h3))))
     repeat (first|(with_reducible first|refine pv_seq fun K hK=>?_|((first|refine hK _ _ ?_|(clear hK;refine hK _ _ ?_)|(clear hK;clear hK;refine hK _ _ ?_));clear hK;try clear K))| refine W0 ?_|exact Z|with_reducible intro b)
     refine pv_cdD (fun ht=>?_) (fun ht=>?_)
     ·have hi2:i<w.length:=by omega
      have ft:=And.intro g2 (And.intro g3 (And.intro g5 (And.intro hS2 (And.intro hS3 (And.intro (eq_true hi2) (eq_true ht))))))
      repeat (first|(with_reducible first|refine pv_seq fun K hK=>?_|((first|refine hK _ _ ?_|(clear hK;refine hK _ _ ?_)|(clear hK;clear hK;refine hK _ _ ?_));clear hK;try clear K))| refine W0 ?_|exact Z|with_reducible intro b)
      refine pv_cdD (fun ht2=>?_) (fun ht2=>?_)
      ·repeat (first|(with_reducible first|refine pv_seq fun K hK=>?_|((first|refine hK _ _ ?_|(clear hK;refine hK _ _ ?_)|(clear hK;clear hK;refine hK _ _ ?_));clear hK;try clear K))| refine W0 ?_|exact Z|with_reducible intro b)
       rw [decide_eq_false]
       intro h
       injection h with _ _ h
       subst h;exact ht2 rfl
      ·repeat (first|(with_reducible first|refine pv_seq fun K hK=>?_|((first|refine hK _ _ ?_|(clear hK;refine hK _ _ ?_)|(clear hK;clear hK;refine hK _ _ ?_));clear hK;try clear K))| refine W0 ?_|exact Z|with_reducible intro b)
       refine ⟨⟨i + 1,b2,b3,by omega,fun j hj=>?_,rfl,rfl,rfl,rfl,rfl⟩,by simp only [intD];omega⟩
       rcases Nat.lt_or_ge j i with h|h
       ·exact hz j h
       ·obtain rfl:j=i:=by omega
        exact Decidable.not_not.1 ht2
     ·have ft:=And.intro g2 (And.intro g3 (And.intro g5 (And.intro hS2 hS3)))
      repeat (first|(with_reducible first|refine pv_seq fun K hK=>?_|((first|refine hK _ _ ?_|(clear hK;refine hK _ _ ?_)|(clear hK;clear hK;refine hK _ _ ?_));clear hK;try clear K))| refine W0 ?_|exact Z|with_reducible intro b)
      refine J _ _ (list_ext_getD h3 fun j=>?_)
      rcases Nat.lt_or_ge j i with h|h
      ·exact hz j h
      ·simp [List.getD,List.getElem?_eq_none (show w.length≤j by omega),List.getElem?_eq_none (show w'.length≤j by omega)]
   ·have ft:=And.intro k1 (And.intro k1' (eq_false h3))
    repeat (first|(with_reducible first|refine pv_seq fun K hK=>?_|((first|refine hK _ _ ?_|(clear hK;refine hK _ _ ?_)|(clear hK;clear hK;refine hK _ _ ?_));clear hK;try clear K))| refine W0 ?_|exact Z|with_reducible intro b)
    rw [decide_eq_false]
    intro h;injection h with _ _ h;subst h;exact h3 rfl
  ·have ft:=And.intro k1 (And.intro k1' (eq_false h2))
   repeat (first|(with_reducible first|refine pv_seq fun K hK=>?_|((first|refine hK _ _ ?_|(clear hK;refine hK _ _ ?_)|(clear hK;clear hK;refine hK _ _ ?_));clear hK;try clear K))| refine W0 ?_|exact Z|with_reducible intro b)
   rw [decide_eq_false]
   intro h;injection h with _ h;exact h2 h
 ·have k1:(!neg == neg')=true:=by cases neg<;>cases neg'<;>simp at h1 ⊢
  have k1':(neg != neg')=true:=by cases neg<;>cases neg'<;>simp at h1 ⊢
  have ft:=And.intro k1 k1'
  repeat (first|(with_reducible first|refine pv_seq fun K hK=>?_|((first|refine hK _ _ ?_|(clear hK;refine hK _ _ ?_)|(clear hK;clear hK;refine hK _ _ ?_));clear hK;try clear K))| refine W0 ?_|exact Z|with_reducible intro b)
  rw [decide_eq_false]
  intro h;injection h with h;exact h1 h
end Go.V
namespace Go.V
open Go Go.RowKit Go.Proofs
def qC2_58_9:List (Nat × Nat):=[(0,0),(1,2),(2,0),(3,2),(4,0),(5,1),(6,0),(7,4),(8,0),(9,3)]
def qC2_77_1:List (Nat × Nat):=[(0,0),(1,2),(2,0),(3,2),(4,0),(5,0),(6,2),(7,0),(8,2),(9,0),(10,0),(11,1),(12,0),(13,1),(14,4),(15,0),(16,3)]
def qC2_128_1:List (Nat × Nat):=[(0,0),(1,1),(3,0),(4,2),(6,0),(7,2),(9,0),(10,2),(2,4),(5,0),(8,4),(11,0),(12,0),(13,0)]
def qC2_128_5:List (Nat × Nat):=[(0,0),(1,1),(2,0),(3,1),(4,0),(5,1),(6,0),(8,0),(9,2),(7,4),(10,3),(11,0)]
def qC2_128_6:List (Nat × Nat):=[(0,0),(1,2),(2,0),(3,1),(4,0),(5,1),(6,0),(7,1),(8,0),(9,4),(10,3),(11,0)]
def qC2_88_1:List (Nat × Nat):=[(0,1),(2,2),(1,4),(3,3),(4,0),(5,0)]
attribute [go_sem] qC2_58_9 qC2_77_1 qC2_128_1 qC2_128_5 qC2_128_6 qC2_88_1
theorem p_isNaN64 {a:Int}:PC Tryz.prog 190 [i64 a] fun d=>d=bl false:=by
 refine PB (rs:=[.tmp 2]) Tryz.func190 ?_
 exact Wk
theorem p_cmp64 {a b:Int}:PC Tryz.prog 175 [i64 a,i64 b] fun d=>d=i64 (cmpI a b):=by
 refine PB (rs:=[.tmp 4]) Tryz.func175 ?_
 repeat (first|(with_reducible first|refine pv_seq fun K hK=>?_|((first|refine hK _ _ ?_|(clear hK;refine hK _ _ ?_)|(clear hK;clear hK;refine hK _ _ ?_));clear hK;try clear K))| refine W0 ?_|exact Z|with_reducible intro b|refine call_is (by exact p_isNaN64) ?_)
 refine pv_cdD (fun h1=>?_) (fun h1=>?_)
 ·repeat (first|(with_reducible first|refine pv_seq fun K hK=>?_|((first|refine hK _ _ ?_|(clear hK;refine hK _ _ ?_)|(clear hK;clear hK;refine hK _ _ ?_));clear hK;try clear K))| refine W0 ?_|exact Z|with_reducible intro b)
  rw [cmpI,if_pos h1]
 ·repeat (first|(with_reducible first|refine pv_seq fun K hK=>?_|((first|refine hK _ _ ?_|(clear hK;refine hK _ _ ?_)|(clear hK;clear hK;refine hK _ _ ?_));clear hK;try clear K))| refine W0 ?_|exact Z|with_reducible intro b)
  refine pv_cdD (fun h2=>?_) (fun h2=>?_)
  ·repeat (first|(with_reducible first|refine pv_seq fun K hK=>?_|((first|refine hK _ _ ?_|(clear hK;refine hK _ _ ?_)|(clear hK;clear hK;refine hK _ _ ?_));clear hK;try clear K))| refine W0 ?_|exact Z|with_reducible intro b)
   rw [cmpI,if_neg h1,if_pos h2]
  ·repeat (first|(with_reducible first|refine pv_seq fun K hK=>?_|((first|refine hK _ _ ?_|(clear hK;refine hK _ _ ?_)|(clear hK;clear hK;refine hK _ _ ?_));clear hK;try clear K))| refine W0 ?_|exact Z|with_reducible intro b)
   rw [cmpI,if_neg h1,if_neg h2]
theorem p_isNaNint {a:Int}:PC Tryz.prog 174 [i64 a] fun d=>d=bl false:=by
 refine PB (rs:=[.tmp 2]) Tryz.func174 ?_
 exact Wk
theorem p_cmpint {a b:Int}:PC Tryz.prog 127 [i64 a,i64 b] fun d=>d=i64 (cmpI a b):=by
 refine PB (rs:=[.tmp 4]) Tryz.func127 ?_
 repeat (first|(with_reducible first|refine pv_seq fun K hK=>?_|((first|refine hK _ _ ?_|(clear hK;refine hK _ _ ?_)|(clear hK;clear hK;refine hK _ _ ?_));clear hK;try clear K))| refine W0 ?_|exact Z|with_reducible intro b|refine call_is (by exact p_isNaNint) ?_)
 refine pv_cdD (fun h1=>?_) (fun h1=>?_)
 ·repeat (first|(with_reducible first|refine pv_seq fun K hK=>?_|((first|refine hK _ _ ?_|(clear hK;refine hK _ _ ?_)|(clear hK;clear hK;refine hK _ _ ?_));clear hK;try clear K))| refine W0 ?_|exact Z|with_reducible intro b)
  rw [cmpI,if_pos h1]
 ·repeat (first|(with_reducible first|refine pv_seq fun K hK=>?_|((first|refine hK _ _ ?_|(clear hK;refine hK _ _ ?_)|(clear hK;clear hK;refine hK _ _ ?_));clear hK;try clear K))| refine W0 ?_|exact Z|with_reducible intro b)
  refine pv_cdD (fun h2=>?_) (fun h2=>?_)
  ·repeat (first|(with_reducible first|refine pv_seq fun K hK=>?_|((first|refine hK _ _ ?_|(clear hK;refine hK _ _ ?_)|(clear hK;clear hK;refine hK _ _ ?_));clear hK;try clear K))| refine W0 ?_|exact Z|with_reducible intro b)
   rw [cmpI,if_neg h1,if_pos h2]
  ·repeat (first|(with_reducible first|refine pv_seq fun K hK=>?_|((first|refine hK _ _ ?_|(clear hK;refine hK _ _ ?_)|(clear hK;clear hK;refine hK _ _ ?_));clear hK;try clear K))| refine W0 ?_|exact Z|with_reducible intro b)
   rw [cmpI,if_neg h1,if_neg h2]
theorem p_eSign {k:Nat} {x:Nu} (h:Sz k x) (hk:k≤1073741824):PC Tryz.prog 93 [NU x] fun d=>d=i64 (sgnD x.val):=by
 obtain ⟨neg,exp,w⟩:=x
 have hl:=h.len
 have hb:=h.b
 simp only at hl hb
 refine PB (rs:=[.tmp 2]) Tryz.func93 ?_
 unfold Nu.val
 rw [sgnD_dy]
 repeat (first|(with_reducible first|refine pv_seq fun K hK=>?_|((first|refine hK _ _ ?_|(clear hK;refine hK _ _ ?_)|(clear hK;clear hK;refine hK _ _ ?_));clear hK;try clear K))| refine W0 ?_|exact Z|with_reducible intro b|refine call_is (by exact (p_Bits hb (by omega))) ?_)
 refine pv_cdD (fun h1=>?_) (fun h1=>?_)
 ·have h0:N64 w=0:=by
   rcases Nat.eq_zero_or_pos (N64 w) with h0|h0
   ·exact h0
   ·have:=bitLen_pos (n:=N64 w) (by omega);omega
  repeat (first|(with_reducible first|refine pv_seq fun K hK=>?_|((first|refine hK _ _ ?_|(clear hK;refine hK _ _ ?_)|(clear hK;clear hK;refine hK _ _ ?_));clear hK;try clear K))| refine W0 ?_|exact Z|with_reducible intro b)
  rw [if_pos h0]
 ·have h0:¬ N64 w=0:=fun h0=>h1 (by rw [h0];rfl)
  cases neg
  ·repeat (first|(with_reducible first|refine pv_seq fun K hK=>?_|((first|refine hK _ _ ?_|(clear hK;refine hK _ _ ?_)|(clear hK;clear hK;refine hK _ _ ?_));clear hK;try clear K))| refine W0 ?_|exact Z|with_reducible intro b)
   rw [if_neg h0]
  ·repeat (first|(with_reducible first|refine pv_seq fun K hK=>?_|((first|refine hK _ _ ?_|(clear hK;refine hK _ _ ?_)|(clear hK;clear hK;refine hK _ _ ?_));clear hK;try clear K))| refine W0 ?_|exact Z|with_reducible intro b)
   rw [if_neg h0]
theorem p_eMulW {k m:Nat} {a b:Nu} (ha:Sz k a) (hb:Sz m b) (hk:k≤268435456) (hm:m≤268435456):PC Tryz.prog 77 [NU a,NU b] fun d=>∃ z,d=NU z∧Sz (k + m) z∧z.val=a.val * b.val:=by
 obtain ⟨neg,exp,w⟩:=a
 obtain ⟨neg',exp',w'⟩:=b
 have l1:=ha.lo;have l2:=ha.hi;have l3:=hb.lo;have l4:=hb.hi
 have l5:=ha.len;have l6:=hb.len;have m1:=ha.lt;have m2:=hb.lt
 have hxb:=ha.b;have hyb:=hb.b
 simp only at l1 l2 l3 l4 l5 l6 m1 m2 hxb hyb
 have hz:Sz (k + m) ⟨neg != neg',exp + exp',D64 (N64 w * N64 w')⟩:=by
  refine Sz.mk' ?_ (by omega) (by omega)
  rw [Nat.pow_add]
  exact Nat.mul_lt_mul_of_lt_of_le m1 (Nat.le_of_lt m2) (Nat.pow_pos (by decide))
 have hv:(⟨neg != neg',exp + exp',D64 (N64 w * N64 w')⟩:Nu).val=Nu.val ⟨neg,exp,w⟩ * Nu.val ⟨neg',exp',w'⟩:=by
  rw [val_mk];exact (dy_mul _ _ _ _ _ _).symm
 have d1:=@dl 1 qC2_77_1
 refine PB (rs:=[.cell 4 41]) Tryz.func77 ?_
 repeat (first|(with_reducible first|refine pv_seq fun K hK=>?_|((first|refine hK _ _ ?_|(clear hK;refine hK _ _ ?_)|(clear hK;clear hK;refine hK _ _ ?_));clear hK;try clear K))| refine W0 ?_|exact Z|with_reducible intro b|refine call_is (by exact (p_Mul hxb hyb (by omega) (by omega))) ?_|(refine ExtC_is ?_;simp -implicitDefEqProofs only [ft,go_sem,seval];refine ext_is (by exact (p_Mul hxb hyb (by omega) (by omega))) ?_))
 exact ⟨_,rfl,hz,hv⟩
theorem p_eMul {k:Nat} {a b:Nu} (ha:Sz k a) (hb:Sz k b) (hk:k≤268435456):PC Tryz.prog 77 [NU a,NU b] fun d=>∃ z,d=NU z∧Sz (2 * k) z∧z.val=a.val * b.val:=by
 rw [Nat.two_mul];exact p_eMulW ha hb hk hk
set_option maxHeartbeats 1000000 in
theorem p_eAddX {k:Nat} {a b:Nu} (ha:Sz k a) (hb:Sz k b) (hk:k≤67108864):PC Tryz.prog 58 [NU a,NU b] fun d=>∃ z,d=NU z∧Sz (4 * k + 1) z∧z.val=a.val + b.val∧(z.exp=a.exp∨z.exp=b.exp)∧(a.w=D64 (N64 a.w)→b.w=D64 (N64 b.w)→z.w=D64 (N64 z.w)):=by
 obtain ⟨neg,exp,w⟩:=a
 obtain ⟨neg',exp',w'⟩:=b
 have l1:=ha.lo;have l2:=ha.hi;have l3:=hb.lo;have l4:=hb.hi
 have l5:=ha.len;have l6:=hb.len
 simp only at l1 l2 l3 l4 l5 l6
 have d1:=@dl 9 qC2_58_9
 refine PB (rs:=[.cell 4 41]) Tryz.func58 ?_
 repeat (first|(with_reducible first|refine pv_seq fun K hK=>?_|((first|refine hK _ _ ?_|(clear hK;refine hK _ _ ?_)|(clear hK;clear hK;refine hK _ _ ?_));clear hK;try clear K))| refine W0 ?_|exact Z|with_reducible intro b)
 refine call_is (p_eSign ha (by omega)) ?_
 by_cases za:Nu.val ⟨neg,exp,w⟩=0
 ·have z1:=eq_true (sgnD_zero.2 za)
  have ft:=z1
  repeat (first|(with_reducible first|refine pv_seq fun K hK=>?_|((first|refine hK _ _ ?_|(clear hK;refine hK _ _ ?_)|(clear hK;clear hK;refine hK _ _ ?_));clear hK;try clear K))| refine W0 ?_|exact Z|with_reducible intro b)
  exact ⟨⟨neg',exp',w'⟩,rfl,hb.mono (by omega),by rw [za,Dyadic.zero_add],.inr rfl,fun _ h=>h⟩
 ·have z1:=eq_false (mt sgnD_zero.1 za)
  have ft:=z1
  repeat (first|(with_reducible first|refine pv_seq fun K hK=>?_|((first|refine hK _ _ ?_|(clear hK;refine hK _ _ ?_)|(clear hK;clear hK;refine hK _ _ ?_));clear hK;try clear K))| refine W0 ?_|exact Z|with_reducible intro b)
  refine call_is (p_eSign hb (by omega)) ?_
  by_cases zb:Nu.val ⟨neg',exp',w'⟩=0
  ·have z2:=eq_true (sgnD_zero.2 zb)
   have ft:=z2
   repeat (first|(with_reducible first|refine pv_seq fun K hK=>?_|((first|refine hK _ _ ?_|(clear hK;refine hK _ _ ?_)|(clear hK;clear hK;refine hK _ _ ?_));clear hK;try clear K))| refine W0 ?_|exact Z|with_reducible intro b)
   exact ⟨⟨neg,exp,w⟩,rfl,ha.mono (by omega),by rw [zb,Dyadic.add_zero],.inl rfl,fun h _=>h⟩
  ·have z2:=eq_false (mt sgnD_zero.1 zb)
   have ft:=z2
   repeat (first|(with_reducible first|refine pv_seq fun K hK=>?_|((first|refine hK _ _ ?_|(clear hK;refine hK _ _ ?_)|(clear hK;clear hK;refine hK _ _ ?_));clear hK;try clear K))| refine W0 ?_|exact Z|with_reducible intro b)
   have J:∀ (e:DEnv) (S:Store) (n n':Bool) (p q:Int) (u v:List Nat),Sz k ⟨n,p,u⟩→Sz k ⟨n',q,v⟩→p≤q→(p=exp∨p=exp')→Nu.val ⟨n,p,u⟩ + Nu.val ⟨n',q,v⟩=Nu.val ⟨neg,exp,w⟩ + Nu.val ⟨neg',exp',w'⟩ →
    (∃ b2 b3 b4,e 2=.ptr (.l 2) b2 0 0 3∧e 3=.ptr (.l 3) b3 0 0 3∧e 4=.ptr (.l 4) b4 0 0 3∧S (.l 2)=some ⟨b2,3,0,[[bl n,i64 p,W64 u]]⟩∧S (.l 3)=some ⟨b3,3,0,[[bl n',i64 q,W64 v]]⟩∧S (.l 4)=some ⟨b4,3,0,[[bl false,i64 0,.nil]]⟩)→K e S:=by
    rintro e S n n' p q u v hu hv hpq hpe hval ⟨b2,b3,b4,f2,f3,f4,s2,s3,s4⟩
    have m1:=hu.lo;have m2:=hu.hi;have m3:=hv.lo;have m4:=hv.hi;have m5:=hu.len;have m6:=hv.len
    have hub:=hu.b;have hvb:=hv.b;have hul:=hu.lt;have hvl:=hv.lt
    simp only at m1 m2 m3 m4 m5 m6 hub hvb hul hvl
    obtain ⟨m,hm⟩:∃ m:Nat,q - p=m:=⟨(q - p).toNat,by omega⟩
    have hmk:m≤2 * k:=by omega
    have hvv:Nu.val ⟨n',q,v⟩=dy n' (N64 v * 2 ^ m) p:=by
     rw [← dy_up]
     show dy n' (N64 v) q=_
     rw [show q=p + (m:Int) by omega]
    have hvl2:N64 v * 2 ^ m<18446744073709551616 ^ (3 * k):=Nat.lt_of_lt_of_le (pow_up (m:=m) hvl) (Nat.pow_le_pow_right (by decide) (by omega))
    have hul2:N64 u<18446744073709551616 ^ (3 * k):=Nat.lt_of_lt_of_le hul (Nat.pow_le_pow_right (by decide) (by omega))
    have hDb:B64 (D64 (N64 v * 2 ^ m)):=digs_lt (by decide) _
    have hDl:(D64 (N64 v * 2 ^ m)).length≤3 * k:=digs_len_le (by decide) hvl2
    have hDn:N64 (D64 (N64 v * 2 ^ m))=N64 v * 2 ^ m:=nval_digs (by decide) _
    rw [hvv] at hval
    have ft:=And.intro f2 (And.intro f3 (And.intro f4 (And.intro s2 (And.intro s3 (And.intro s4 hm)))))
    repeat (first|(with_reducible first|refine pv_seq fun K hK=>?_|((first|refine hK _ _ ?_|(clear hK;refine hK _ _ ?_)|(clear hK;clear hK;refine hK _ _ ?_));clear hK;try clear K))| refine W0 ?_|exact Z|with_reducible intro b|refine call_is (by exact (p_Up (n:=m) hvb (by omega) (by omega))) ?_)
    have hu0:Nu.val ⟨n,p,u⟩=dy n (N64 u) p:=rfl
    rw [hu0] at hval
    by_cases hn:n=n'
    ·subst hn
     repeat (first|(with_reducible first|refine pv_seq fun K hK=>?_|refine pv_reg ?_|refine pv_draw (id:=9) qC2_58_9 (by kernel_rfl) ?_)|((with_reducible first|refine hK _ _ ?_|(clear hK;refine hK _ _ ?_)|(clear hK;clear hK;refine hK _ _ ?_));clear hK;try clear K)|simp -implicitDefEqProofs only [f2,f3,f4,s2,s3,s4,beq_self_eq_true,true_and,go_sem,seval]|with_reducible intro b|(with_reducible refine And.intro ?_ ?_;· first|assumption|omega|(unfold R64;omega)))
     refine ExtC_is ?_
     simp -implicitDefEqProofs only [f2,f3,f4,s2,s3,s4,beq_self_eq_true,true_and,go_sem,seval]
     refine ext_is (p_Add hub hDb (by omega) (by omega)) ?_
     rw [hDn]
     repeat (first|(with_reducible first|refine pv_seq fun K hK=>?_|refine pv_reg ?_|refine pv_draw (id:=9) qC2_58_9 (by kernel_rfl) ?_)|((with_reducible first|refine hK _ _ ?_|(clear hK;refine hK _ _ ?_)|(clear hK;clear hK;refine hK _ _ ?_));clear hK;try clear K)|simp -implicitDefEqProofs only [f2,f3,f4,s2,s3,s4,beq_self_eq_true,true_and,go_sem,seval]|with_reducible intro b|(with_reducible refine And.intro ?_ ?_;· first|assumption|omega|(unfold R64;omega)))
     refine ⟨⟨n,p,_⟩,rfl,Sz.mk' (Nat.lt_of_lt_of_le (show N64 u + N64 v * 2 ^ m<18446744073709551616 ^ (3 * k + 1) by rw [Nat.pow_succ];omega) (Nat.pow_le_pow_right (by decide) (by omega))) (by omega) (by omega),?_,hpe,fun _ _=>(congrArg _ (nval_digs (by decide) _)).symm⟩
     rw [val_mk,← hval,dy_add]
    ·have hb:(n == n')=false:=by cases n<;>cases n'<;>simp at hn ⊢
     have pS:=p_Sub hub hDb (by omega) (by omega)
     rw [hDn] at pS
     by_cases hle:N64 v * 2 ^ m≤N64 u
     ·rw [if_pos hle] at pS
      have ft:=And.intro f2 (And.intro f3 (And.intro f4 (And.intro s2 (And.intro s3 (And.intro s4 hb)))))
      repeat (first|(with_reducible first|refine pv_seq fun K hK=>?_|((first|refine hK _ _ ?_|(clear hK;refine hK _ _ ?_)|(clear hK;clear hK;refine hK _ _ ?_));clear hK;try clear K))| refine W ?_|exact Z|with_reducible intro b)
      refine ⟨⟨n,p,_⟩,rfl,Sz.mk' (Nat.lt_of_lt_of_le (show N64 u - N64 v * 2 ^ m<18446744073709551616 ^ (3 * k) by omega) (Nat.pow_le_pow_right (by decide) (by omega))) (by omega) (by omega),?_,hpe,fun _ _=>(congrArg _ (nval_digs (by decide) _)).symm⟩
      rw [val_mk,← hval,dy_sub hn hle]
     ·rw [if_neg hle] at pS
      have pT:=p_Sub hDb hub (by omega) (by omega)
      rw [hDn,if_pos (by omega)] at pT
      have ft:=And.intro f2 (And.intro f3 (And.intro f4 (And.intro s2 (And.intro s3 (And.intro s4 hb)))))
      repeat (first|(with_reducible first|refine pv_seq fun K hK=>?_|((first|refine hK _ _ ?_|(clear hK;refine hK _ _ ?_)|(clear hK;clear hK;refine hK _ _ ?_));clear hK;try clear K))| refine W ?_|exact Z|with_reducible intro b)
      refine ⟨⟨n',p,_⟩,rfl,Sz.mk' (Nat.lt_of_lt_of_le (show N64 v * 2 ^ m - N64 u<18446744073709551616 ^ (3 * k) by omega) (Nat.pow_le_pow_right (by decide) (by omega))) (by omega) (by omega),?_,hpe,fun _ _=>(congrArg _ (nval_digs (by decide) _)).symm⟩
      rw [val_mk,← hval,Dyadic.add_comm,dy_sub (Ne.symm hn) (by omega)]
   clear hK
   refine pv_cdD (fun ht=>?_) (fun ht=>?_)
   ·repeat (first|(with_reducible first|refine pv_seq fun K hK=>?_|((first|refine hK _ _ ?_|(clear hK;refine hK _ _ ?_)|(clear hK;clear hK;refine hK _ _ ?_));clear hK;try clear K))| refine W0 ?_|exact Z|with_reducible intro b)
    exact J _ _ neg' neg exp' exp w' w hb ha (by omega) (.inr rfl) (Dyadic.add_comm _ _) ⟨_,_,_,rfl,rfl,rfl,rfl,rfl,rfl⟩
   ·repeat (first|(with_reducible first|refine pv_seq fun K hK=>?_|((first|refine hK _ _ ?_|(clear hK;refine hK _ _ ?_)|(clear hK;clear hK;refine hK _ _ ?_));clear hK;try clear K))| refine W0 ?_|exact Z|with_reducible intro b)
    exact J _ _ neg neg' exp exp' w w' ha hb (by omega) (.inl rfl) rfl ⟨_,_,_,rfl,rfl,rfl,rfl,rfl,rfl⟩
theorem p_eAdd {k:Nat} {a b:Nu} (ha:Sz k a) (hb:Sz k b) (hk:k≤67108864):PC Tryz.prog 58 [NU a,NU b] fun d=>∃ z,d=NU z∧Sz (4 * k + 1) z∧z.val=a.val + b.val :=
 (p_eAddX ha hb hk).mono fun d ⟨z,h1,h2,h3,_⟩=>⟨z,h1,h2,h3⟩
set_option maxHeartbeats 1000000 in
theorem p_eSize {k:Nat} {a b:Nu} (ha:Sz k a) (hb:Sz k b) (hk:k≤67108864) (a0:N64 a.w≠0) (b0:N64 b.w≠0):PC Tryz.prog 128 [NU a,NU b] fun d=>d=i64 (cmpD (dy false (N64 a.w) a.exp) (dy false (N64 b.w) b.exp)):=by
 obtain ⟨neg,exp,w⟩:=a
 obtain ⟨neg',exp',w'⟩:=b
 have l1:=ha.lo;have l2:=ha.hi;have l3:=hb.lo;have l4:=hb.hi
 have l5:=ha.len;have l6:=hb.len;have hwb:=ha.b;have hwb':=hb.b;have hwl:=ha.lt;have hwl':=hb.lt
 simp only at l1 l2 l3 l4 l5 l6 a0 b0 hwb hwb' hwl hwl'
 have bl1:bitLen (N64 w)≤64 * k:=bitLen_le (by rw [Nat.pow_mul];exact hwl)
 have bl2:bitLen (N64 w')≤64 * k:=bitLen_le (by rw [Nat.pow_mul];exact hwl')
 have d1:=@dl 1 qC2_128_1
 have d2:=@dl 5 qC2_128_5
 have d3:=@dl 6 qC2_128_6
 refine PB (rs:=[.tmp 4]) Tryz.func128 ?_
 repeat (first|(with_reducible first|refine pv_seq fun K hK=>?_|((first|refine hK _ _ ?_|(clear hK;refine hK _ _ ?_)|(clear hK;clear hK;refine hK _ _ ?_));clear hK;try clear K))| refine W0 ?_|exact Z|with_reducible intro b|refine call_is (by first|exact (p_Bits hwb (by omega))|exact (p_Bits hwb' (by omega))) ?_|(refine ExtC_is ?_;simp -implicitDefEqProofs only [ft,go_sem,seval];refine ext_is (by first|exact (p_Bits hwb (by omega))|exact (p_Bits hwb' (by omega))) ?_))
 refine pv_cdD (fun h1=>?_) (fun h1=>?_)
 ·repeat (first|(with_reducible first|refine pv_seq fun K hK=>?_|((first|refine hK _ _ ?_|(clear hK;refine hK _ _ ?_)|(clear hK;clear hK;refine hK _ _ ?_));clear hK;try clear K))| refine W0 ?_|exact Z|with_reducible intro b)
  refine call_is p_cmp64 ?_
  rw [show cmpI ((bitLen (N64 w):Int) + exp) ((bitLen (N64 w'):Int) + exp')=cmpD (dy false (N64 w) exp) (dy false (N64 w') exp') by
   unfold cmpI
   split
   ·rename_i h;exact (cmpD_lt (size_lt b0 h)).symm
   ·rw [if_pos (by omega)];exact (cmpD_gt (size_lt a0 (by omega))).symm]
  exact Wk
 ·repeat (first|(with_reducible first|refine pv_seq fun K hK=>?_|((first|refine hK _ _ ?_|(clear hK;refine hK _ _ ?_)|(clear hK;clear hK;refine hK _ _ ?_));clear hK;try clear K))| refine W0 ?_|exact Z|with_reducible intro b)
  refine pv_cdD (fun h2=>?_) (fun h2=>?_)
  ·obtain ⟨m,hm⟩:∃ m:Nat,exp - exp'=m:=⟨(exp - exp').toNat,by omega⟩
   have hmk:m≤2 * k:=by omega
   have hDl:(D64 (N64 w * 2 ^ m)).length≤3 * k:=digs_len_le (by decide) (Nat.lt_of_lt_of_le (pow_up (m:=m) hwl) (Nat.pow_le_pow_right (by decide) (by omega)))
   have hDn:N64 (D64 (N64 w * 2 ^ m))=N64 w * 2 ^ m:=nval_digs (by decide) _
   have ft:=hm
   repeat (first|(with_reducible first|refine pv_seq fun K hK=>?_|((first|refine hK _ _ ?_|(clear hK;refine hK _ _ ?_)|(clear hK;clear hK;refine hK _ _ ?_));clear hK;try clear K))| refine W0 ?_|exact Z|with_reducible intro b|refine call_is (by exact (p_Up (n:=m) hwb (by omega) (by omega))) ?_|(refine ExtC_is ?_;simp -implicitDefEqProofs only [ft,go_sem,seval];refine ext_is (by exact (p_Up (n:=m) hwb (by omega) (by omega))) ?_))
   refine call_is (p_Cmp (digs_lt (by decide) _) hwb' (by omega) (by omega)) ?_
   rw [hDn,← dy_cmp (e:=exp'),← dy_up,show exp' + (m:Int)=exp by omega]
   exact Wk
  ·obtain ⟨m,hm⟩:∃ m:Nat,exp' - exp=m:=⟨(exp' - exp).toNat,by omega⟩
   have hmk:m≤2 * k:=by omega
   have hDl:(D64 (N64 w' * 2 ^ m)).length≤3 * k:=digs_len_le (by decide) (Nat.lt_of_lt_of_le (pow_up (m:=m) hwl') (Nat.pow_le_pow_right (by decide) (by omega)))
   have hDn:N64 (D64 (N64 w' * 2 ^ m))=N64 w' * 2 ^ m:=nval_digs (by decide) _
   have ft:=hm
   repeat (first|(with_reducible first|refine pv_seq fun K hK=>?_|((first|refine hK _ _ ?_|(clear hK;refine hK _ _ ?_)|(clear hK;clear hK;refine hK _ _ ?_));clear hK;try clear K))| refine W0 ?_|exact Z|with_reducible intro b|refine call_is (by exact (p_Up (n:=m) hwb' (by omega) (by omega))) ?_|(refine ExtC_is ?_;simp -implicitDefEqProofs only [ft,go_sem,seval];refine ext_is (by exact (p_Up (n:=m) hwb' (by omega) (by omega))) ?_))
   refine call_is (p_Cmp hwb (digs_lt (by decide) _) (by omega) (by omega)) ?_
   rw [hDn,← dy_cmp (e:=exp),← dy_up,show exp + (m:Int)=exp' by omega]
   exact Wk
theorem p_eCmp {k:Nat} {a b:Nu} (ha:Sz k a) (hb:Sz k b) (hk:k≤67108864):PC Tryz.prog 88 [NU a,NU b] fun d=>d=i64 (cmpD a.val b.val):=by
 obtain ⟨neg,exp,w⟩:=a
 obtain ⟨neg',exp',w'⟩:=b
 have d1:=@dl 1 qC2_88_1
 refine PB (rs:=[.tmp 4]) Tryz.func88 ?_
 repeat (first|(with_reducible first|refine pv_seq fun K hK=>?_|((first|refine hK _ _ ?_|(clear hK;refine hK _ _ ?_)|(clear hK;clear hK;refine hK _ _ ?_));clear hK;try clear K))| refine W0 ?_|exact Z|with_reducible intro b|refine call_is (by exact (p_eSign ha (by omega))) ?_|(refine ExtC_is ?_;simp -implicitDefEqProofs only [ft,go_sem,seval];refine ext_is (by exact (p_eSign ha (by omega))) ?_))
 refine call_is (p_eSign hb (by omega)) ?_
 by_cases hs:sgnD (Nu.val ⟨neg,exp,w⟩)=sgnD (Nu.val ⟨neg',exp',w'⟩)
 ·by_cases h0:sgnD (Nu.val ⟨neg',exp',w'⟩)=0
  ·have a0:=sgnD_zero.1 (hs.trans h0)
   have b0:=sgnD_zero.1 h0
   have ft:=And.intro hs h0
   repeat (first|(with_reducible first|refine pv_seq fun K hK=>?_|((first|refine hK _ _ ?_|(clear hK;refine hK _ _ ?_)|(clear hK;clear hK;refine hK _ _ ?_));clear hK;try clear K))| refine W0 ?_|exact Z|with_reducible intro b|refine call_is (by exact p_cmpint) ?_)
   rw [a0,b0,cmpD_zero];rfl
  ·have a1:N64 w≠0:=fun h=>h0 (hs ▸ sgnD_zero.2 (dy_zero.2 h))
   have b1:N64 w'≠0:=fun h=>h0 (sgnD_zero.2 (dy_zero.2 h))
   have ft:=And.intro hs (eq_false h0)
   repeat (first|(with_reducible first|refine pv_seq fun K hK=>?_|((first|refine hK _ _ ?_|(clear hK;refine hK _ _ ?_)|(clear hK;clear hK;refine hK _ _ ?_));clear hK;try clear K))| refine W0 ?_|exact Z|with_reducible intro b|refine call_is (by exact (p_eSize ha hb hk a1 b1)) ?_)
   have r1:=sgnD_range (Nu.val ⟨neg',exp',w'⟩)
   have r2:=cmpD_range (dy false (N64 w) exp) (dy false (N64 w') exp')
   have hab:=cmpD_abs a1 b1 hs
   refine ⟨?_,?_⟩
   ·generalize sgnD (Nu.val ⟨neg',exp',w'⟩)=s at *
    generalize cmpD (dy false (N64 w) exp) (dy false (N64 w') exp')=c at *
    have:s = -1∨s=0∨s=1:=by omega
    rcases this with rfl|rfl|rfl<;>(unfold R64;omega)
   ·repeat (first|(with_reducible first|refine pv_seq fun K hK=>?_|((first|refine hK _ _ ?_|(clear hK;refine hK _ _ ?_)|(clear hK;clear hK;refine hK _ _ ?_));clear hK;try clear K))| refine W0 ?_|exact Z|with_reducible intro b)
    exact congrArg i64 hab
 ·have ft:=(eq_false hs)
  repeat (first|(with_reducible first|refine pv_seq fun K hK=>?_|((first|refine hK _ _ ?_|(clear hK;refine hK _ _ ?_)|(clear hK;clear hK;refine hK _ _ ?_));clear hK;try clear K))| refine W0 ?_|exact Z|with_reducible intro b|refine call_is (by exact p_cmpint) ?_)
  rw [cmpD_sgn hs]
end Go.V
namespace Go.V
open Go Go.RowKit Go.Proofs
theorem numR_dy0 {neg:Bool} {e:Int}:numR (dy neg 0 e)=(nu0,0):=by rw [dy_zero.2 rfl,numR_zero]
theorem p_nMake {neg:Bool} {w:List Nat} {e:Int} (hb:B64 w) (hl:w.length≤1073741824) (he:R64 e):PC Tryz.prog 59 [bl neg,W64 w,i64 e] fun d=>d=NE (numR (dy neg (N64 w) e)):=by
 refine PB (rs:=[.cell 6 41,.tmp 7]) Tryz.func59 ?_
 repeat (first|(with_reducible first|refine pv_seq fun K hK=>?_|((first|refine hK _ _ ?_|(clear hK;refine hK _ _ ?_)|(clear hK;clear hK;refine hK _ _ ?_));clear hK;try clear K))| refine W0 ?_|exact Z|with_reducible intro b|refine call_is (by exact (p_Bits hb (by omega))) ?_)
 refine pv_cdD (fun h1=>?_) (fun h1=>?_)
 ·have h0:N64 w=0:=by
   rcases Nat.eq_zero_or_pos (N64 w) with h0|h0
   ·exact h0
   ·have:=bitLen_pos (n:=N64 w) (by omega);omega
  repeat (first|(with_reducible first|refine pv_seq fun K hK=>?_|((first|refine hK _ _ ?_|(clear hK;refine hK _ _ ?_)|(clear hK;clear hK;refine hK _ _ ?_));clear hK;try clear K))| refine W0 ?_|exact Z|with_reducible intro b)
  rw [h0,numR_dy0];try rfl
 ·have h0:N64 w≠0:=fun h0=>h1 (by rw [h0];rfl)
  obtain ⟨f1,f2,f3⟩:=f_of (neg:=neg) (e:=e) h0
  have hnu:=nuOf_dy (neg:=neg) (e:=e) h0
  have htz:=tz_words hb hl h0
  have pR:=p_nRight (x:=⟨neg,e + tz (N64 w),D64 (N64 w / 2 ^ tz (N64 w))⟩) (digs_lt (by decide) _)
  rw [← hnu,rightB_nuOf,hnu] at pR
  have hover:65536<e∨e < -65536 - (tz (N64 w):Int)→¬ OkD (dy neg (N64 w) e):=by
   intro h hk
   have h2:(nuOf (dy neg (N64 w) e)).exp≤65536:=hk.hi
   have h3 : -65536≤(nuOf (dy neg (N64 w) e)).exp:=hk.lo
   rw [hnu] at h2 h3
   simp only at h2 h3
   omega
  generalize hd:dy neg (N64 w) e=d at *
  generalize ht:tz (N64 w)=t at *
  unfold R64 at he
  repeat (first|(with_reducible first|refine pv_seq fun K hK=>?_|((first|refine hK _ _ ?_|(clear hK;refine hK _ _ ?_)|(clear hK;clear hK;refine hK _ _ ?_));clear hK;try clear K))| refine W0 ?_|exact Z|with_reducible intro b)
  refine call_is (p_Zeros hb (by omega)) ?_
  rw [ht]
  repeat (first|(with_reducible first|refine pv_seq fun K hK=>?_|((first|refine hK _ _ ?_|(clear hK;refine hK _ _ ?_)|(clear hK;clear hK;refine hK _ _ ?_));clear hK;try clear K))| refine W0 ?_|exact Z|with_reducible intro b)
  by_cases g1:65536<e
  ·have ft:=(eq_true g1)
   repeat (first|(with_reducible first|refine pv_seq fun K hK=>?_|((first|refine hK _ _ ?_|(clear hK;refine hK _ _ ?_)|(clear hK;clear hK;refine hK _ _ ?_));clear hK;try clear K))| refine W0 ?_|exact Z|with_reducible intro b)
   rw [numR_over (hover (.inl g1))];try rfl
  ·by_cases g2:e < -65536 - (t:Int)
   ·have ft:=And.intro (eq_false g1) (eq_true g2)
    repeat (first|(with_reducible first|refine pv_seq fun K hK=>?_|((first|refine hK _ _ ?_|(clear hK;refine hK _ _ ?_)|(clear hK;clear hK;refine hK _ _ ?_));clear hK;try clear K))| refine W0 ?_|exact Z|with_reducible intro b)
    rw [numR_over (hover (.inr g2))];try rfl
   ·have ft:=And.intro (eq_false g1) (eq_false g2)
    repeat (first|(with_reducible first|refine pv_seq fun K hK=>?_|((first|refine hK _ _ ?_|(clear hK;refine hK _ _ ?_)|(clear hK;clear hK;refine hK _ _ ?_));clear hK;try clear K))| refine W0 ?_|exact Z|with_reducible intro b|refine call_is (by exact (p_Down (n:=t) hb (by omega) (by omega))) ?_)
    refine call_is pR ?_
    by_cases hk:OkD d
    ·rw [decide_eq_true hk]
     repeat (first|(with_reducible first|refine pv_seq fun K hK=>?_|((first|refine hK _ _ ?_|(clear hK;refine hK _ _ ?_)|(clear hK;clear hK;refine hK _ _ ?_));clear hK;try clear K))| refine W0 ?_|exact Z|with_reducible intro b)
     rw [numR_ok hk,hnu];try rfl
    ·rw [decide_eq_false hk]
     repeat (first|(with_reducible first|refine pv_seq fun K hK=>?_|((first|refine hK _ _ ?_|(clear hK;refine hK _ _ ?_)|(clear hK;clear hK;refine hK _ _ ?_));clear hK;try clear K))| refine W0 ?_|exact Z|with_reducible intro b)
     rw [numR_over hk];try rfl
theorem p_nMade {k:Nat} {x:Nu} (h:Sz k x) (hk:k≤1073741824):PC Tryz.prog 119 [NU x] fun d=>d=NE (numR x.val):=by
 obtain ⟨neg,exp,w⟩:=x
 have hlo:=h.lo;have hhi:=h.hi;have hl:=h.len;have hb:=h.b
 simp only at hlo hhi hl hb
 refine PB (rs:=[.cell 2 41,.tmp 3]) Tryz.func119 ?_
 repeat (first|(with_reducible first|refine pv_seq fun K hK=>?_|((first|refine hK _ _ ?_|(clear hK;refine hK _ _ ?_)|(clear hK;clear hK;refine hK _ _ ?_));clear hK;try clear K))| refine W0 ?_|exact Z|with_reducible intro b)
 refine call_is (p_nMake hb (by omega) (by unfold R64;omega)) ?_
 exact Wk
theorem p_nInt {n:Int} (hn:R64 n):PC Tryz.prog 79 [i64 n] fun d=>d=NU (nuOf (dy (decide (n<0)) n.natAbs 0)):=by
 unfold R64 at hn
 refine PB (rs:=[.cell 2 41]) Tryz.func79 ?_
 have hk:OkD (dy (decide (n<0)) n.natAbs 0):=OkD_word (by omega) (by decide) (by decide)
 have hwl:B64 [n.natAbs]:=by intro x hx;rw [List.mem_singleton.1 hx];omega
 have pM:=p_nMake (neg:=decide (n<0)) (w:=[n.natAbs]) (e:=0) hwl (by simp) (by unfold R64;omega)
 rw [show N64 [n.natAbs]=n.natAbs by simp [nval],numR_ok hk] at pM
 by_cases hn0:n<0
 ·have e1:IntKind.u64.wrap n=((18446744073709551616 - n.natAbs:Nat):Int):=by simp [IntKind.wrap,IntKind.signed,IntKind.bits];omega
  have e2:IntKind.u64.wrap (0 - ((18446744073709551616 - n.natAbs:Nat):Int))=(n.natAbs:Int):=by simp [IntKind.wrap,IntKind.signed,IntKind.bits];omega
  have e3:IntKind.u64.wrap (- ((18446744073709551616 - n.natAbs:Nat):Int))=(n.natAbs:Int):=by simp [IntKind.wrap,IntKind.signed,IntKind.bits];omega
  have hd:decide (n<0)=true:=decide_eq_true hn0
  rw [hd] at pM ⊢
  have ft:=And.intro e1 (And.intro e2 (And.intro e3 (eq_true hn0)))
  exact Wk
 ·have e1:IntKind.u64.wrap n=(n.natAbs:Int):=by simp [IntKind.wrap,IntKind.signed,IntKind.bits];omega
  have hd:decide (n<0)=false:=decide_eq_false hn0
  rw [hd] at pM ⊢
  have ft:=And.intro e1 (eq_false hn0)
  exact Wk
theorem p_nBothOk {k m:Nat} {x y:Nu} {f:FuncId} {v:Dyadic} (hx:Wl k x) (hy:Wl k y) (rx:rightB x=true) (ry:rightB y=true) (hf:PC Tryz.prog f [NU x,NU y] fun d=>∃ z,d=NU z∧Sz m z∧z.val=v) (hm:m≤1073741824) :
 PC Tryz.prog 78 [NU x,NU y,.fn f [] []] fun d=>d=NE (numR v):=by
 have pX:=p_nRight hx.b
 have pY:=p_nRight hy.b
 rw [rx] at pX
 rw [ry] at pY
 obtain ⟨neg,exp,w⟩:=x
 obtain ⟨neg',exp',w'⟩:=y
 refine PB (rs:=[.cell 6 41,.tmp 7]) Tryz.func78 ?_
 repeat (first|(with_reducible first|refine pv_seq fun K hK=>?_|((first|refine hK _ _ ?_|(clear hK;refine hK _ _ ?_)|(clear hK;clear hK;refine hK _ _ ?_));clear hK;try clear K))| refine W ?_|exact Z|with_reducible intro b)
 refine call_pc hf ?_
 rintro d ⟨z,rfl,hz,rfl⟩
 repeat (first|(with_reducible first|refine pv_seq fun K hK=>?_|((first|refine hK _ _ ?_|(clear hK;refine hK _ _ ?_)|(clear hK;clear hK;refine hK _ _ ?_));clear hK;try clear K))| refine W0 ?_|exact Z|with_reducible intro b)
 refine call_is (p_nMade hz hm) ?_
 exact Wk
theorem p_nBothNo {k:Nat} {x y:Nu} {f:FuncId} (hx:Wl k x) (hy:Wl k y) (h:(rightB x && rightB y)=false):PC Tryz.prog 78 [NU x,NU y,.fn f [] []] fun d=>d=NE (nu0,1):=by
 have pX:=p_nRight hx.b
 have pY:=p_nRight hy.b
 generalize rightB x=r at *
 generalize rightB y=s at *
 obtain ⟨neg,exp,w⟩:=x
 obtain ⟨neg',exp',w'⟩:=y
 refine PB (rs:=[.cell 6 41,.tmp 7]) Tryz.func78 ?_
 repeat (first|(with_reducible first|refine pv_seq fun K hK=>?_|((first|refine hK _ _ ?_|(clear hK;refine hK _ _ ?_)|(clear hK;clear hK;refine hK _ _ ?_));clear hK;try clear K))| refine W0 ?_|exact Z|with_reducible intro b)
 refine call_is pX ?_
 cases r
 ·exact Wk
 ·obtain rfl:s=false:=h
  exact Wk
theorem p_nMul {k:Nat} {x y:Nu} (hx:Wl k x) (hy:Wl k y) (hk:k≤67108864):PC Tryz.prog 33 [NU x,NU y] fun d=>d=NE (opR x y (x.val * y.val)):=by
 have pB:PC Tryz.prog 78 [NU x,NU y,.fn 77 [] []] fun d=>d=NE (opR x y (x.val * y.val)):=by
  unfold opR
  by_cases h:(rightB x && rightB y)=true
  ·rw [if_pos h]
   rw [Bool.and_eq_true] at h
   exact p_nBothOk hx hy h.1 h.2 (p_eMul (right_sz hx.b h.1) (right_sz hy.b h.2) (by decide)) (by decide)
  ·rw [if_neg h]
   exact p_nBothNo hx hy (by simpa using h)
 obtain ⟨neg,exp,w⟩:=x
 obtain ⟨neg',exp',w'⟩:=y
 refine PB (rs:=[.cell 4 41,.tmp 5]) Tryz.func33 ?_
 exact Wk
end Go.V
