/- Monomials over values as data: which lists of them are polynomials. Which lists of monomials are polynomials: package poly's, the document's. The document's series over values as data: coefficients of products. Package series over values as data: products of series, monomials of series; the document's products. Package series over values as data: coefficients of polynomials of series. Plain laws of intervals of small numbers: sums, products, what they hold, parts of them; coefficients and sums of series. Series at a point over values as data: package series, the document. Intervals that are points, exactly; the statements' own known series. The seat's deck: boxes of small intervals, points in boxes, boxes in boxes; is a value within an interval? Terms gathered by their powers, plainly: the greater powers first, one term for each. The document's gathering of terms over values as data. -/
import Derived.Test.YtgapammfekmihaaGreatDoorZcI0
set_option linter.unusedSimpArgs false
set_option linter.unusedVariables false
set_option maxRecDepth 100000
namespace Go.V
open Go Go.RowKit Go.Proofs
def qT3_48_4:List (Nat × Nat):=[(0,0),(1,0),(2,0),(3,1),(4,0),(5,0),(6,0),(7,1),(8,0)]
def qT3_48_6:List (Nat × Nat):=[(0,0),(1,0),(2,0),(3,1),(4,0),(5,0),(6,0),(7,1),(8,0)]
attribute [go_sem] qT3_48_4 qT3_48_6
def eZ (x:Int):List G:=[.lit (.int .i64 x)]
def eM (m:Mo):List G:=[.lit (.bool m.c.neg),.lit (.int .i64 m.c.exp),eS (eK .u64) m.c.w,eS eZ m.e]
def ZI (l:List Int):D:=.g (eS eZ l)
def MO (m:Mo):D:=.agg [bl m.c.neg,i64 m.c.exp,W64 m.c.w,.g (eS eZ m.e)]
def MM (l:List Mo):D:=.g (eS eM l)
theorem eZ_0 {x:Int}:eZ x=[.lit (.int .i64 x)]:=rfl
theorem eM_0 {m:Mo}:eM m=[.lit (.bool m.c.neg),.lit (.int .i64 m.c.exp),eS (eK .u64) m.c.w,eS eZ m.e]:=rfl
attribute [go_sem] eZ_0 eM_0 MO
theorem gM_at {l:List Mo} {i:Nat} (h:i<l.length):l[i]? = some (gM l i):=by simp [gM,List.getD,List.getElem?_eq_getElem h]
theorem gM_mem {l:List Mo} {i:Nat} (h:i<l.length):gM l i ∈ l:=List.mem_of_getElem? (gM_at h)
structure Wm (m:Mo):Prop where
 c:Wl 65536 m.c
 n:m.e.length≤100000
structure WfM (l:List Mo):Prop where
 n:l.length≤100000
 w:∀ m ∈ l,Wm m
theorem WfM.at_ {l:List Mo} (h:WfM l) {i:Nat} (hi:i<l.length):Wm (gM l i):=h.w _ (gM_mem hi)
theorem zget {l:List Int} {i:Nat} (h:i<l.length):l[i]? = some (l.getD i 0):=by simp [List.getD,List.getElem?_eq_getElem h]
theorem sum_take_le:∀ {l:List Int} (i:Nat),(∀ x ∈ l,0≤x)→(l.take i).sum≤l.sum
 | [],i,_=>by simp
 | x :: l,0,h=>by
   have h1:=sum_take_le (l:=l) 0 (fun y hy=>h y (List.mem_cons_of_mem _ hy))
   have h2:=h x List.mem_cons_self
   simp only [List.take_zero,List.sum_nil,List.sum_cons] at h1 ⊢;omega
 | x :: l,i + 1,h=>by
   have h1:=sum_take_le (l:=l) i (fun y hy=>h y (List.mem_cons_of_mem _ hy))
   simp only [List.take_succ_cons,List.sum_cons];omega
theorem sum_take_succ {l:List Int} {i:Nat} {x:Int} (h:l[i]? = some x):(l.take (i + 1)).sum=(l.take i).sum + x:=by
 rw [List.take_add_one,h,List.sum_append];simp
theorem cmpE_drop {a b:List Int} {i:Nat} {x y:Int} (ha:a[i]? = some x) (hb:b[i]? = some y):cmpE (a.drop i) (b.drop i)=if x<y then -1 else if y<x then 1 else cmpE (a.drop (i + 1)) (b.drop (i + 1)):=by
 obtain ⟨hi,rfl⟩:=List.getElem?_eq_some_iff.1 ha
 obtain ⟨hj,rfl⟩:=List.getElem?_eq_some_iff.1 hb
 rw [List.drop_eq_getElem_cons hi,List.drop_eq_getElem_cons hj];rfl
set_option maxHeartbeats 1000000 in
theorem p_sCompare {a b:List Int} (ha:a.length≤100000) (hb:b.length≤100000):PC Tryz.prog 90 [ZI a,ZI b] fun d=>d=i64 (cmpE a b):=by
 unfold ZI
 generalize hr:cmpE a b=r
 refine PB (rs:=[.tmp 4]) Tryz.func90 ?_
 repeat (first|(with_reducible first|refine pv_seq fun K hK=>?_|((first|refine hK _ _ ?_|(clear hK;refine hK _ _ ?_)|(clear hK;clear hK;refine hK _ _ ?_));clear hK;try clear K))| refine W0 ?_|exact Z|with_reducible intro b)
 refine pv_loop (fun e S=>∃ i:Nat,i≤a.length∧i≤b.length∧e 0=.g (eS eZ a)∧e 1=.g (eS eZ b)∧e 9=.g (eS eZ a)∧e 10=i64 a.length∧e 11=i64 i∧cmpE (a.drop i) (b.drop i)=r) (fun e _=>a.length - (intD (e 11)).toNat) ?_ ?_
 ·exact ⟨0,Nat.zero_le _,Nat.zero_le _,Zr,Zr,Zr,Zr,Zr,hr⟩
 ·rintro e S ⟨i,hi,hj,g0,g1,g9,g10,g11,hc⟩
  have ft:=And.intro g0 (And.intro g1 (And.intro g9 (And.intro g10 g11)))
  repeat (first|(with_reducible first|refine pv_seq fun K hK=>?_|((first|refine hK _ _ ?_|(clear hK;refine hK _ _ ?_)|(clear hK;clear hK;refine hK _ _ ?_));clear hK;try clear K))| refine W0 ?_|exact Z|with_reducible intro b)
  refine pv_cdD (fun ht=>?_) (fun ht=>?_)
  ·have hil:i<a.length:=by omega
   have q1:=zget hil
   by_cases hjl:i<b.length
   ·have k1:((b.length:Int)≤(i:Int))=False:=eq_false (by omega)
    have q2:=zget hjl
    rw [cmpE_drop q1 q2] at hc
    have pC:=p_cmpint (a:=a.getD i 0) (b:=b.getD i 0)
    unfold cmpI at pC
    generalize a.getD i 0=x at *
    generalize b.getD i 0=y at *
    by_cases h1:x<y
    ·rw [if_pos h1] at hc pC
     subst hc
     have ft:=And.intro g0 (And.intro g1 (And.intro g9 (And.intro g10 (And.intro g11 (And.intro q1 (And.intro q2 k1))))))
     exact Wk
    ·rw [if_neg h1] at hc pC
     by_cases h2:y<x
     ·rw [if_pos h2] at hc pC
      subst hc
      have ft:=And.intro g0 (And.intro g1 (And.intro g9 (And.intro g10 (And.intro q1 (And.intro g11 (And.intro q2 k1))))))
      exact Wk
     ·rw [if_neg h2] at hc pC
      have ft:=And.intro g0 (And.intro g1 (And.intro g9 (And.intro q1 (And.intro g10 (And.intro g11 (And.intro q2 k1))))))
      repeat (first|(with_reducible first|refine pv_seq fun K hK=>?_|((first|refine hK _ _ ?_|(clear hK;refine hK _ _ ?_)|(clear hK;clear hK;refine hK _ _ ?_));clear hK;try clear K))| refine W ?_|exact Z|with_reducible intro b)
      exact ⟨⟨i + 1,by omega,by omega,rfl,hc⟩,by simp only [intD];omega⟩
   ·have k1:((b.length:Int)≤(i:Int))=True:=eq_true (by omega)
    have h1:r=1:=by
     rw [← hc,List.drop_eq_getElem_cons hil,List.drop_eq_nil_of_le (show b.length≤i by omega)];rfl
    subst h1
    have ft:=And.intro g0 (And.intro g1 (And.intro g9 (And.intro g10 (And.intro g11 (And.intro k1 q1)))))
    exact Wk
  ·obtain rfl:i=a.length:=by omega
   rw [List.drop_length] at hc
   by_cases hlt:a.length<b.length
   ·have k1:((a.length:Int)<(b.length:Int))=True:=eq_true (by omega)
    have h1:r = -1:=by
     rw [← hc,List.drop_eq_getElem_cons hlt];rfl
    subst h1
    have ft:=And.intro g0 (And.intro g1 (And.intro g9 (And.intro g10 (And.intro g11 k1))))
    exact Wk
   ·have k1:((a.length:Int)<(b.length:Int))=False:=eq_false (by omega)
    have h1:r=0:=by
     rw [← hc,List.drop_eq_nil_of_le (show b.length≤a.length by omega)];rfl
    subst h1
    have ft:=And.intro g0 (And.intro g1 (And.intro g9 (And.intro g10 (And.intro k1 g11))))
    exact Wk
theorem p_ahead {a b:Mo} (ha:a.e.length≤100000) (hb:b.e.length≤100000):PC Tryz.prog 46 [MO a,MO b] fun d=>d=i64 (cmpE b.e a.e):=by
 have pC:=p_sCompare hb ha
 obtain ⟨⟨n1,e1,w1⟩,z1⟩:=a
 obtain ⟨⟨n2,e2,w2⟩,z2⟩:=b
 unfold ZI at pC
 simp only at pC ⊢
 generalize cmpE z2 z1=r at *
 refine PB (rs:=[.tmp 4]) Tryz.func46 ?_
 exact Wk
def ordE:List Int→List Int→Int
 | x :: a,y :: b=>if y<x then 1 else if x<y then -1 else ordE a b
 | _,_=>0
theorem ordE_drop {a b:List Int} {i:Nat} {x y:Int} (ha:a[i]? = some x) (hb:b[i]? = some y):ordE (a.drop i) (b.drop i)=if y<x then 1 else if x<y then -1 else ordE (a.drop (i + 1)) (b.drop (i + 1)):=by
 obtain ⟨hi,rfl⟩:=List.getElem?_eq_some_iff.1 ha
 obtain ⟨hj,rfl⟩:=List.getElem?_eq_some_iff.1 hb
 rw [List.drop_eq_getElem_cons hi,List.drop_eq_getElem_cons hj];rfl
theorem ordE_nil {a b:List Int} {i:Nat} (h:a.length≤i∨b.length≤i):ordE (a.drop i) (b.drop i)=0:=by
 rcases h with h|h
 ·rw [List.drop_eq_nil_of_le h];rfl
 ·rw [List.drop_eq_nil_of_le h];cases a.drop i<;>rfl
theorem ordE_cmpE:∀ {a b:List Int},a.length=b.length→ordE a b = - cmpE b a
 | [],[],_=>rfl
 | x :: a,y :: b,h=>by
   have ih:=ordE_cmpE (a:=a) (b:=b) (by simpa using h)
   unfold ordE cmpE
   rw [ih]
   by_cases h1:y<x
   ·rw [if_pos h1,if_pos h1];rfl
   ·rw [if_neg h1,if_neg h1]
    by_cases h2:x<y
    ·rw [if_pos h2,if_pos h2]
    ·rw [if_neg h2,if_neg h2]
theorem cmpE_cases:∀ (a b:List Int),cmpE a b = -1∨cmpE a b=0∨cmpE a b=1
 | [],[]=>.inr (.inl rfl)
 | [],_ :: _=>.inl rfl
 | _ :: _,[]=>.inr (.inr rfl)
 | x :: a,y :: b=>by
   unfold cmpE
   split
   ·exact .inl rfl
   ·split
    ·exact .inr (.inr rfl)
    ·exact cmpE_cases a b
set_option maxHeartbeats 1000000 in
theorem p_rOrdE {a b:List Int} (ha:a.length≤100000) (hb:b.length≤100000):PC Tryz.prog 48 [ZI a,ZI b] fun d=>d=i64 (ordE a b):=by
 unfold ZI
 generalize hr:ordE a b=r
 have d1:=@dl 4 qT3_48_4
 have d2:=@dl 6 qT3_48_6
 refine PB (rs:=[.tmp 4]) Tryz.func48 ?_
 repeat (first|(with_reducible first|refine pv_seq fun K hK=>?_|((first|refine hK _ _ ?_|(clear hK;refine hK _ _ ?_)|(clear hK;clear hK;refine hK _ _ ?_));clear hK;try clear K))| refine W0 ?_|exact Z|with_reducible intro b)
 have J:∀ (e:DEnv) (S:Store),r=0→K e S:=by
  intro e S h
  subst h
  exact Wk
 clear hK
 refine pv_loop (fun e S=>∃ i:Nat,i≤a.length∧i≤b.length∧e 0=.g (eS eZ a)∧e 1=.g (eS eZ b)∧e 5=i64 i∧ordE (a.drop i) (b.drop i)=r) (fun e _=>a.length - (intD (e 5)).toNat) ?_ ?_
 ·exact ⟨0,Nat.zero_le _,Nat.zero_le _,Zr,Zr,Zr,hr⟩
 ·rintro e S ⟨i,hi,hj,g0,g1,g5,hc⟩
  by_cases hil:i<a.length
  ·have k1:((i:Int)<(a.length:Int))=True:=eq_true (by omega)
   by_cases hjl:i<b.length
   ·have k2:((i:Int)<(b.length:Int))=True:=eq_true (by omega)
    have q1:=zget hil
    have q2:=zget hjl
    rw [ordE_drop q1 q2] at hc
    generalize a.getD i 0=x at *
    generalize b.getD i 0=y at *
    by_cases h1:y<x
    ·rw [if_pos h1] at hc
     have h1':=eq_true h1
     subst hc
     have ft:=And.intro g0 (And.intro g1 (And.intro g5 (And.intro q1 (And.intro q2 (And.intro k1 (And.intro k2 h1'))))))
     exact Wk
    ·rw [if_neg h1] at hc
     have h1':=eq_false h1
     by_cases h2:x<y
     ·rw [if_pos h2] at hc
      have h2':=eq_true h2
      subst hc
      have ft:=And.intro g0 (And.intro g1 (And.intro g5 (And.intro q1 (And.intro q2 (And.intro k1 (And.intro k2 (And.intro h1' h2')))))))
      exact Wk
     ·rw [if_neg h2] at hc
      have h2':=eq_false h2
      have ft:=And.intro g0 (And.intro g1 (And.intro q1 (And.intro g5 (And.intro q2 (And.intro k1 (And.intro k2 (And.intro h1' h2')))))))
      repeat (first|(with_reducible first|refine pv_seq fun K hK=>?_|((first|refine hK _ _ ?_|(clear hK;refine hK _ _ ?_)|(clear hK;clear hK;refine hK _ _ ?_));clear hK;try clear K))| refine W0 ?_|exact Z|with_reducible intro b)
      exact ⟨⟨i + 1,by omega,by omega,rfl,hc⟩,by simp only [intD];omega⟩
   ·have k2:((i:Int)<(b.length:Int))=False:=eq_false (by omega)
    rw [ordE_nil (.inr (by omega))] at hc
    have ft:=And.intro g0 (And.intro g1 (And.intro g5 (And.intro k1 k2)))
    repeat (first|(with_reducible first|refine pv_seq fun K hK=>?_|((first|refine hK _ _ ?_|(clear hK;refine hK _ _ ?_)|(clear hK;clear hK;refine hK _ _ ?_));clear hK;try clear K))| refine W0 ?_|exact Z|with_reducible intro b)
    exact J _ _ hc.symm
  ·have k1:((i:Int)<(a.length:Int))=False:=eq_false (by omega)
   rw [ordE_nil (.inl (by omega))] at hc
   have ft:=And.intro g0 (And.intro g1 (And.intro g5 k1))
   repeat (first|(with_reducible first|refine pv_seq fun K hK=>?_|((first|refine hK _ _ ?_|(clear hK;refine hK _ _ ?_)|(clear hK;clear hK;refine hK _ _ ?_));clear hK;try clear K))| refine W0 ?_|exact Z|with_reducible intro b)
   exact J _ _ hc.symm
theorem monoB_neg {m:Mo} {n:Int} {i:Nat} {x:Int} (h:m.e[i]? = some x) (hx:x<0):monoB m n=false:=by
 unfold monoB
 rw [decide_eq_false (p:=∀ x ∈ m.e,0≤x) (fun h2=>by have:=h2 x (List.mem_of_getElem? h);omega),Bool.and_false];rfl
theorem monoB_big {m:Mo} {n:Int} {i:Nat} (h:8<(m.e.take i).sum):monoB m n=false:=by
 unfold monoB
 by_cases h2:∀ x ∈ m.e,0≤x
 ·have:=sum_take_le (l:=m.e) i h2
  rw [decide_eq_false (p:=m.e.sum≤8) (by omega),Bool.and_false];rfl
 ·rw [decide_eq_false h2,Bool.and_false];rfl
theorem monoB_len {m:Mo} {n:Int} (h:¬ (m.e.length:Int)=n):monoB m n=false:=by
 unfold monoB;rw [decide_eq_false h];rfl
theorem monoB_is {m:Mo} {n:Int} (h1:(m.e.length:Int)=n) (h2:∀ i,i<m.e.length→0≤m.e.getD i 0) (h3:(m.e.take m.e.length).sum≤8):monoB m n=rightB m.c:=by
 unfold monoB
 have h2':∀ x ∈ m.e,0≤x:=fun x hx=>by
  obtain ⟨i,hi⟩:=List.mem_iff_getElem?.1 hx
  have hil:i<m.e.length:=(List.getElem?_eq_some_iff.1 hi).1
  have:=h2 i hil
  rw [zget hil] at hi
  injection hi with hi;omega
 rw [List.take_length] at h3
 rw [decide_eq_true h1,decide_eq_true h2',decide_eq_true h3];rfl
theorem z_step {l:List Int} {i:Nat} {x:Int} (hz:∀ j,j<i→0≤l.getD j 0) (h:l.getD i 0=x) (hx:0≤x):∀ j,j<i + 1→0≤l.getD j 0:=fun j hj=>by
 rcases Nat.lt_or_ge j i with h1|h1
 ·exact hz j h1
 ·obtain rfl:j=i:=by omega
  omega
set_option maxHeartbeats 1000000 in
theorem p_mono {m:Mo} {n:Int} (hm:Wm m):PC Tryz.prog 45 [MO m,i64 n] fun d=>d=bl (monoB m n):=by
 have pR:=p_nRight hm.c.b
 have hne:=fun (i:Nat) (x:Int)=>monoB_neg (m:=m) (n:=n) (i:=i) (x:=x)
 have hbg:=fun (i:Nat)=>monoB_big (m:=m) (n:=n) (i:=i)
 have hln:=monoB_len (m:=m) (n:=n)
 have his:=monoB_is (m:=m) (n:=n)
 have hn1:=hm.n
 clear hm
 generalize monoB m n=r at *
 obtain ⟨c,z⟩:=m
 simp only at *
 generalize rightB c=s at *
 obtain ⟨n1,e1,w1⟩:=c
 refine PB (rs:=[.tmp 4]) Tryz.func45 ?_
 repeat (first|(with_reducible first|refine pv_seq fun K hK=>?_|((first|refine hK _ _ ?_|(clear hK;refine hK _ _ ?_)|(clear hK;clear hK;refine hK _ _ ?_));clear hK;try clear K))| refine W0 ?_|exact Z|with_reducible intro b)
 refine pv_loop (fun e S=>Hid (∃ (i b2:Nat) (t:Int),i≤z.length∧e 1=i64 n∧e 2=.ptr (.l 2) b2 0 0 4∧e 5=i64 (8 - t)∧e 9=.g (eS eZ z)∧e 10=i64 z.length∧e 11=i64 i∧t=(z.take i).sum∧t≤8∧0≤t∧(∀ j,j<i→0≤z.getD j 0)∧S (.l 2)=some ⟨b2,4,0,[[bl n1,i64 e1,W64 w1,.g (eS eZ z)]]⟩)) (fun e _=>z.length - (intD (e 11)).toNat) ?_ ?_
 ·exact ⟨0,_,0,Nat.zero_le _,Zr,Zr,Zr,Zr,Zr,Zr,rfl,by omega,by omega,fun j hj=>by omega,Zr⟩
 ·rintro e S ⟨i,b2,t,hi,g1,g2,g5,g9,g10,g11,ht1,ht2,ht3,hz,s2⟩
  have ft:=And.intro g1 (And.intro g2 (And.intro g5 (And.intro g9 (And.intro g10 (And.intro g11 s2)))))
  repeat (first|(with_reducible first|refine pv_seq fun K hK=>?_|((first|refine hK _ _ ?_|(clear hK;refine hK _ _ ?_)|(clear hK;clear hK;refine hK _ _ ?_));clear hK;try clear K))| refine W0 ?_|exact Z|with_reducible intro b)
  refine pv_cdD (fun ht=>?_) (fun ht=>?_)
  ·have hil:i<z.length:=by omega
   have q1:=zget hil
   have hsum:=sum_take_succ q1
   have hst:=fun h=>z_step (l:=z) (i:=i) (x:=z.getD i 0) hz rfl h
   generalize z.getD i 0=x at *
   by_cases h1:x<0
   ·have h1':=eq_true h1
    have hr:=hne i x q1 h1
    subst hr
    have ft:=And.intro g1 (And.intro g2 (And.intro g5 (And.intro g9 (And.intro g10 (And.intro g11 (And.intro s2 (And.intro q1 h1')))))))
    exact Wk
   ·have h1':=eq_false h1
    by_cases h2:8 - t<x
    ·have h2':=eq_true h2
     have hr:=hbg (i + 1) (by omega)
     subst hr
     have ft:=And.intro g1 (And.intro g2 (And.intro g5 (And.intro g9 (And.intro g10 (And.intro g11 (And.intro s2 (And.intro q1 (And.intro h1' h2'))))))))
     exact Wk
    ·have h2':=eq_false h2
     have hsb:8 - t - x=8 - (t + x):=by omega
     have ft:=And.intro g1 (And.intro g2 (And.intro g5 (And.intro g9 (And.intro g10 (And.intro g11 (And.intro s2 (And.intro q1 (And.intro h1' (And.intro h2' hsb)))))))))
     repeat (first|(with_reducible first|refine pv_seq fun K hK=>?_|((first|refine hK _ _ ?_|(clear hK;refine hK _ _ ?_)|(clear hK;clear hK;refine hK _ _ ?_));clear hK;try clear K))| refine W0 ?_|exact Z|with_reducible intro b)
     exact ⟨⟨i + 1,b2,t + x,by omega,Zr,Zr,Zr,Zr,Zr,Zr,by omega,by omega,by omega,hst (by omega),Zr⟩,by simp only [intD];omega⟩
  ·obtain rfl:i=z.length:=by omega
   by_cases h1:(z.length:Int)=n
   ·have h1':=eq_true h1
    have hr:=his h1 hz (by omega)
    subst hr
    have ft:=And.intro g1 (And.intro g2 (And.intro g5 (And.intro g9 (And.intro g10 (And.intro g11 (And.intro s2 h1'))))))
    exact Wk
   ·have h1':=eq_false h1
    have hr:=hln h1
    subst hr
    have ft:=And.intro g1 (And.intro g2 (And.intro g5 (And.intro g9 (And.intro g10 (And.intro g11 (And.intro s2 h1'))))))
    exact Wk
set_option maxHeartbeats 1000000 in
theorem p_rMono {m:Mo} {n:Int} (hm:Wm m) (h4:n≤4):PC Tryz.prog 47 [MO m,i64 n] fun d=>d=bl (monoB m n):=by
 have pR:=p_rRight hm.c.b
 have hne:=fun (i:Nat) (x:Int)=>monoB_neg (m:=m) (n:=n) (i:=i) (x:=x)
 have hbg:=fun (i:Nat)=>monoB_big (m:=m) (n:=n) (i:=i)
 have hln:=monoB_len (m:=m) (n:=n)
 have his:=monoB_is (m:=m) (n:=n)
 have hn1:=hm.n
 clear hm
 generalize monoB m n=r at *
 obtain ⟨c,z⟩:=m
 simp only at *
 generalize rightB c=s at *
 obtain ⟨n1,e1,w1⟩:=c
 have hbx:∀ (i:Nat) (x:Int),z[i]? = some x→(∀ j,j<i→0≤z.getD j 0)→8<x→r=false:=by
  intro i x hx hz h8
  refine hbg (i + 1) ?_
  rw [sum_take_succ hx]
  have:0≤(z.take i).sum:=by
   have:∀ y ∈ z.take i,0≤y:=fun y hy=>by
    obtain ⟨j,hj⟩:=List.mem_iff_getElem?.1 hy
    rw [List.getElem?_take] at hj
    split at hj
    ·rename_i hji
     have hjl:j<z.length:=(List.getElem?_eq_some_iff.1 hj).1
     have:=hz j hji
     rw [zget hjl] at hj
     injection hj with hj;omega
    ·cases hj
   have h0:=sum_take_le (l:=z.take i) 0 this
   simpa using h0
  omega
 refine PB (rs:=[.tmp 4]) Tryz.func47 ?_
 repeat (first|(with_reducible first|refine pv_seq fun K hK=>?_|((first|refine hK _ _ ?_|(clear hK;refine hK _ _ ?_)|(clear hK;clear hK;refine hK _ _ ?_));clear hK;try clear K))| refine W0 ?_|exact Z|with_reducible intro b)
 have J:∀ (e:DEnv) (S:Store) (i b2:Nat) (t:Int),i≤z.length→(z.length≤i∨4≤i)→e 1=i64 n→e 2=.ptr (.l 2) b2 0 0 4→e 5=i64 t→t=(z.take i).sum→(∀ j,j<i→0≤z.getD j 0)→S (.l 2)=some ⟨b2,4,0,[[bl n1,i64 e1,W64 w1,.g (eS eZ z)]]⟩→K e S:=by
  intro e S i b2 t hi hi2 g1 g2 g5 ht hz s2
  by_cases h1:(z.length:Int)=n
  ·have h1':=eq_true h1
   obtain rfl:i=z.length:=by omega
   by_cases h2:t≤8
   ·have h2':=eq_true h2
    have hr:=his h1 hz (by omega)
    subst hr
    have ft:=And.intro g1 (And.intro g2 (And.intro g5 (And.intro s2 (And.intro h1' h2'))))
    exact Wk
   ·have h2':=eq_false h2
    have hr:=hbg z.length (by omega)
    subst hr
    have ft:=And.intro g1 (And.intro g2 (And.intro g5 (And.intro s2 (And.intro h1' h2'))))
    exact Wk
  ·have h1':=eq_false h1
   have hr:=hln h1
   subst hr
   have ft:=And.intro g1 (And.intro g2 (And.intro g5 (And.intro s2 h1')))
   exact Wk
 clear hK
 refine pv_loop (fun e S=>Hid (∃ (i b2:Nat) (t:Int),i≤z.length∧i≤4∧e 1=i64 n∧e 2=.ptr (.l 2) b2 0 0 4∧e 5=i64 t∧e 6=i64 i∧t=(z.take i).sum∧0≤t∧t≤8 * i∧(∀ j,j<i→0≤z.getD j 0)∧S (.l 2)=some ⟨b2,4,0,[[bl n1,i64 e1,W64 w1,.g (eS eZ z)]]⟩)) (fun e _=>z.length - (intD (e 6)).toNat) ?_ ?_
 ·exact ⟨0,_,0,Nat.zero_le _,by omega,Zr,Zr,Zr,Zr,rfl,by omega,by omega,fun j hj=>by omega,Zr⟩
 ·rintro e S ⟨i,b2,t,hi,hi4,g1,g2,g5,g6,ht1,ht2,ht3,hz,s2⟩
  by_cases hil:i<z.length
  ·have k1:((i:Int)<(z.length:Int))=True:=eq_true (by omega)
   by_cases hi5:i<4
   ·have k2:((i:Int)<4)=True:=eq_true (by omega)
    have q1:=zget hil
    have hsum:=sum_take_succ q1
    have hst:=fun h=>z_step (l:=z) (i:=i) (x:=z.getD i 0) hz rfl h
    generalize z.getD i 0=x at *
    by_cases h1:x<0
    ·have h1':=eq_true h1
     have hr:=hne i x q1 h1
     subst hr
     have ft:=And.intro g1 (And.intro g2 (And.intro g5 (And.intro g6 (And.intro s2 (And.intro q1 (And.intro h1' (And.intro k1 k2)))))))
     exact Wk
    ·have h1':=eq_false h1
     by_cases h2:8<x
     ·have h2':=eq_true h2
      have hr:=hbx i x q1 hz h2
      subst hr
      have ft:=And.intro g1 (And.intro g2 (And.intro g5 (And.intro g6 (And.intro s2 (And.intro q1 (And.intro h1' (And.intro h2' (And.intro k1 k2))))))))
      exact Wk
     ·have h2':=eq_false h2
      have ft:=And.intro g1 (And.intro g2 (And.intro g5 (And.intro g6 (And.intro s2 (And.intro q1 (And.intro h1' (And.intro h2' (And.intro k1 k2))))))))
      repeat (first|(with_reducible first|refine pv_seq fun K hK=>?_|((first|refine hK _ _ ?_|(clear hK;refine hK _ _ ?_)|(clear hK;clear hK;refine hK _ _ ?_));clear hK;try clear K))| refine W0 ?_|exact Z|with_reducible intro b)
      exact ⟨⟨i + 1,b2,t + x,by omega,by omega,Zr,Zr,Zr,Zr,by omega,by omega,by omega,hst (by omega),Zr⟩,by simp only [intD];omega⟩
   ·have k2:((i:Int)<4)=False:=eq_false (by omega)
    have ft:=And.intro g1 (And.intro g2 (And.intro g5 (And.intro g6 (And.intro s2 (And.intro k1 k2)))))
    repeat (first|(with_reducible first|refine pv_seq fun K hK=>?_|((first|refine hK _ _ ?_|(clear hK;refine hK _ _ ?_)|(clear hK;clear hK;refine hK _ _ ?_));clear hK;try clear K))| refine W0 ?_|exact Z|with_reducible intro b)
    exact J _ _ i b2 t hi (.inr (by omega)) Zr Zr Zr ht1 hz Zr
  ·have k1:((i:Int)<(z.length:Int))=False:=eq_false (by omega)
   have ft:=And.intro g1 (And.intro g2 (And.intro g5 (And.intro g6 (And.intro s2 k1))))
   repeat (first|(with_reducible first|refine pv_seq fun K hK=>?_|((first|refine hK _ _ ?_|(clear hK;refine hK _ _ ?_)|(clear hK;clear hK;refine hK _ _ ?_));clear hK;try clear K))| refine W0 ?_|exact Z|with_reducible intro b)
   exact J _ _ i b2 t hi (.inl (by omega)) Zr Zr Zr ht1 hz Zr
end Go.V
namespace Go.V
open Go Go.RowKit Go.Proofs
def qT4_13_4:List (Nat × Nat):=[(0,1),(1,0),(2,3),(3,0),(4,0),(5,0),(6,0),(7,1),(8,0),(9,0),(10,0),(11,0),(12,0),(13,0),(14,0),(15,0),(16,0),(17,0),(18,0),(19,1),(20,1),(21,3),(22,0),(23,0),(24,0)]
def qT4_14_6:List (Nat × Nat):=[(0,0),(1,0),(2,0),(3,1),(4,0),(5,3),(6,0),(7,0),(8,0),(9,0),(10,0),(11,0),(12,0),(13,1),(14,0),(15,0),(16,0),(17,0),(18,0),(19,0),(20,0),(21,0),(22,0),(23,0),(24,0),(25,0),(26,1),(27,0),(28,0),(29,0),(30,0),(31,1),(32,3),(33,0),(34,0),(35,0)]
attribute [go_sem] qT4_13_4 qT4_14_6
def atB (q:List Mo) (n:Int) (i:Nat):Prop:=monoB (gM q i) n=true∧(gM q i).c.w≠[]∧(0<i→cmpE (gM q i).e (gM q (i - 1)).e<0)
theorem monosB_no {q:List Mo} {n:Int} {i:Nat} (hi:i<q.length) (h:¬ atB q n i):monosB q n=false:=decide_eq_false fun h2=>h (h2 i hi)
theorem monosB_yes {q:List Mo} {n:Int} (h:∀ i,i<q.length→atB q n i):monosB q n=true:=decide_eq_true h
theorem polyB_no {q:List Mo} {n:Int} (h:monosB q n=false):polyB q n=false:=by unfold polyB;rw [h,Bool.and_false]
theorem polyB_yes {q:List Mo} {n:Int} (h:monosB q n=true):polyB q n=(decide (1≤n) && decide (n≤4) && decide (q.length≤24)):=by unfold polyB;rw [h,Bool.and_true]
theorem at_step {q:List Mo} {n:Int} {i:Nat} (hz:∀ j,j<i→atB q n j) (h:atB q n i):∀ j,j<i + 1→atB q n j:=fun j hj=>by
 rcases Nat.lt_or_ge j i with h1|h1
 ·exact hz j h1
 ·obtain rfl:j=i:=by omega
  exact h
set_option maxHeartbeats 2000000 in
theorem p_pRight {q:List Mo} {n:Int} (hq:WfM q):PC Tryz.prog 13 [MM q,i64 n] fun d=>d=bl (polyB q n):=by
 have hno:=fun (i:Nat) (h1:i<q.length) (h2:¬ atB q n i)=>polyB_no (monosB_no h1 h2)
 have hyes:=fun (h:∀ i,i<q.length→atB q n i)=>polyB_yes (monosB_yes h)
 have hn1:=hq.n
 generalize polyB q n=r at *
 unfold MM
 have d1:=@dl 4 qT4_13_4
 refine PB (rs:=[.tmp 4]) Tryz.func13 ?_
 repeat (first|(with_reducible first|refine pv_seq fun K hK=>?_|((first|refine hK _ _ ?_|(clear hK;refine hK _ _ ?_)|(clear hK;clear hK;refine hK _ _ ?_));clear hK;try clear K))| refine W0 ?_|exact Z|with_reducible intro b)
 refine pv_loop (fun e S=>∃ i:Nat,i≤q.length∧e 0=.g (eS eM q)∧e 1=i64 n∧e 7=.g (eS eM q)∧e 8=i64 q.length∧e 9=i64 i∧∀ j,j<i→atB q n j) (fun e _=>q.length - (intD (e 9)).toNat) ?_ ?_
 ·exact ⟨0,Nat.zero_le _,Zr,Zr,Zr,Zr,Zr,fun j hj=>by omega⟩
 ·rintro e S ⟨i,hi,g0,g1,g7,g8,g9,hz⟩
  have ft:=And.intro g0 (And.intro g1 (And.intro g7 (And.intro g8 g9)))
  repeat (first|(with_reducible first|refine pv_seq fun K hK=>?_|((first|refine hK _ _ ?_|(clear hK;refine hK _ _ ?_)|(clear hK;clear hK;refine hK _ _ ?_));clear hK;try clear K))| refine W0 ?_|exact Z|with_reducible intro b)
  refine pv_cdD (fun ht=>?_) (fun ht=>?_)
  ·have hil:i<q.length:=by omega
   have q1:=gM_at hil
   have pM:=p_mono (n:=n) (hq.at_ hil)
   have pA:=fun (h:0<i)=>p_ahead (a:=gM q (i - 1)) (b:=gM q i) (hq.at_ (by omega)).n (hq.at_ hil).n
   have q2:=fun (h:0<i)=>gM_at (l:=q) (i:=i - 1) (by omega)
   have kt:0<i→((i:Int) - 1).toNat=i - 1:=fun h=>by omega
   have hst:=at_step hz
   have hnx:=hno i hil
   unfold atB at hst hnx
   clear hno hyes hq
   generalize gM q i=x at *
   generalize gM q (i - 1)=y at *
   generalize monoB x n=t at *
   generalize hc:cmpE x.e y.e=c at *
   obtain ⟨⟨n1,e1,w1⟩,z1⟩:=x
   obtain ⟨⟨n2,e2,w2⟩,z2⟩:=y
   simp only at hst hnx
   cases t
   ·have hr:=hnx (fun h=>by cases h.1)
    subst hr
    have ft:=And.intro g0 (And.intro g1 (And.intro g7 (And.intro g8 (And.intro g9 q1))))
    exact Wk
   ·by_cases hw:w1=[]
    ·have hr:=hnx (fun h=>h.2.1 hw)
     subst hr
     subst hw
     have ft:=And.intro g0 (And.intro g1 (And.intro g7 (And.intro g8 (And.intro g9 q1))))
     exact Wk
    ·have kw:((w1.length:Int)=0)=False:=eq_false (fun h=>hw (List.eq_nil_of_length_eq_zero (by omega)))
     by_cases h0:0<i
     ·have k0:((0:Int)<(i:Int))=True:=eq_true (by omega)
      have pA:=pA h0
      have q2:=q2 h0
      have kt:=kt h0
      by_cases h1:0≤c
      ·have k1:=eq_true h1
       have hr:=hnx (fun h=>by have:=h.2.2 h0;omega)
       subst hr
       have ft:=And.intro g0 (And.intro g1 (And.intro g7 (And.intro g8 (And.intro g9 (And.intro q1 (And.intro q2 (And.intro kw (And.intro k0 (And.intro k1 kt)))))))))
       exact Wk
      ·have k1:=eq_false h1
       have ft:=And.intro g0 (And.intro g1 (And.intro g7 (And.intro g8 (And.intro g9 (And.intro q1 (And.intro q2 (And.intro kw (And.intro k0 (And.intro k1 kt)))))))))
       repeat (first|(with_reducible first|refine pv_seq fun K hK=>?_|((first|refine hK _ _ ?_|(clear hK;refine hK _ _ ?_)|(clear hK;clear hK;refine hK _ _ ?_));clear hK;try clear K))| refine W ?_|exact Z|with_reducible intro b)
       exact ⟨⟨i + 1,by omega,rfl,hst ⟨rfl,hw,fun _=>by omega⟩⟩,by simp only [intD];omega⟩
     ·have k0:((0:Int)<(i:Int))=False:=eq_false (by omega)
      have ft:=And.intro g0 (And.intro g1 (And.intro g7 (And.intro g8 (And.intro g9 (And.intro q1 (And.intro kw k0))))))
      repeat (first|(with_reducible first|refine pv_seq fun K hK=>?_|((first|refine hK _ _ ?_|(clear hK;refine hK _ _ ?_)|(clear hK;clear hK;refine hK _ _ ?_));clear hK;try clear K))| refine W ?_|exact Z|with_reducible intro b)
      exact ⟨⟨i + 1,by omega,rfl,hst ⟨rfl,hw,fun h=>absurd h h0⟩⟩,by simp only [intD];omega⟩
  ·obtain rfl:i=q.length:=by omega
   have hr:=hyes hz
   have k3:((q.length:Int)≤24)=(q.length≤24):=propext ⟨fun h=>by omega,fun h=>by omega⟩
   by_cases h1:1≤n
   ·have h1':=eq_true h1
    by_cases h2:n≤4
    ·have h2':=eq_true h2
     rw [decide_eq_true h1,decide_eq_true h2,Bool.and_self,Bool.true_and] at hr
     subst hr
     have ft:=And.intro g0 (And.intro g1 (And.intro g7 (And.intro g8 (And.intro g9 (And.intro h1' (And.intro h2' k3))))))
     exact Wk
    ·have h2':=eq_false h2
     rw [decide_eq_true h1,decide_eq_false h2,Bool.and_false,Bool.false_and] at hr
     subst hr
     have ft:=And.intro g0 (And.intro g1 (And.intro g7 (And.intro g8 (And.intro g9 (And.intro h1' h2')))))
     exact Wk
   ·have h1':=eq_false h1
    rw [decide_eq_false h1,Bool.false_and,Bool.false_and] at hr
    subst hr
    have ft:=And.intro g0 (And.intro g1 (And.intro g7 (And.intro g8 (And.intro g9 h1'))))
    exact Wk
set_option maxHeartbeats 2000000 in
theorem p_rPRight {q:List Mo} {n:Int} (hq:WfM q):PC Tryz.prog 14 [MM q,i64 n] fun d=>d=bl (polyB q n):=by
 by_cases hn:1≤n∧n≤4∧q.length≤24
 ·obtain ⟨h1,h2,h3⟩:=hn
  have hno:=fun (i:Nat) (h1:i<q.length) (h2:¬ atB q n i)=>polyB_no (monosB_no h1 h2)
  have hyes:=fun (h:∀ i,i<q.length→atB q n i)=>polyB_yes (monosB_yes h)
  rw [decide_eq_true h1,decide_eq_true h2,decide_eq_true h3] at hyes
  have k1:(n<1)=False:=eq_false (by omega)
  have k2:(4<n)=False:=eq_false (by omega)
  have k3:((24:Int)<(q.length:Int))=False:=eq_false (by omega)
  generalize polyB q n=r at *
  unfold MM
  have d1:=@dl 6 qT4_14_6
  refine PB (rs:=[.tmp 4]) Tryz.func14 ?_
  have ft:=And.intro k1 (And.intro k2 k3)
  repeat (first|(with_reducible first|refine pv_seq fun K hK=>?_|((first|refine hK _ _ ?_|(clear hK;refine hK _ _ ?_)|(clear hK;clear hK;refine hK _ _ ?_));clear hK;try clear K))| refine W0 ?_|exact Z|with_reducible intro b)
  have J:∀ (e:DEnv) (S:Store),r=true→K e S:=by
   intro e S h
   subst h
   exact Wk
  clear hK
  refine pv_loop (fun e S=>∃ i:Nat,i≤q.length∧e 0=.g (eS eM q)∧e 1=i64 n∧e 5=i64 i∧∀ j,j<i→atB q n j) (fun e _=>q.length - (intD (e 5)).toNat) ?_ ?_
  ·exact ⟨0,Nat.zero_le _,Zr,Zr,Zr,fun j hj=>by omega⟩
  ·rintro e S ⟨i,hi,g0,g1,g5,hz⟩
   have ft:=And.intro g0 (And.intro g1 g5)
   repeat (first|(with_reducible first|refine pv_seq fun K hK=>?_|((first|refine hK _ _ ?_|(clear hK;refine hK _ _ ?_)|(clear hK;clear hK;refine hK _ _ ?_));clear hK;try clear K))| refine W0 ?_|exact Z|with_reducible intro b)
   refine pv_cdD (fun ht=>?_) (fun ht=>?_)
   ·have hil:i<q.length:=by omega
    have q1:=gM_at hil
    have pM:=p_rMono (n:=n) (hq.at_ hil) h2
    have pA:=fun (h:0<i)=>p_rOrdE (a:=(gM q (i - 1)).e) (b:=(gM q i).e) (hq.at_ (by omega)).n (hq.at_ hil).n
    have hlen:0<i→monoB (gM q i) n=true→(gM q (i - 1)).e.length=(gM q i).e.length:=fun h0 hm=>by
     have h5:=(hz (i - 1) (by omega)).1
     unfold monoB at h5 hm
     simp only [Bool.and_eq_true,decide_eq_true_eq] at h5 hm
     omega
    have q2:=fun (h:0<i)=>gM_at (l:=q) (i:=i - 1) (by omega)
    have kt:0<i→((i:Int) - 1).toNat=i - 1:=fun h=>by omega
    have hst:=at_step hz
    have hnx:=hno i hil
    unfold atB at hst hnx
    unfold ZI at pA
    clear hno hyes hq
    generalize gM q i=x at *
    generalize gM q (i - 1)=y at *
    have hoc:=fun (h:0<i) (h2:monoB x n=true)=>ordE_cmpE (hlen h h2)
    have hcs:=cmpE_cases x.e y.e
    generalize monoB x n=t at *
    generalize cmpE x.e y.e=c at *
    generalize ordE y.e x.e=o at *
    obtain ⟨⟨n1,e1,w1⟩,z1⟩:=x
    obtain ⟨⟨n2,e2,w2⟩,z2⟩:=y
    simp only at hst hnx pA
    cases t
    ·have hr:=hnx (fun h=>by cases h.1)
     subst hr
     have ft:=And.intro g0 (And.intro g1 (And.intro g5 q1))
     exact Wk
    ·by_cases hw:w1=[]
     ·have hr:=hnx (fun h=>h.2.1 hw)
      subst hr
      subst hw
      have ft:=And.intro g0 (And.intro g1 (And.intro g5 q1))
      exact Wk
     ·have kw:((w1.length:Int)=0)=False:=eq_false (fun h=>hw (List.eq_nil_of_length_eq_zero (by omega)))
      by_cases h0:0<i
      ·have k0:((0:Int)<(i:Int))=True:=eq_true (by omega)
       have pA:=pA h0
       have q2:=q2 h0
       have kt:=kt h0
       have hoc:=hoc h0 rfl
       by_cases h9:o=1
       ·have k9:=eq_true h9
        have ft:=And.intro g0 (And.intro g1 (And.intro g5 (And.intro q1 (And.intro q2 (And.intro kw (And.intro k0 (And.intro k9 kt)))))))
        repeat (first|(with_reducible first|refine pv_seq fun K hK=>?_|((first|refine hK _ _ ?_|(clear hK;refine hK _ _ ?_)|(clear hK;clear hK;refine hK _ _ ?_));clear hK;try clear K))| refine W ?_|exact Z|with_reducible intro b)
        exact ⟨⟨i + 1,by omega,rfl,hst ⟨rfl,hw,fun _=>by omega⟩⟩,by simp only [intD];omega⟩
       ·have k9:=eq_false h9
        have hr:=hnx (fun h=>by have:=h.2.2 h0;omega)
        subst hr
        have ft:=And.intro g0 (And.intro g1 (And.intro g5 (And.intro q1 (And.intro q2 (And.intro kw (And.intro k0 (And.intro k9 kt)))))))
        exact Wk
      ·have k0:((0:Int)<(i:Int))=False:=eq_false (by omega)
       have ft:=And.intro g0 (And.intro g1 (And.intro g5 (And.intro q1 (And.intro kw k0))))
       repeat (first|(with_reducible first|refine pv_seq fun K hK=>?_|((first|refine hK _ _ ?_|(clear hK;refine hK _ _ ?_)|(clear hK;clear hK;refine hK _ _ ?_));clear hK;try clear K))| refine W ?_|exact Z|with_reducible intro b)
       exact ⟨⟨i + 1,by omega,rfl,hst ⟨rfl,hw,fun h=>absurd h h0⟩⟩,by simp only [intD];omega⟩
   ·obtain rfl:i=q.length:=by omega
    repeat (first|(with_reducible first|refine pv_seq fun K hK=>?_|((first|refine hK _ _ ?_|(clear hK;refine hK _ _ ?_)|(clear hK;clear hK;refine hK _ _ ?_));clear hK;try clear K))| refine W0 ?_|exact Z|with_reducible intro b)
    exact J _ _ (hyes hz)
 ·have hr:polyB q n=false:=by
   unfold polyB
   by_cases h1:1≤n
   ·by_cases h2:n≤4
    ·rw [decide_eq_false (p:=q.length≤24) (fun h3=>hn ⟨h1,h2,h3⟩),Bool.and_false];rfl
    ·rw [decide_eq_false h2,Bool.and_false];rfl
   ·rw [decide_eq_false h1];rfl
  rw [hr]
  unfold MM
  by_cases h1:n<1
  ·have k1:=eq_true h1
   have d1:=@dl 6 qT4_14_6
   refine PB (rs:=[.tmp 4]) Tryz.func14 ?_
   have ft:=k1
   exact Wk
  ·have k1:=eq_false h1
   by_cases h2:4<n
   ·have k2:=eq_true h2
    have d1:=@dl 6 qT4_14_6
    refine PB (rs:=[.tmp 4]) Tryz.func14 ?_
    have ft:=And.intro k1 k2
    exact Wk
   ·have k2:=eq_false h2
    have k3:((24:Int)<(q.length:Int))=True:=eq_true (by omega)
    have d1:=@dl 6 qT4_14_6
    refine PB (rs:=[.tmp 4]) Tryz.func14 ?_
    have ft:=And.intro k1 (And.intro k2 k3)
    exact Wk
end Go.V
namespace Go.V
open Go Go.RowKit Go.Proofs
end Go.V
namespace Go.V
open Go Go.RowKit Go.Proofs
theorem rS_iv {l:List Iv} {a:Iv}:rS eI l ++ [[bl a.lo.neg,i64 a.lo.exp,W64 a.lo.w,bl a.hi.neg,i64 a.hi.exp,W64 a.hi.w]]=rS eI (l ++ [a]):=by rw [← rS_app];rfl
def z6:List D:=[bl false,i64 0,.nil,bl false,i64 0,.nil]
end Go.V
namespace Go.V
open Go Go.RowKit Go.Proofs
theorem Recast.z6 {N:DEnv→Store→Prop} {e:DEnv} {S:Store} {k:Nm} {b:Nat} (hk:S k=some ⟨b,6,0,[V.z6]⟩) (h:N e (updS S k (some ⟨b,6,0,[cI iv0]⟩))):Recast N e S:=by
 refine Recast.join (Recast.cell (i:=0) (j:=2) (es:=V.z6) (d:=.nil) (d':=W64 []) hk rfl rfl (fun I H v hv=>nil_row hv) ?_)
 refine Recast.cell (i:=0) (j:=5) (es:=V.z6.set 2 (W64 [])) (d:=.nil) (d':=W64 []) updS_at rfl rfl (fun I H v hv=>nil_row hv) ?_
 rw [updS_updS];exact h
theorem le_sum:∀ {l:List Int},(∀ x ∈ l,0≤x)→∀ i,i<l.length→l.getD i 0≤l.sum
 | x :: l,h,0,_=>by
   have h1:=sum_take_le (l:=l) 0 (fun y hy=>h y (List.mem_cons_of_mem _ hy))
   simp only [List.take_zero,List.sum_nil] at h1
   show x≤x + l.sum
   omega
 | x :: l,h,i + 1,hi=>by
   have h1:=le_sum (l:=l) (fun y hy=>h y (List.mem_cons_of_mem _ hy)) i (by simpa using hi)
   have h2:=h x List.mem_cons_self
   show l.getD i 0≤x + l.sum
   omega
end Go.V
namespace Go.V
open Go Go.RowKit Go.Proofs
theorem Sm.lift {k q:Nat} {v:Dyadic} (h:Sm k q v) (d:Nat):Sm (k + d) (q + d) v:=by
 obtain ⟨z,rfl,hz⟩:=h
 refine ⟨z * 2 ^ d,(owp_shl z q d).symm,?_⟩
 rw [Int.natAbs_mul,Int.natAbs_pow,Nat.pow_add]
 exact Nat.mul_lt_mul_of_pos_right hz (Nat.two_pow_pos d)
def OkV (a:Iv):Prop:=∃ x y,a=ivD x y∧OkD x∧OkD y∧x≤y
theorem OkV.ok {a:Iv} (h:OkV a):Wi 65536 a∧rightI a=true:=by
 obtain ⟨x,y,rfl,ox,oy,h⟩:=h
 exact ⟨wi_D ox oy,by rw [rightI_D ox oy];exact decide_eq_true h⟩
def SmV (k q:Nat) (a:Iv):Prop:=∃ x y,a=ivD x y∧Sm k q x∧Sm k q y∧x≤y
theorem SmV.v {k q:Nat} {a:Iv} (h:SmV k q a) (hk:k≤4000) (hq:q≤4000):OkV a:=by
 obtain ⟨x,y,rfl,hx,hy,h⟩:=h
 exact ⟨x,y,rfl,(hx.bx).ok (by omega) (by omega),(hy.bx).ok (by omega) (by omega),h⟩
theorem SmV.mono {k q m:Nat} {a:Iv} (h:SmV k q a) (hm:k≤m):SmV m q a:=by
 obtain ⟨x,y,rfl,hx,hy,h⟩:=h
 exact ⟨x,y,rfl,hx.mono hm,hy.mono hm,h⟩
theorem SmV.lift {k q:Nat} {a:Iv} (h:SmV k q a) (d:Nat):SmV (k + d) (q + d) a:=by
 obtain ⟨x,y,rfl,hx,hy,h⟩:=h
 exact ⟨x,y,rfl,hx.lift d,hy.lift d,h⟩
theorem SmV.zero {k q:Nat}:SmV k q iv0:=⟨0,0,by unfold ivD;rw [nuOf_zero];rfl,Sm.zero,Sm.zero,by grind⟩
def hasV (a:Iv) (t:Dyadic):Prop:=a.lo.val≤t∧t≤a.hi.val
def inV (a b:Iv):Prop:=b.lo.val≤a.lo.val∧a.hi.val≤b.hi.val
theorem inV_refl {a:Iv}:inV a a:=⟨Dyadic.le_refl _,Dyadic.le_refl _⟩
def addV (p:Nat) (a b:Iv):Iv:=ivD (rd p false (a.lo.val + b.lo.val)) (rd p true (a.hi.val + b.hi.val))
def mulV (p:Nat) (a b:Iv):Iv:=ivD (rd p false (minP a.lo.val a.hi.val b.lo.val b.hi.val)) (rd p true (maxP a.lo.val a.hi.val b.lo.val b.hi.val))
theorem rd_le_rd {p:Nat} {l h:Dyadic} (hl:l≤h):rd p false l≤rd p true h:=Dyadic.le_trans (dn_le p l) (Dyadic.le_trans hl (le_up p h))
theorem minP_le_maxP {x y u v:Dyadic} (h:x≤y) (k:u≤v):minP x y u v≤maxP x y u v:=by
 have:=prod_in (x:=x) (y:=y) (u:=u) (v:=v) (a:=x) (b:=u) (by grind) h (by grind) k
 exact Dyadic.le_trans this.1 this.2
theorem addV_sm {p k q:Nat} {a b:Iv} (ha:SmV k q a) (hb:SmV k q b) (h8:8≤p) (h256:p≤256) (hk:k≤1500) (hq:q≤1500):addI p a b=(addV p a b,0)∧SmV (k + 2) q (addV p a b):=by
 obtain ⟨x,y,rfl,hx,hy,hxy⟩:=ha
 obtain ⟨u,v,rfl,hu,hv,huv⟩:=hb
 have ok:∀ {d:Dyadic},Sm k q d→OkD d:=fun h=>(h.bx).ok (by omega) (by omega)
 unfold addI addV
 rw [ivD_l,ivD_h,ivD_l,ivD_h]
 refine ⟨opI_ok (ok hx) (ok hy) (ok hu) (ok hv) hxy huv h8 h256 ((hx.add hu).rdOk (by omega) (by omega) h8 h256) ((hy.add hv).rdOk (by omega) (by omega) h8 h256),_,_,rfl,(hx.add hu).rd,(hy.add hv).rd,rd_le_rd (by grind)⟩
theorem mulV_sm {p k q m r:Nat} {a b:Iv} (ha:SmV k q a) (hb:SmV m r b) (h8:8≤p) (h256:p≤256) (hk:k + m≤1500) (hq:q + r≤1500):mulI p a b=(mulV p a b,0)∧SmV (k + m + 1) (q + r) (mulV p a b):=by
 obtain ⟨x,y,rfl,hx,hy,hxy⟩:=ha
 obtain ⟨u,v,rfl,hu,hv,huv⟩:=hb
 have ok:∀ {d:Dyadic},Sm k q d→OkD d:=fun h=>(h.bx).ok (by omega) (by omega)
 have ok2:∀ {d:Dyadic},Sm m r d→OkD d:=fun h=>(h.bx).ok (by omega) (by omega)
 unfold mulI mulV
 rw [ivD_l,ivD_h,ivD_l,ivD_h]
 have sl:=minP_sm hx hy hu hv
 have sh:=maxP_sm hx hy hu hv
 refine ⟨opI_ok (ok hx) (ok hy) (ok2 hu) (ok2 hv) hxy huv h8 h256 (sl.rdOk (by omega) (by omega) h8 h256) (sh.rdOk (by omega) (by omega) h8 h256),_,_,rfl,sl.rd,sh.rd,rd_le_rd (minP_le_maxP hxy huv)⟩
theorem addV_has {p:Nat} {a b:Iv} {t s:Dyadic} (ha:hasV a t) (hb:hasV b s):hasV (addV p a b) (t + s):=by
 unfold hasV addV at *
 rw [ivD_l,ivD_h]
 exact ⟨Dyadic.le_trans (dn_le p _) (by grind),Dyadic.le_trans (by grind) (le_up p _)⟩
theorem mulV_has {p:Nat} {a b:Iv} {t s:Dyadic} (ha:hasV a t) (hb:hasV b s):hasV (mulV p a b) (t * s):=by
 unfold hasV mulV at *
 rw [ivD_l,ivD_h]
 have:=prod_in ha.1 ha.2 hb.1 hb.2
 exact ⟨Dyadic.le_trans (dn_le p _) this.1,Dyadic.le_trans this.2 (le_up p _)⟩
theorem addV_in {p:Nat} {a b a' b':Iv} (hp:1≤p) (ha:inV a' a) (hb:inV b' b):inV (addV p a' b') (addV p a b):=by
 unfold inV addV at *
 rw [ivD_l,ivD_h,ivD_l,ivD_h]
 exact ⟨rd_mono hp (by grind),rd_mono hp (by grind)⟩
theorem SmV.le {k q:Nat} {a:Iv} (h:SmV k q a):a.lo.val≤a.hi.val:=by
 obtain ⟨x,y,rfl,_,_,h⟩:=h
 rw [ivD_l,ivD_h];exact h
theorem mulV_in {p:Nat} {a b a' b':Iv} (hp:1≤p) (ha:inV a' a) (hb:inV b' b) (oa:a'.lo.val≤a'.hi.val) (ob:b'.lo.val≤b'.hi.val):inV (mulV p a' b') (mulV p a b):=by
 unfold inV mulV at *
 rw [ivD_l,ivD_h,ivD_l,ivD_h]
 have:=minP_mono ha.1 oa ha.2 hb.1 ob hb.2
 exact ⟨rd_mono hp this.1,rd_mono hp this.2⟩
end Go.V
namespace Go.V
open Go Go.RowKit Go.Proofs
end Go.V
namespace Go.V
open Go Go.RowKit Go.Proofs
theorem Sm.ok2 {k q:Nat} {d:Dyadic} (h:Sm k q d) (hk:k≤4000) (hq:q≤4000):OkD d:=(h.bx).ok (by omega) (by omega)
def kO:Nu:=⟨false,0,[1]⟩
end Go.V
namespace Go.V
open Go Go.RowKit Go.Proofs
set_option maxHeartbeats 1000000 in
theorem p_dSmallBox {k:Nm} {S:Store} {Q:D→Store→Prop} {b i n:Nat} {w:List Nat} (hS:S k=some ⟨b,2,0,[[W64 w,i64 i]]⟩) (hb:B64 w) (hn:n≤1000) (hi:i + 3 * n≤900000000)
 (hQ:∀ (l:List Iv) (j:Nat),l.length=n→(∀ a ∈ l,SmV 14 6 a)→j≤i + 3 * n→Q (II l) (updS S k (some ⟨b,2,0,[[W64 w,i64 j]]⟩))) :
 PFC Tryz.prog 37 [.ptr k b 0 0 2,i64 n] S Q:=by
 refine PFB (rs:=[.tmp 4]) Tryz.func37 ?_
 repeat (first|(with_reducible first|refine pv_seq fun K hK=>?_|((first|refine hK _ _ ?_|(clear hK;refine hK _ _ ?_)|(clear hK;clear hK;refine hK _ _ ?_));clear hK;try clear K))| refine W0 ?_|exact Z|with_reducible intro b)
 have J:∀ (e:DEnv) (T:Store) (l:List Iv) (j:Nat),l.length=n→(∀ a ∈ l,SmV 14 6 a)→j≤i + 3 * n→RowD T (.l 16) 6 (e 5) (rS eI l)→Dk S k T (some ⟨b,2,0,[[W64 w,i64 j]]⟩)→K e T:=by
  intro e T l j hl hm hj hw hd
  repeat (first|(with_reducible first|refine pv_seq fun K hK=>?_|((first|refine hK _ _ ?_|(clear hK;refine hK _ _ ?_)|(clear hK;clear hK;refine hK _ _ ?_));clear hK;try clear K))| refine W0 ?_|exact Z|with_reducible intro b)
  exact hw.coeD fun T2 _ hT2=>by rw [(hd.of hT2).dn];exact hQ l j hl hm hj
 clear hK
 refine pv_loop (fun e T=>∃ (t j:Nat) (l:List Iv),t≤n∧l.length=t∧(∀ a ∈ l,SmV 14 6 a)∧j≤i + 3 * t∧e 0=.ptr (.up k) b 0 0 2∧e 1=i64 n∧e 6=i64 t∧RowD T (.l 16) 6 (e 5) (rS eI l)∧Dk S k T (some ⟨b,2,0,[[W64 w,i64 j]]⟩)) (fun e _=>n - (intD (e 6)).toNat) ?_ ?_
 ·exact ⟨0,i,[],Nat.zero_le _,rfl,fun a ha=>(by cases ha),by omega,Zr,Zr,Zr,.inl ⟨Zr,rfl⟩,Dk.up hS⟩
 ·rintro e T ⟨t,j,l,htn,hl,hm,hj,g0,g1,g6,hw,hd⟩
  have ft:=And.intro g0 (And.intro g1 g6)
  repeat (first|(with_reducible first|refine pv_seq fun K hK=>?_|((first|refine hK _ _ ?_|(clear hK;refine hK _ _ ?_)|(clear hK;clear hK;refine hK _ _ ?_));clear hK;try clear K))| refine W0 ?_|exact Z|with_reducible intro b)
  refine pv_cdD (fun ht=>?_) (fun ht=>?_)
  ·repeat (first|(with_reducible first|refine pv_seq fun K hK=>?_|((first|refine hK _ _ ?_|(clear hK;refine hK _ _ ?_)|(clear hK;clear hK;refine hK _ _ ?_));clear hK;try clear K))| refine W0 ?_|exact Z|with_reducible intro b)
   refine p_dSmallIv hd.at_ hb (by omega) fun x y j2 sx sy hxy hj2=>?_
   have hnew:=rS_iv (l:=l) (a:=ivD x y)
   have hsm:SmV 14 6 (ivD x y):=⟨x,y,rfl,sx,sy,hxy⟩
   generalize ivD x y=q at *
   obtain ⟨⟨n1,e1,w1⟩,⟨n2,e2,w2⟩⟩:=q
   repeat (first|(with_reducible first|refine pv_seq fun K hK=>?_|((first|refine hK _ _ ?_|(clear hK;refine hK _ _ ?_)|(clear hK;clear hK;refine hK _ _ ?_));clear hK;try clear K))| refine W0 ?_|exact Z|with_reducible intro b)
   refine RowD.appL (hw.up (updS_ne (by simp))) (by decide) rfl (by simp [D.one,W64]) ?_ ?_ fun d' S3 hr3 hS3=>?_
   ·rw [rS_len];simp;omega
   ·rw [rS_len];simp;omega
   repeat (first|(with_reducible first|refine pv_seq fun K hK=>?_|((first|refine hK _ _ ?_|(clear hK;refine hK _ _ ?_)|(clear hK;clear hK;refine hK _ _ ?_));clear hK;try clear K))| refine W0 ?_|exact Z|with_reducible intro b)
   refine ⟨⟨t + 1,j2,l ++ [⟨⟨n1,e1,w1⟩,⟨n2,e2,w2⟩⟩],by omega,by simp [hl],fun a ha=>?_,by omega,Zr,by rw [← hnew];exact hr3,(hd.set.l).of hS3⟩,by simp only [intD];omega⟩
   rcases List.mem_append.1 ha with h|h
   ·exact hm a h
   ·rw [List.mem_singleton.1 h];exact hsm
  ·obtain rfl:t=n:=by omega
   repeat (first|(with_reducible first|refine pv_seq fun K hK=>?_|((first|refine hK _ _ ?_|(clear hK;refine hK _ _ ?_)|(clear hK;clear hK;refine hK _ _ ?_));clear hK;try clear K))| refine W0 ?_|exact Z|with_reducible intro b)
   exact J _ _ l j hl hm hj hw hd
def UL (l:List Dyadic):D:=.g (eS eU (l.map nuOf))
def gD (l:List Dyadic) (i:Nat):Dyadic:=l.getD i 0
theorem rS_u {l:List Dyadic} {x:Dyadic}:rS eU (l.map nuOf) ++ [[bl (nuOf x).neg,i64 (nuOf x).exp,W64 (nuOf x).w]]=rS eU ((l ++ [x]).map nuOf):=by rw [List.map_append,← rS_app];rfl
theorem gI_app {l:List Iv} {a:Iv} {q:Nat} (hq:q<l.length):gI (l ++ [a]) q=gI l q:=by simp [gI,List.getD,List.getElem?_append_left hq]
theorem gI_last {l:List Iv} {a:Iv}:gI (l ++ [a]) l.length=a:=by simp [gI,List.getD]
theorem gD_app {l:List Dyadic} {a:Dyadic} {q:Nat} (hq:q<l.length):gD (l ++ [a]) q=gD l q:=by simp [gD,List.getD,List.getElem?_append_left hq]
theorem gD_last {l:List Dyadic} {a:Dyadic}:gD (l ++ [a]) l.length=a:=by simp [gD,List.getD]
def inS (a:Iv) (t:Dyadic):Prop:=∃ x y,a=ivD x y∧x≤y∧InS x y t∧OkD t
set_option maxHeartbeats 1000000 in
theorem p_dInBox {k:Nm} {S:Store} {Q:D→Store→Prop} {bd i:Nat} {w:List Nat} {l:List Iv} (hS:S k=some ⟨bd,2,0,[[W64 w,i64 i]]⟩) (hb:B64 w) (hl:l.length≤1000) (hi:i + l.length≤700000000) (hv:∀ a ∈ l,OkV a)
 (hQ:∀ (m:List Dyadic),m.length=l.length→(∀ q,q<l.length→inS (gI l q) (gD m q))→Q (UL m) (updS S k (some ⟨bd,2,0,[[W64 w,i64 ((i + l.length:Nat):Int)]]⟩))) :
 PFC Tryz.prog 39 [.ptr k bd 0 0 2,II l] S Q:=by
 unfold II
 refine PFB (rs:=[.tmp 4]) Tryz.func39 ?_
 repeat (first|(with_reducible first|refine pv_seq fun K hK=>?_|((first|refine hK _ _ ?_|(clear hK;refine hK _ _ ?_)|(clear hK;clear hK;refine hK _ _ ?_));clear hK;try clear K))| refine W0 ?_|exact Z|with_reducible intro b)
 have J:∀ (e:DEnv) (T:Store) (m:List Dyadic),m.length=l.length→(∀ q,q<l.length→inS (gI l q) (gD m q))→RowD T (.l 21) 3 (e 5) (rS eU (m.map nuOf))→Dk S k T (some ⟨bd,2,0,[[W64 w,i64 ((i + l.length:Nat):Int)]]⟩)→K e T:=by
  intro e T m hm hin hw hd
  repeat (first|(with_reducible first|refine pv_seq fun K hK=>?_|((first|refine hK _ _ ?_|(clear hK;refine hK _ _ ?_)|(clear hK;clear hK;refine hK _ _ ?_));clear hK;try clear K))| refine W0 ?_|exact Z|with_reducible intro b)
  exact hw.coeD fun T2 _ hT2=>by rw [(hd.of hT2).dn];exact hQ m hm hin
 clear hK
 refine pv_loop (fun e T=>Hid (∃ (t:Nat) (m:List Dyadic),t≤l.length∧m.length=t∧(∀ q,q<t→inS (gI l q) (gD m q))∧e 0=.ptr (.up k) bd 0 0 2∧e 1=.g (eS eI l)∧e 6=i64 t∧RowD T (.l 21) 3 (e 5) (rS eU (m.map nuOf))∧Dk S k T (some ⟨bd,2,0,[[W64 w,i64 ((i + t:Nat):Int)]]⟩))) (fun e _=>l.length - (intD (e 6)).toNat) ?_ ?_
 ·exact ⟨0,[],Nat.zero_le _,rfl,fun q hq=>by omega,Zr,Zr,Zr,.inl ⟨Zr,rfl⟩,Dk.up hS⟩
 ·rintro e T ⟨t,m,htn,hm,hin,g0,g1,g6,hw,hd⟩
  have ft:=And.intro g0 (And.intro g1 g6)
  repeat (first|(with_reducible first|refine pv_seq fun K hK=>?_|((first|refine hK _ _ ?_|(clear hK;refine hK _ _ ?_)|(clear hK;clear hK;refine hK _ _ ?_));clear hK;try clear K))| refine W0 ?_|exact Z|with_reducible intro b)
  refine pv_cdD (fun ht=>?_) (fun ht=>?_)
  ·have htl:t<l.length:=by omega
   have q1:=gI_at htl
   obtain ⟨x,y,hxy,ox,oy,hle⟩:=hv _ (gI_mem htl)
   have hpt:∀ p:Dyadic,OkD p→InS x y p→inS (gI l t) p:=fun p op hp=>⟨x,y,hxy,hle,hp,op⟩
   rw [hxy] at q1
   have q1':l[t]? = some ⟨nuOf x,nuOf y⟩:=q1
   have ft:=And.intro g0 (And.intro g1 (And.intro g6 q1'))
   repeat (first|(with_reducible first|refine pv_seq fun K hK=>?_|((first|refine hK _ _ ?_|(clear hK;refine hK _ _ ?_)|(clear hK;clear hK;refine hK _ _ ?_));clear hK;try clear K))| refine W0 ?_|exact Z|with_reducible intro b)
   refine p_dIn (x:=x) (y:=y) hd.at_ hb (by omega) ox oy fun p op hp=>?_
   have v1:=hpt p op hp
   have hnew:=rS_u (l:=m) (x:=p)
   generalize nuOf p=q at *
   obtain ⟨n1,e1,w1⟩:=q
   repeat (first|(with_reducible first|refine pv_seq fun K hK=>?_|((first|refine hK _ _ ?_|(clear hK;refine hK _ _ ?_)|(clear hK;clear hK;refine hK _ _ ?_));clear hK;try clear K))| refine W0 ?_|exact Z|with_reducible intro b)
   refine RowD.appL (hw.up (updS_ne (by simp))) (by decide) rfl (by simp [D.one,W64]) ?_ ?_ fun d' S3 hr3 hS3=>?_
   ·rw [rS_len];simp;omega
   ·rw [rS_len];simp;omega
   repeat (first|(with_reducible first|refine pv_seq fun K hK=>?_|((first|refine hK _ _ ?_|(clear hK;refine hK _ _ ?_)|(clear hK;clear hK;refine hK _ _ ?_));clear hK;try clear K))| refine W0 ?_|exact Z|with_reducible intro b)
   have hd2:Dk S k S3 (some ⟨bd,2,0,[[W64 w,i64 ((i + (t + 1):Nat):Int)]]⟩):=by rw [show i + (t + 1)=i + t + 1 by omega];exact (hd.set.l).of hS3
   refine ⟨⟨t + 1,m ++ [p],by omega,by simp [hm],fun q hq=>?_,Zr,Zr,Zr,by rw [← hnew];exact hr3,hd2⟩,by simp only [intD];omega⟩
   rcases Nat.lt_or_ge q t with h|h
   ·rw [gD_app (by omega)];exact hin q h
   ·obtain rfl:q=t:=by omega
    rw [← hm,gD_last,hm];exact v1
  ·obtain rfl:t=l.length:=by omega
   repeat (first|(with_reducible first|refine pv_seq fun K hK=>?_|((first|refine hK _ _ ?_|(clear hK;refine hK _ _ ?_)|(clear hK;clear hK;refine hK _ _ ?_));clear hK;try clear K))| refine W0 ?_|exact Z|with_reducible intro b)
   exact J _ _ m hm hin hw hd
theorem part_in {x y t u:Dyadic} (ox:OkD x) (oy:OkD y) (hxy:x≤y) (ht:InS x y t) (hu:InS x y u):inV (ivD (loD t u) (hiD t u)) (ivD x y):=by
 have e1:loD t u=t∨loD t u=u:=by unfold loD;split<;>simp
 have e2:hiD t u=t∨hiD t u=u:=by unfold hiD;split<;>simp
 have h1:=ht.in hxy
 have h2:=hu.in hxy
 unfold inV
 rw [ivD_l,ivD_l,ivD_h,ivD_h]
 exact ⟨by rcases e1 with h|h<;>rw [h];exact h1.1;exact h2.1,by rcases e2 with h|h<;>rw [h];exact h1.2;exact h2.2⟩
set_option maxHeartbeats 1000000 in
theorem p_dPartBox {k:Nm} {S:Store} {Q:D→Store→Prop} {bd i:Nat} {w:List Nat} {l:List Iv} (hS:S k=some ⟨bd,2,0,[[W64 w,i64 i]]⟩) (hb:B64 w) (hl:l.length≤1000) (hi:i + 2 * l.length≤700000000) (hv:∀ a ∈ l,SmV 14 6 a)
 (hQ:∀ (m:List Iv),m.length=l.length→(∀ a ∈ m,SmV 18 9 a)→(∀ q,q<l.length→inV (gI m q) (gI l q))→Q (II m) (updS S k (some ⟨bd,2,0,[[W64 w,i64 ((i + 2 * l.length:Nat):Int)]]⟩))) :
 PFC Tryz.prog 40 [.ptr k bd 0 0 2,II l] S Q:=by
 unfold II
 refine PFB (rs:=[.tmp 4]) Tryz.func40 ?_
 repeat (first|(with_reducible first|refine pv_seq fun K hK=>?_|((first|refine hK _ _ ?_|(clear hK;refine hK _ _ ?_)|(clear hK;clear hK;refine hK _ _ ?_));clear hK;try clear K))| refine W0 ?_|exact Z|with_reducible intro b)
 have J:∀ (e:DEnv) (T:Store) (m:List Iv),m.length=l.length→(∀ a ∈ m,SmV 18 9 a)→(∀ q,q<l.length→inV (gI m q) (gI l q))→RowD T (.l 21) 6 (e 5) (rS eI m)→Dk S k T (some ⟨bd,2,0,[[W64 w,i64 ((i + 2 * l.length:Nat):Int)]]⟩)→K e T:=by
  intro e T m hm hs hin hw hd
  repeat (first|(with_reducible first|refine pv_seq fun K hK=>?_|((first|refine hK _ _ ?_|(clear hK;refine hK _ _ ?_)|(clear hK;clear hK;refine hK _ _ ?_));clear hK;try clear K))| refine W0 ?_|exact Z|with_reducible intro b)
  exact hw.coeD fun T2 _ hT2=>by rw [(hd.of hT2).dn];exact hQ m hm hs hin
 clear hK
 refine pv_loop (fun e T=>Hid (∃ (t:Nat) (m:List Iv),t≤l.length∧m.length=t∧(∀ x ∈ m,SmV 18 9 x)∧(∀ q,q<t→inV (gI m q) (gI l q))∧e 0=.ptr (.up k) bd 0 0 2∧e 1=.g (eS eI l)∧e 6=i64 t∧RowD T (.l 21) 6 (e 5) (rS eI m)∧Dk S k T (some ⟨bd,2,0,[[W64 w,i64 ((i + 2 * t:Nat):Int)]]⟩))) (fun e _=>l.length - (intD (e 6)).toNat) ?_ ?_
 ·exact ⟨0,[],Nat.zero_le _,rfl,fun a ha=>(by cases ha),fun q hq=>by omega,Zr,Zr,Zr,.inl ⟨Zr,rfl⟩,Dk.up hS⟩
 ·rintro e T ⟨t,m,htn,hm,hv2,hin,g0,g1,g6,hw,hd⟩
  have ft:=And.intro g0 (And.intro g1 g6)
  repeat (first|(with_reducible first|refine pv_seq fun K hK=>?_|((first|refine hK _ _ ?_|(clear hK;refine hK _ _ ?_)|(clear hK;clear hK;refine hK _ _ ?_));clear hK;try clear K))| refine W0 ?_|exact Z|with_reducible intro b)
  refine pv_cdD (fun ht=>?_) (fun ht=>?_)
  ·have htl:t<l.length:=by omega
   have q1:=gI_at htl
   obtain ⟨x,y,hxy,sx,sy,hle⟩:=hv _ (gI_mem htl)
   have ox:=sx.ok (by decide) (by decide)
   have oy:=sy.ok (by decide) (by decide)
   have hpt:∀ p u:Dyadic,InS x y p→InS x y u→SmV 18 9 (ivD (loD p u) (hiD p u))∧inV (ivD (loD p u) (hiD p u)) (gI l t):=fun p u hp hu=>by
    rw [hxy]
    exact ⟨⟨_,_,rfl,loD_sm (hp.sm sx sy) (hu.sm sx sy),hiD_sm (hp.sm sx sy) (hu.sm sx sy),lo_le_hi p u⟩,part_in ox oy hle hp hu⟩
   rw [hxy] at q1
   have q1':l[t]? = some ⟨nuOf x,nuOf y⟩:=q1
   have ft:=And.intro g0 (And.intro g1 (And.intro g6 q1'))
   repeat (first|(with_reducible first|refine pv_seq fun K hK=>?_|((first|refine hK _ _ ?_|(clear hK;refine hK _ _ ?_)|(clear hK;clear hK;refine hK _ _ ?_));clear hK;try clear K))| refine W0 ?_|exact Z|with_reducible intro b)
   refine p_dPart (x:=x) (y:=y) hd.at_ hb (by omega) ox oy fun p u op ou hp hu=>?_
   obtain ⟨v1,v2⟩:=hpt p u hp hu
   have hnew:=rS_iv (l:=m) (a:=ivD (loD p u) (hiD p u))
   generalize ivD (loD p u) (hiD p u)=q at *
   obtain ⟨⟨n1,e1,w1⟩,⟨n2,e2,w2⟩⟩:=q
   repeat (first|(with_reducible first|refine pv_seq fun K hK=>?_|((first|refine hK _ _ ?_|(clear hK;refine hK _ _ ?_)|(clear hK;clear hK;refine hK _ _ ?_));clear hK;try clear K))| refine W0 ?_|exact Z|with_reducible intro b)
   refine RowD.appL (hw.up (updS_ne (by simp))) (by decide) rfl (by simp [D.one,W64]) ?_ ?_ fun d' S3 hr3 hS3=>?_
   ·rw [rS_len];simp;omega
   ·rw [rS_len];simp;omega
   repeat (first|(with_reducible first|refine pv_seq fun K hK=>?_|((first|refine hK _ _ ?_|(clear hK;refine hK _ _ ?_)|(clear hK;clear hK;refine hK _ _ ?_));clear hK;try clear K))| refine W0 ?_|exact Z|with_reducible intro b)
   have hd2:Dk S k S3 (some ⟨bd,2,0,[[W64 w,i64 ((i + 2 * (t + 1):Nat):Int)]]⟩):=by rw [show i + 2 * (t + 1)=i + 2 * t + 2 by omega];exact (hd.set.l).of hS3
   refine ⟨⟨t + 1,m ++ [⟨⟨n1,e1,w1⟩,⟨n2,e2,w2⟩⟩],by omega,by simp [hm],fun a ha=>?_,fun q hq=>?_,Zr,Zr,Zr,by rw [← hnew];exact hr3,hd2⟩,by simp only [intD];omega⟩
   ·rcases List.mem_append.1 ha with h|h
    ·exact hv2 a h
    ·rw [List.mem_singleton.1 h];exact v1
   ·rcases Nat.lt_or_ge q t with h|h
    ·rw [gI_app (by omega)];exact hin q h
    ·obtain rfl:q=t:=by omega
     rw [← hm,gI_last,hm];exact v2
  ·obtain rfl:t=l.length:=by omega
   repeat (first|(with_reducible first|refine pv_seq fun K hK=>?_|((first|refine hK _ _ ?_|(clear hK;refine hK _ _ ?_)|(clear hK;clear hK;refine hK _ _ ?_));clear hK;try clear K))| refine W0 ?_|exact Z|with_reducible intro b)
   exact J _ _ m hm hv2 hin hw hd
end Go.V
namespace Go.V
open Go Go.RowKit Go.Proofs
structure Te where
 v:Dyadic
 e:List Int
def te0:Te:=⟨0,[]⟩
def gT (l:List Te) (i:Nat):Te:=l.getD i te0
theorem gT_at {l:List Te} {i:Nat} (h:i<l.length):l[i]? = some (gT l i):=by simp [gT,List.getD,List.getElem?_eq_getElem h]
theorem gT_mem {l:List Te} {i:Nat} (h:i<l.length):gT l i ∈ l:=List.mem_of_getElem? (gT_at h)
def posT:List Te→List Int→Nat
 | [],_=>0
 | x :: r,e=>if 0<ordE x.e e then posT r e + 1 else 0
def insT (out:List Te) (t:Te):List Te :=
 if posT out t.e<out.length∧ordE (gT out (posT out t.e)).e t.e=0 then out.set (posT out t.e) ⟨(gT out (posT out t.e)).v + t.v,(gT out (posT out t.e)).e⟩
 else out.take (posT out t.e) ++ t :: out.drop (posT out t.e)
theorem posT_le:∀ (out:List Te) (e:List Int),posT out e≤out.length
 | [],_=>Nat.le_refl _
 | x :: r,e=>by
   unfold posT
   split
   ·have:=posT_le r e;simp only [List.length_cons];omega
   ·exact Nat.zero_le _
theorem posT_all:∀ {out:List Te} {e:List Int} {j:Nat},j<posT out e→0<ordE (gT out j).e e
 | [],e,j,h=>by exact absurd h (Nat.not_lt_zero _)
 | x :: r,e,j,h=>by
   unfold posT at h
   split at h
   ·rename_i hp
    cases j with
    | zero=>exact hp
    | succ j=>exact posT_all (out:=r) (j:=j) (by omega)
   ·omega
theorem posT_max:∀ {out:List Te} {e:List Int},posT out e<out.length→¬ 0<ordE (gT out (posT out e)).e e
 | [],e,h=>by exact absurd h (Nat.not_lt_zero _)
 | x :: r,e,h=>by
   by_cases hp:0<ordE x.e e
   ·have hq:posT (x :: r) e=posT r e + 1:=by
     show (if 0<ordE x.e e then posT r e + 1 else 0)=_
     rw [if_pos hp]
    rw [hq] at h ⊢
    exact posT_max (out:=r) (by simpa using h)
   ·have hq:posT (x :: r) e=0:=by unfold posT;rw [if_neg hp]
    rw [hq];exact hp
theorem insT_nil (t:Te):insT [] t=[t]:=rfl
theorem insT_cons (x:Te) (r:List Te) (t:Te):insT (x :: r) t=if 0<ordE x.e t.e then x :: insT r t else if ordE x.e t.e=0 then ⟨x.v + t.v,x.e⟩ :: r else t :: x :: r:=by
 by_cases h:0<ordE x.e t.e
 ·have hp:posT (x :: r) t.e=posT r t.e + 1:=by
   show (if 0<ordE x.e t.e then posT r t.e + 1 else 0)=_
   rw [if_pos h]
  have hg:gT (x :: r) (posT r t.e + 1)=gT r (posT r t.e):=rfl
  rw [if_pos h]
  unfold insT
  rw [hp,hg]
  by_cases h2:posT r t.e<r.length∧ordE (gT r (posT r t.e)).e t.e=0
  ·rw [if_pos h2,if_pos ⟨by simpa using h2.1,h2.2⟩];rfl
  ·rw [if_neg h2,if_neg (fun h3=>h2 ⟨by simpa using h3.1,h3.2⟩)];rfl
 ·have hp:posT (x :: r) t.e=0:=by unfold posT;rw [if_neg h]
  rw [if_neg h]
  unfold insT
  rw [hp]
  by_cases h2:ordE x.e t.e=0
  ·rw [if_pos h2,if_pos ⟨by simp,h2⟩];rfl
  ·rw [if_neg h2,if_neg (fun h3=>h2 h3.2)];rfl
theorem insT_len (out:List Te) (t:Te):(insT out t).length≤out.length + 1:=by
 have:=posT_le out t.e
 unfold insT
 split
 ·simp
 ·simp;omega
def gathN (l:List Te):Nat→List Te
 | 0=>[]
 | i + 1=>insT (gathN l i) (gT l i)
theorem gathN_len (l:List Te):∀ i,(gathN l i).length≤i
 | 0=>Nat.le_refl _
 | i + 1=>by have:=gathN_len l i;have:=insT_len (gathN l i) (gT l i);show (insT _ _).length≤_;omega
def monoN (out:List Te):Nat→List Mo × Int
 | 0=>([],0)
 | i + 1=>if (monoN out i).2=0 then (if (gT out i).v=0 then monoN out i else if (numR (gT out i).v).2=0 then ((monoN out i).1 ++ [⟨(numR (gT out i).v).1,(gT out i).e⟩],0) else ([],2)) else monoN out i
theorem monoN_stuck {out:List Te} {i n:Nat} (h:(monoN out i).2≠0) (hn:i≤n):monoN out n=monoN out i:=by
 induction n with
 | zero=>obtain rfl:i=0:=by omega
         rfl
 | succ n ih =>
   by_cases hi:i=n + 1
   ·rw [hi]
   ·have e:=ih (by omega)
    show (if (monoN out n).2=0 then _ else monoN out n)=_
    rw [e,if_neg h]
theorem monoN_len (out:List Te):∀ i,(monoN out i).1.length≤i
 | 0=>Nat.le_refl _
 | i + 1=>by
   have:=monoN_len out i
   unfold monoN
   split
   ·split
    ·omega
    ·split
     ·simp only [List.length_append,List.length_singleton];omega
     ·exact Nat.zero_le _
   ·omega
def gathR (l:List Te):List Mo × Int :=
 if (monoN (gathN l l.length) (gathN l l.length).length).2=0 then (if (monoN (gathN l l.length) (gathN l l.length).length).1.length≤24 then monoN (gathN l l.length) (gathN l l.length).length else ([],6)) else monoN (gathN l l.length) (gathN l l.length).length
def teM (m:Mo):Te:=⟨m.c.val,m.e⟩
def allM (q:List Mo) (n:Int):Bool:=decide (∀ m ∈ q,monoB m n=true)
def pmkR (q:List Mo) (n:Int):List Mo × Int:=if decide (1≤n) && decide (n≤4) && allM q n then gathR (q.map teM) else ([],1)
theorem okD_sm {d:Dyadic} (h:OkD d):Sm 135168 65536 d:=by
 have h1:=h.lo
 have h2:=h.hi
 have h3:=h.len
 rw [nuOf_f] at h1 h2 h3
 simp only at h1 h2 h3
 obtain ⟨m,hm,h5⟩:=okD_fN h
 have e:=dy_f d
 obtain ⟨j,hj⟩:∃ j:Nat,fE d=j - 65536:=⟨(fE d + 65536).toNat,by omega⟩
 have hj2:j≤131072:=by omega
 have h6:=owp_shl (sg (fS d) (fN d)) (65536 - j) j
 rw [show ((65536:Int) - j + j)=((65536:Nat):Int) by omega] at h6
 refine ⟨sg (fS d) (fN d) * 2 ^ j,e.symm.trans ?_,?_⟩
 ·unfold dy
  rw [show -(fE d)=(65536:Int) - j by omega]
  exact h6.symm
 ·rw [Int.natAbs_mul,sg_abs,Int.natAbs_pow]
  calc fN d * (2:Int).natAbs ^ j<2 ^ m * 2 ^ j:=Nat.mul_lt_mul_of_pos_right h5 (Nat.two_pow_pos j)
   _=2 ^ (m + j):=(Nat.pow_add _ _ _).symm
   _≤2 ^ 135168:=Nat.pow_le_pow_right (by decide) (by omega)
theorem Sm.bd {k q:Nat} {d:Dyadic} (h:Sm k q d):Bd (k + q) d:=by
 have b:=h.bx
 exact ⟨Nat.lt_of_lt_of_le b.n (Nat.pow_le_pow_right (by decide) (by omega)),b.lo,b.hi⟩
theorem ordE_cases:∀ (a b:List Int),ordE a b = -1∨ordE a b=0∨ordE a b=1
 | [],_=>.inr (.inl (by unfold ordE;rfl))
 | _ :: _,[]=>.inr (.inl rfl)
 | x :: a,y :: b=>by
   unfold ordE
   split
   ·exact .inr (.inr rfl)
   ·split
    ·exact .inl rfl
    ·exact ordE_cases a b
theorem ordE_self:∀ a,ordE a a=0
 | []=>rfl
 | x :: a=>by unfold ordE;rw [if_neg (by omega),if_neg (by omega)];exact ordE_self a
theorem ordE_eq:∀ {a b:List Int},a.length=b.length→ordE a b=0→a=b
 | [],[],_,_=>rfl
 | x :: a,y :: b,h,h0=>by
   unfold ordE at h0
   split at h0
   ·cases h0
   ·split at h0
    ·cases h0
    ·rw [ordE_eq (by simpa using h) h0,show x=y by omega]
theorem ordE_neg:∀ {a b:List Int},ordE b a = - ordE a b
 | [],[]=>rfl
 | [],_ :: _=>rfl
 | _ :: _,[]=>rfl
 | x :: a,y :: b=>by
   have ih:=ordE_neg (a:=a) (b:=b)
   unfold ordE
   by_cases h1:y<x
   ·rw [if_neg (by omega),if_pos h1,if_pos h1]
   ·by_cases h2:x<y
    ·rw [if_pos h2,if_neg h1,if_pos h2];rfl
    ·rw [if_neg h2,if_neg h1,if_neg h1,if_neg h2];exact ih
theorem ordE_trans:∀ {a b c:List Int},a.length=b.length→b.length=c.length→0<ordE a b→0<ordE b c→0<ordE a c
 | [],[],[],_,_,h,_=>by exact absurd h (by decide)
 | x :: a,y :: b,z :: c,h1,h2,p,q=>by
   unfold ordE at *
   by_cases a1:y<x
   ·by_cases a2:z<y
    ·rw [if_pos (by omega)];decide
    ·rw [if_neg a2] at q
     by_cases a3:y<z
     ·rw [if_pos a3] at q;exact absurd q (by decide)
     ·rw [if_pos (by omega)];decide
   ·rw [if_neg a1] at p
    by_cases a2:x<y
    ·rw [if_pos a2] at p;exact absurd p (by decide)
    ·rw [if_neg a2] at p
     obtain rfl:x=y:=by omega
     by_cases a3:z<x
     ·rw [if_pos a3];decide
     ·rw [if_neg a3] at q ⊢
      by_cases a4:x<z
      ·rw [if_pos a4] at q;exact absurd q (by decide)
      ·rw [if_neg a4] at q ⊢
       exact ordE_trans (by simpa using h1) (by simpa using h2) p q
structure SortT (n:Nat) (out:List Te):Prop where
 len:∀ t ∈ out,t.e.length=n
 ord:out.Pairwise fun a b=>0<ordE a.e b.e
theorem insT_mem {t y:Te}:∀ {out:List Te},y ∈ insT out t→y=t∨∃ z ∈ out,y.e=z.e∧(y=z∨y.v=z.v + t.v∧z.e.length=t.e.length→True)
 | [],h=>by rw [insT_nil] at h;exact .inl (List.mem_singleton.1 h)
 | x :: r,h=>by
   rw [insT_cons] at h
   split at h
   ·rcases List.mem_cons.1 h with rfl|h
    ·exact .inr ⟨_,List.mem_cons_self,rfl,by simp⟩
    ·rcases insT_mem h with h|⟨z,hz,he,_⟩
     ·exact .inl h
     ·exact .inr ⟨z,List.mem_cons_of_mem _ hz,he,by simp⟩
   ·split at h
    ·rcases List.mem_cons.1 h with rfl|h
     ·exact .inr ⟨x,List.mem_cons_self,rfl,by simp⟩
     ·exact .inr ⟨y,List.mem_cons_of_mem _ h,rfl,by simp⟩
    ·rcases List.mem_cons.1 h with rfl|h
     ·exact .inl rfl
     ·exact .inr ⟨y,h,rfl,by simp⟩
theorem insT_e {t y:Te} {out:List Te} (h:y ∈ insT out t):y.e=t.e∨∃ z ∈ out,y.e=z.e:=by
 rcases insT_mem h with rfl|⟨z,hz,he,_⟩
 ·exact .inl rfl
 ·exact .inr ⟨z,hz,he⟩
theorem insT_sort {n:Nat} {t:Te} (ht:t.e.length=n):∀ {out:List Te},SortT n out→SortT n (insT out t)
 | [],_=>⟨fun y hy=>by rw [insT_nil] at hy;rw [List.mem_singleton.1 hy];exact ht,by rw [insT_nil];exact List.pairwise_singleton _ _⟩
 | x :: r,h=>by
   have hx:=h.len x List.mem_cons_self
   have hr:SortT n r:=⟨fun y hy=>h.len y (List.mem_cons_of_mem _ hy),(List.pairwise_cons.1 h.ord).2⟩
   have ih:=insT_sort ht hr
   have hxr:=(List.pairwise_cons.1 h.ord).1
   rw [insT_cons]
   split
   ·rename_i hp
    refine ⟨fun y hy=>?_,List.pairwise_cons.2 ⟨fun y hy=>?_,ih.ord⟩⟩
    ·rcases List.mem_cons.1 hy with rfl|hy
     ·exact hx
     ·exact ih.len y hy
    ·rcases insT_e hy with he|⟨z,hz,he⟩
     ·rw [he];exact hp
     ·rw [he];exact hxr z hz
   ·rename_i hp
    split
    ·refine ⟨fun y hy=>?_,List.pairwise_cons.2 ⟨fun y hy=>hxr y hy,hr.ord⟩⟩
     rcases List.mem_cons.1 hy with rfl|hy
     ·exact hx
     ·exact hr.len y hy
    ·rename_i h0
     have hneg:0<ordE t.e x.e:=by
      rw [ordE_neg]
      rcases ordE_cases x.e t.e with h1|h1|h1<;>omega
     refine ⟨fun y hy=>?_,List.pairwise_cons.2 ⟨fun y hy=>?_,h.ord⟩⟩
     ·rcases List.mem_cons.1 hy with rfl|hy
      ·exact ht
      ·exact h.len y hy
     ·rcases List.mem_cons.1 hy with rfl|hy
      ·exact hneg
      ·exact ordE_trans (by rw [ht,hx]) (by rw [hx,hr.len y hy]) hneg (hxr y hy)
theorem gathN_sort {n:Nat} {l:List Te} (h:∀ t ∈ l,t.e.length=n):∀ i,i≤l.length→SortT n (gathN l i)
 | 0=>fun _=>⟨fun t ht=>(by cases ht),List.Pairwise.nil⟩
 | i + 1=>fun hi=>insT_sort (h _ (gT_mem (by omega))) (gathN_sort h i (by omega))
theorem insT_all {P:List Int→Prop} {t:Te} (ht:P t.e) {out:List Te} (h:∀ y ∈ out,P y.e):∀ y ∈ insT out t,P y.e:=fun y hy=>by
 rcases insT_e hy with he|⟨z,hz,he⟩
 ·rw [he];exact ht
 ·rw [he];exact h z hz
theorem gathN_all {P:List Int→Prop} {l:List Te} (h:∀ t ∈ l,P t.e):∀ i,i≤l.length→∀ y ∈ gathN l i,P y.e
 | 0=>fun _ y hy=>by cases hy
 | i + 1=>fun hi=>insT_all (h _ (gT_mem (by omega))) (gathN_all h i (by omega))
theorem insT_sm {k q:Nat} {t:Te} (ht:Sm k q t.v):∀ {out:List Te},(∀ y ∈ out,Sm k q y.v)→∀ y ∈ insT out t,Sm (k + 1) q y.v
 | [],_=>fun y hy=>by rw [insT_nil] at hy;rw [List.mem_singleton.1 hy];exact ht.mono (by omega)
 | x :: r,h=>fun y hy=>by
   have hx:=h x List.mem_cons_self
   rw [insT_cons] at hy
   split at hy
   ·rcases List.mem_cons.1 hy with rfl|hy
    ·exact hx.mono (by omega)
    ·exact insT_sm ht (fun z hz=>h z (List.mem_cons_of_mem _ hz)) y hy
   ·split at hy
    ·rcases List.mem_cons.1 hy with rfl|hy
     ·exact hx.add ht
     ·exact (h y (List.mem_cons_of_mem _ hy)).mono (by omega)
    ·rcases List.mem_cons.1 hy with rfl|hy
     ·exact ht.mono (by omega)
     ·exact (h y hy).mono (by omega)
theorem gathN_sm {k q:Nat} {l:List Te} (h:∀ t ∈ l,Sm k q t.v):∀ i,i≤l.length→∀ y ∈ gathN l i,Sm (k + i) q y.v
 | 0=>fun _ y hy=>by cases hy
 | i + 1=>fun hi=>insT_sm (k:=k + i) ((h _ (gT_mem (by omega))).mono (Nat.le_add_right k i)) (gathN_sm h i (by omega))
def moT (t:Te):Mo:=⟨nuOf t.v,t.e⟩
theorem monoN_ok {out:List Te} (h:∀ y ∈ out,OkD y.v):∀ i,i≤out.length→monoN out i=(((out.take i).filter fun t=>decide (t.v≠0)).map moT,0)
 | 0=>fun _=>rfl
 | i + 1=>fun hi=>by
   have ih:=monoN_ok h i (by omega)
   have ho:=h _ (gT_mem (l:=out) (i:=i) (by omega))
   have ht:out.take (i + 1)=out.take i ++ [gT out i]:=by rw [List.take_add_one,gT_at (by omega)];rfl
   unfold monoN
   rw [ih,if_pos rfl,ht,List.filter_append,List.map_append]
   by_cases h0:(gT out i).v=0
   ·rw [if_pos h0]
    simp [h0]
   ·rw [if_neg h0,numR_ok ho,if_pos rfl]
    simp [h0,moT]
theorem monosB_of {q:List Mo} {n:Int} (h1:∀ m ∈ q,monoB m n=true∧m.c.w≠[]) (h2:q.Pairwise fun a b=>cmpE b.e a.e<0):monosB q n=true:=by
 refine monosB_yes fun i hi=>?_
 obtain ⟨a,b⟩:=h1 _ (gM_mem hi)
 refine ⟨a,b,fun h0=>?_⟩
 have:=List.pairwise_iff_getElem.1 h2 (i - 1) i (by omega) hi (by omega)
 have e1:=gM_at hi
 have e2:=gM_at (l:=q) (i:=i - 1) (by omega)
 rw [List.getElem?_eq_getElem hi] at e1
 rw [List.getElem?_eq_getElem (show i - 1<q.length by omega)] at e2
 injection e1 with e1
 injection e2 with e2
 rw [e1,e2] at this
 exact this
theorem nuOf_w {d:Dyadic} (h:d≠0):(nuOf d).w≠[]:=by
 rw [nuOf_f]
 exact fun h2=>h (fN_eq_zero.1 ((digs_eq_nil (by decide)).1 h2))
theorem gathR_ok {n:Nat} {l:List Te} (h1:1≤n) (h4:n≤4) (hl:l.length≤24) (he:∀ t ∈ l,t.e.length=n∧(∀ x ∈ t.e,0≤x)∧t.e.sum≤8) (ho:∀ y ∈ gathN l l.length,OkD y.v) :
 ∃ q,gathR l=(q,0)∧q=((gathN l l.length).filter fun t=>decide (t.v≠0)).map moT∧polyB q (n:Int)=true:=by
 unfold gathR
 have e:=monoN_ok ho (gathN l l.length).length (Nat.le_refl _)
 rw [List.take_length] at e
 have hs:=gathN_sort (n:=n) (fun t ht=>(he t ht).1) l.length (Nat.le_refl _)
 have ha:=gathN_all (P:=fun e=>(∀ x ∈ e,0≤x)∧e.sum≤8) (fun t ht=>(he t ht).2) l.length (Nat.le_refl _)
 have hln:=gathN_len l l.length
 generalize gathN l l.length=out at *
 have hq:(((out.filter fun t=>decide (t.v≠0)).map moT)).length≤24:=by
  rw [List.length_map]
  exact Nat.le_trans (List.length_filter_le _ _) (by omega)
 refine ⟨_,?_,rfl,?_⟩
 ·rw [e,if_pos rfl,if_pos hq]
 ·unfold polyB
  rw [decide_eq_true (show (1:Int)≤n by omega),decide_eq_true (show (n:Int)≤4 by omega),decide_eq_true hq]
  refine monosB_of (fun m hm=>?_) ?_
  ·obtain ⟨t,ht,rfl⟩:=List.mem_map.1 hm
   obtain ⟨ht,h0⟩:=List.mem_filter.1 ht
   have h0:t.v≠0:=of_decide_eq_true h0
   refine ⟨?_,nuOf_w h0⟩
   unfold monoB moT
   rw [decide_eq_true (show ((t.e.length:Nat):Int)=n by rw [hs.len t ht]),decide_eq_true (ha t ht).1,decide_eq_true (ha t ht).2,rightB_nuOf,decide_eq_true (ho t ht)];rfl
  ·refine List.Pairwise.map _ (fun a b h=>?_) (List.Pairwise.filter _ (hs.ord.imp_of_mem (S:=fun a b=>a.e.length=b.e.length∧0<ordE a.e b.e) fun ha hb h=>⟨by rw [hs.len _ ha,hs.len _ hb],h⟩))
   have:=ordE_cmpE h.1
   show cmpE b.e a.e<0
   omega
end Go.V
namespace Go.V
open Go Go.RowKit Go.Proofs
def qT15_62_6:List (Nat × Nat):=[(0,0),(1,0),(2,0),(3,0),(4,0),(5,0),(6,0),(7,0),(8,0),(9,1),(10,0),(11,0),(12,0),(13,0),(14,1),(15,3),(16,0),(17,0)]
def qT15_62_8:List (Nat × Nat):=[(0,0),(1,0),(2,0),(3,0),(4,0),(5,0),(6,0),(7,0),(8,0),(9,1),(10,0),(11,0),(12,0),(13,0),(14,1),(15,3),(16,0),(17,0)]
def qT15_62_9:List (Nat × Nat):=[(0,0),(1,0),(2,0),(3,0),(4,0),(5,0),(6,1),(7,0),(8,0),(9,0),(10,0),(11,1),(12,3),(13,0),(14,0),(15,3)]
def qT15_62_22:PT:=(.lin [(0,0),(3,0),(4,0),(5,0),(6,0),(7,2)] (.fork 1 4 (.lin [(2,4),(8,3),(9,0),(10,3),(11,3),(12,0)] .nil) 2 4 (.lin [] (.fork 1 4 (.lin [(8,3),(9,0),(10,3),(11,3),(12,0)] .nil) 8 3 (.lin [(1,4),(9,0),(10,3),(11,3),(12,0)] .nil)))))
attribute [go_sem] qT15_62_6 qT15_62_8 qT15_62_9 qT15_62_22
def RowP (P:Nm→Prop) (S:Store) (s:Nat) (d:D) (els:List (List D)):Prop:=(d=.nil∧els=[])∨∃ k b cap,P k∧d=.own k b 0 els.length cap s∧S k=some ⟨b,s,0,els⟩
theorem RowP.nil {P:Nm→Prop} {S:Store} {s:Nat}:RowP P S s .nil []:=.inl ⟨rfl,rfl⟩
theorem RowP.up {P:Nm→Prop} {S S':Store} {s:Nat} {d:D} {els:List (List D)} (h:RowP P S s d els) (hS:∀ k,P k→S' k=S k):RowP P S' s d els :=
 h.imp id fun ⟨k,b,cap,h0,h1,h2⟩=>⟨k,b,cap,h0,h1,(hS k h0).trans h2⟩
theorem RowP.app {P:Nm→Prop} {S:Store} {K:D→Store→Prop} {q:SlZ} {kd:Nm} {d src:D} {els new:List (List D)} (h:RowP P S q.s d els) (hp:P kd) (hs:∀ K,K new→srcD S q.s src K) (hl:els.length + new.length≤140737488355328)
 (hb:(els.length + new.length) * q.bytes≤140737488355328) (hk:∀ d' S',RowP P S' q.s d' (els ++ new)→(∀ j,¬ P j→S' j=S j)→S'.g=S.g→K d' S'):appD q S kd d src K:=by
 rcases h with ⟨rfl,rfl⟩|⟨k,b,cap,h0,rfl,hS⟩
 ·rw [appD_nil]
  refine hs _ ⟨by simpa using hl,by simpa using hb,fun h1=>?_,fun h1 b' cap'=>?_⟩
  ·subst h1;exact hk _ _ .nil (fun _ _=>rfl) rfl
  ·exact hk _ _ (.inr ⟨kd,b',cap',hp,rfl,updS_at⟩) (fun j hj=>updS_ne (fun e=>hj (by rw [e];exact hp))) rfl
 ·rw [appD_own,hS]
  refine ⟨rfl,rfl,rfl,rfl,rfl,hs _ ⟨hl,hb,fun b' cap'=>?_⟩⟩
  exact hk _ _ (.inr ⟨k,b',cap',h0,by simp,updS_at⟩) (fun j hj=>updS_ne (fun e=>hj (by rw [e];exact h0))) rfl
theorem RowP.move {P:Nm→Prop} {N:DEnv→Store→Prop} {e:DEnv} {S:Store} {s:Nat} {els:List (List D)} (i:Nat) (k':Nm) (hk:¬ P k') (h:RowP P S s (e i) els) (hN:∀ d S',RowZ S' k' s d els→(∀ j,¬ P j→j≠k'→S' j=S j)→S'.g=S.g→N (updD e i d) S'):Recast N e S:=by
 rcases h with ⟨h1,h2⟩|⟨k,b,cap,h0,h1,h2⟩
 ·subst h2
  refine Recast.slot i (d:=.nil) (fun I w v _ hv=>by rw [← h1];exact hv) ?_
  exact hN _ _ .nil (fun _ _ _=>rfl) rfl
 ·have hne:k≠k':=fun e=>hk (by rw [← e];exact h0)
  refine Recast.join (Recast.move k k' hne (Recast.slot i (d:=.own k' b 0 els.length cap s) (fun I w v _ hv=>own_name k' (by rw [← h1];exact hv)) ?_))
  refine hN _ _ (.inr ⟨b,cap,rfl,by rw [updS_at];exact h2⟩) (fun j hj hj2=>?_) rfl
  rw [updS_ne hj2,updS_ne (fun e=>hj (by rw [e];exact h0))]
theorem RowP.appL {P:Nm→Prop} {S:Store} {K:D→Store→Prop} {q:SlZ} {kd k2:Nm} {dd:D} {els new:List (List D)} {b n cap p:Nat} (h:RowP P S q.s dd els) (hk2:¬ P k2) (hp:P kd) (hn:n=new.length) (h1:∀ es ∈ new,es.all D.one=true) (hl:els.length + new.length≤140737488355328)
 (hb:(els.length + new.length) * q.bytes≤140737488355328) (hK:∀ d' S',RowP P S' q.s d' (els ++ new)→(∀ j,¬ P j→S' j=updS S k2 (some ⟨b,q.s,p,new⟩) j)→S'.g=S.g→K d' S') :
 appD q (updS S k2 (some ⟨b,q.s,p,new⟩)) kd dd (.own k2 b 0 n cap q.s) K:=by
 subst hn
 refine RowP.app (h.up fun k hk=>updS_ne fun e=>hk2 (by rw [← e];exact hk)) hp (fun K hK=>?_) hl hb hK
 rw [srcD_own,updS_at]
 exact ⟨rfl,rfl,rfl,by simp,h1,by simpa using hK⟩
theorem RowZ.frz {N:DEnv→Store→Prop} {e:DEnv} {S:Store} {k k3:Nm} {s:Nat} {d:D} {els:List (List D)} {es:List D} {b3 n3 cap3 s3 p3:Nat} {els3:List (List D)} {gs:List (List G)} (j:Nat) (h:RowZ S k s d (els ++ [es])) (hj:es[j]? = some (.own k3 b3 0 n3 cap3 s3)) (hne:k≠k3)
 (hk:S k3=some ⟨b3,s3,p3,els3⟩) (hg:pureLL ((els3.drop 0).take n3)=some gs) (hn:0 + n3≤els3.length) (hN:∀ S',RowZ S' k s d (els ++ [es.set j (.g (.sl gs))])→(∀ q,q≠k→q≠k3→S' q=S q)→S'.g=S.g→N e S'):Recast N e S:=by
 rcases h with ⟨_,h2⟩|⟨b,cap,h1,h2⟩
 ·simp at h2
 ·refine Recast.frzCell h2 els.length j (by simp) hj hne hk hg hn (hN _ (.inr ⟨b,cap,?_,?_⟩) (fun q h3 h4=>?_) rfl)
  ·rw [h1];simp
  ·rw [updS_at];simp
  ·rw [updS_ne h3,updS_ne h4]
def eT (t:Te):List G:=[.lit (.bool (fS t.v)),eS (eK .u32) (D32 (fN t.v)),.lit (.int .i64 (fE t.v)),eS eZ t.e]
def TT (l:List Te):D:=.g (eS eT l)
theorem eT_0 {t:Te}:eT t=[.lit (.bool (fS t.v)),eS (eK .u32) (D32 (fN t.v)),.lit (.int .i64 (fE t.v)),eS eZ t.e]:=rfl
attribute [go_sem] eT_0
def cT (t:Te):List D:=[bl (fS t.v),W32 (D32 (fN t.v)),i64 (fE t.v),.g (eS eZ t.e)]
theorem rT_at {out:List Te} {k:Nat} (h:k<out.length):(rS eT out)[k]? = some (cT (gT out k)):=by
 unfold rS gl
 rw [List.getElem?_map,List.getElem?_map,gT_at h];rfl
theorem rT_set {out:List Te} {k:Nat} {t:Te}:(rS eT out).set k (cT t)=rS eT (out.set k t):=by
 unfold rS gl
 rw [List.map_set,List.map_set];rfl
theorem rT_all {out:List Te}:∀ es ∈ rS eT out,es.all D.one=true:=by
 intro es h
 unfold rS gl at h
 obtain ⟨x,hx,rfl⟩:=List.mem_map.1 h
 obtain ⟨t,ht,rfl⟩:=List.mem_map.1 hx
 rfl
theorem rT_take {out:List Te} {k:Nat}:(rS eT out).take k=rS eT (out.take k):=by unfold rS gl;rw [List.map_take,List.map_take]
theorem rT_drop {out:List Te} {k:Nat}:(rS eT out).drop k=rS eT (out.drop k):=by unfold rS gl;rw [List.map_drop,List.map_drop]
def LM (s:List Mo × Int):D:=.tup [.g (eS eM s.1),i64 s.2]
def P3 (k:Nm):Prop:=k=.l 75∨k=.l 82∨k=.l 87
theorem P3_r:¬ P3 (.r 0 0):=by unfold P3;simp
theorem P3_81:¬ P3 (.l 81):=by unfold P3;simp
theorem srcD_ZI {S:Store} {xs:List Int} {K:List (List D)→Prop}:srcD S 1 (.g (eS eZ xs)) K=K (rS eZ xs):=srcD_eS fun _ _=>rfl
theorem slD_nilZ {s:Nat} {lo hi mx:Option D} {K:D→Prop}:slD s .nil lo hi mx K=bndD lo 0 fun l=>bndD hi 0 fun h=>l=0∧h=0∧(mx.isSome=true→mx=hi)∧K .nil:=rfl
theorem litsD_0 {S:Store} {q:SlZ} {k:Nm} {K:D→Store→Prop}:litsD q k S 0 [] [] K=∀ b,K (.own k b 0 0 0 q.s) (updS S k (some ⟨b,q.s,0,[]⟩)):=by
 simp [litsD]
attribute [go_sem ↓] srcD_ZI slD_nilZ litsD_0
theorem rS_m {l:List Mo} {m:Mo}:rS eM l ++ [[bl m.c.neg,i64 m.c.exp,W64 m.c.w,.g (eS eZ m.e)]]=rS eM (l ++ [m]):=by rw [← rS_app];rfl
set_option maxHeartbeats 8000000 in
theorem p_gather {l:List Te} {M Q:Nat} (hl:l.length≤10000) (hs:∀ t ∈ l,Sm M Q t.v) (he:∀ t ∈ l,t.e.length≤100000) (hk:M + Q + l.length≤60000000):PC Tryz.prog 62 [TT l] fun d=>d=LM (gathR l):=by
 generalize hr:gathR l=r
 have hsm:=gathN_sm hs
 have hel:=gathN_all (P:=fun e=>e.length≤100000) he
 have hln:=gathN_len l
 unfold TT
 have d1:=@dl 6 qT15_62_6
 have d2:=@dl 8 qT15_62_8
 have d3:=@dl 9 qT15_62_9
 have d4:=@dr 22 qT15_62_22
 refine PB (rs:=[.tmp 2,.tmp 3]) Tryz.func62 ?_
 repeat (first|(with_reducible first|refine pv_seq fun K hK=>?_|((first|refine hK _ _ ?_|(clear hK;refine hK _ _ ?_)|(clear hK;clear hK;refine hK _ _ ?_));clear hK;try clear K))| refine W0 ?_|exact Z|with_reducible intro b)
 have J:∀ (e:DEnv) (S:Store),RowZ S (.r 0 0) 4 (e 4) (rS eT (gathN l l.length))→K e S:=by
  as_aux_lemma =>
  intro e S hw
  have ho:=hsm l.length (Nat.le_refl _)
  have hoe:=hel l.length (Nat.le_refl _)
  have hon:=hln l.length
  unfold gathR at hr
  generalize gathN l l.length=out at *
  clear hsm hel hln hs he
  rcases hw with ⟨g4,h4⟩|⟨b4,cap,g4,s4⟩
  ·obtain rfl:out=[]:=by have:=congrArg List.length h4;rw [rS_len] at this;exact List.eq_nil_of_length_eq_zero this
   have hr2:r=([],0):=by rw [← hr];rfl
   subst hr2
   have ft:=g4
   repeat (first|(with_reducible first|refine pv_seq fun K hK=>?_|((first|refine hK _ _ ?_|(clear hK;refine hK _ _ ?_)|(clear hK;clear hK;refine hK _ _ ?_));clear hK;try clear K))| refine W0 ?_|exact Z|with_reducible intro b)
   refine pv_loop (fun e T=>Hid (e 4=.nil∧e 8=.nil∧e 9=i64 0)) (fun _ _=>0) ?_ ?_
   ·exact ⟨Zr,Zr,Zr⟩
   ·rintro e2 T ⟨g4,g8,g9⟩
    have ft:=And.intro g4 (And.intro g8 g9)
    exact Wk
  ·rw [rS_len] at g4
   have k4:∀ k:Nat,k<out.length→(rS eT out)[k]? = some (cT (gT out k)):=fun k=>rT_at
   have hml:=monoN_len out
   have ft:=g4
   repeat (first|(with_reducible first|refine pv_seq fun K hK=>?_|((first|refine hK _ _ ?_|(clear hK;refine hK _ _ ?_)|(clear hK;clear hK;refine hK _ _ ?_));clear hK;try clear K))| refine W0 ?_|exact Z|with_reducible intro b)
   have JF:∀ (e:DEnv) (S:Store),(monoN out out.length).2=0→RowZ S (.l 123) 4 (e 8) (rS eM (monoN out out.length).1)→K e S:=by
    intro e S h0 hw
    rw [if_pos h0] at hr
    have hl2:=hml out.length
    generalize monoN out out.length=mm at *
    obtain ⟨mm,em⟩:=mm
    simp only at h0
    subst h0
    simp only at hr hl2 hw
    by_cases h24:mm.length≤24
    ·rw [if_pos h24] at hr
     subst hr
     have k24:((24:Int)<(mm.length:Int))=False:=eq_false (by omega)
     have ft:=k24
     repeat (first|(with_reducible first|refine pv_seq fun K hK=>?_|((first|refine hK _ _ ?_|(clear hK;refine hK _ _ ?_)|(clear hK;clear hK;refine hK _ _ ?_));clear hK;try clear K))| refine W0 ?_|exact Z|with_reducible intro b)
     refine hw.toD.len ?_
     rw [rS_len]
     repeat (first|(with_reducible first|refine pv_seq fun K hK=>?_|((first|refine hK _ _ ?_|(clear hK;refine hK _ _ ?_)|(clear hK;clear hK;refine hK _ _ ?_));clear hK;try clear K))| refine W0 ?_|exact Z|with_reducible intro b)
     exact hw.toD.coeD fun S' _ _=>rfl
    ·rw [if_neg h24] at hr
     subst hr
     have k24:((24:Int)<(mm.length:Int))=True:=eq_true (by omega)
     have ft:=k24
     repeat (first|(with_reducible first|refine pv_seq fun K hK=>?_|((first|refine hK _ _ ?_|(clear hK;refine hK _ _ ?_)|(clear hK;clear hK;refine hK _ _ ?_));clear hK;try clear K))| refine W0 ?_|exact Z|with_reducible intro b)
     refine hw.toD.len ?_
     rw [rS_len]
     exact Wk
   clear hK
   obtain ⟨I,mk,el⟩:=hide fun e S=>∃ i:Nat,i≤out.length∧e 4=.own (.r 0 0) b4 0 out.length cap 4∧e 9=i64 i∧S (.r 0 0)=some ⟨b4,4,0,rS eT out⟩∧(monoN out i).2=0∧RowZ S (.l 123) 4 (e 8) (rS eM (monoN out i).1)
   refine pv_loop I (fun e _=>out.length - (intD (e 9)).toNat) ?_ ?_
   ·exact mk _ _ ⟨0,Nat.zero_le _,Zr,Zr,s4,rfl,.inl ⟨Zr,rfl⟩⟩
   ·intro e S hI
    obtain ⟨i,hi,g4,g9,s4,hm2,hw⟩:=el e S hI
    clear el hI
    have ft:=And.intro g4 g9
    repeat (first|(with_reducible first|refine pv_seq fun K hK=>?_|((first|refine hK _ _ ?_|(clear hK;refine hK _ _ ?_)|(clear hK;clear hK;refine hK _ _ ?_));clear hK;try clear K))| refine W0 ?_|exact Z|with_reducible intro b)
    refine pv_cdD (fun ht=>?_) (fun ht=>?_)
    ·have hil:i<out.length:=by omega
     have q1:=k4 i hil
     have wv:=ho _ (gT_mem hil)
     have we:=hoe _ (gT_mem hil)
     have hst:(monoN out (i + 1)).2≠0→r=monoN out (i + 1):=fun h=>by
      have e1:=monoN_stuck (n:=out.length) h (by omega)
      rw [e1,if_neg h] at hr
      exact hr.symm
     have hsu:monoN out (i + 1)=if (gT out i).v=0 then monoN out i else if (numR (gT out i).v).2=0 then ((monoN out i).1 ++ [⟨(numR (gT out i).v).1,(gT out i).e⟩],0) else ([],2):=by
      conv=>lhs;unfold monoN
      rw [if_pos hm2]
     have hle:=hml i
     have mk2:∀ (e:DEnv) (S:Store),e 4=.own (.r 0 0) b4 0 out.length cap 4→e 9=i64 ((i + 1:Nat):Int)→S (.r 0 0)=some ⟨b4,4,0,rS eT out⟩→(monoN out (i + 1)).2=0→RowZ S (.l 123) 4 (e 8) (rS eM (monoN out (i + 1)).1)→I e S:=fun e S a1 a2 a3 a4 a5=>mk e S ⟨i + 1,by omega,a1,a2,a3,a4,a5⟩
     clear mk hml JF hr k4
     generalize monoN out (i + 1)=m1 at *
     generalize monoN out i=m0 at *
     have pS:=p_rSign (d:=(gT out i).v)
     have pN:=p_rNum wv.bd (by omega)
     have kz:(sgnD (gT out i).v=0)=((gT out i).v=0):=propext sgnD_zero
     repeat (first|with_reducible refine pv_stopB 5 ?_|(with_reducible first|refine pv_seq fun K hK=>?_|((first|refine hK _ _ ?_|(clear hK;refine hK _ _ ?_)|(clear hK;clear hK;refine hK _ _ ?_));clear hK;try clear K))| refine W ?_|exact Z|with_reducible intro b)
     refine ⟨fun K1 q1' hC=>?_⟩
     have JE:∀ (e2:DEnv) (S:Store),e2 4=.own (.r 0 0) b4 0 out.length cap 4→e2 9=i64 i→S (.r 0 0)=some ⟨b4,4,0,rS eT out⟩→m1.2=0→RowZ S (.l 123) 4 (e2 8) (rS eM m1.1)→K1 e2 S:=by
      intro e2 S g4 g9 s4 h0 hw
      refine q1' _ _ ?_
      clear q1' hC
      have ft:=And.intro g9 g4
      repeat (first|(with_reducible first|refine pv_seq fun K hK=>?_|((first|refine hK _ _ ?_|(clear hK;refine hK _ _ ?_)|(clear hK;clear hK;refine hK _ _ ?_));clear hK;try clear K))| refine W0 ?_|exact Z|with_reducible intro b)
      exact ⟨mk2 _ _ Zr Zr s4 h0 hw,by simp only [intD];omega⟩
     clear q1' mk2
     generalize gT out i=t at *
     obtain ⟨tv,te⟩:=t
     unfold cT at q1
     unfold VA at pS pN
     simp only at *
     generalize hnr:numR tv=nr at *
     obtain ⟨⟨n1,e1,w1⟩,er⟩:=nr
     by_cases h0:tv=0
     ·rw [if_pos h0] at hsu
      subst hsu
      rw [eq_true h0] at kz
      have ft:=And.intro g4 (And.intro g9 (And.intro s4 (And.intro q1 kz)))
      repeat (first|(with_reducible first|refine pv_seq fun K hK=>?_|((first|refine hK _ _ ?_|(clear hK;refine hK _ _ ?_)|(clear hK;clear hK;refine hK _ _ ?_));clear hK;try clear K))| refine W ?_|exact Z|with_reducible intro b)
      exact JE _ _ Zr Zr s4 hm2 hw
     ·rw [if_neg h0] at hsu
      rw [eq_false h0] at kz
      by_cases h1:er=0
      ·subst h1
       rw [if_pos rfl] at hsu
       subst hsu
       have hnew:=rS_m (l:=m0.1) (m:=⟨⟨n1,e1,w1⟩,te⟩)
       have ft:=And.intro g4 (And.intro g9 (And.intro s4 (And.intro q1 kz)))
       repeat (first|(with_reducible first|refine pv_seq fun K hK=>?_|((first|refine hK _ _ ?_|(clear hK;refine hK _ _ ?_)|(clear hK;clear hK;refine hK _ _ ?_));clear hK;try clear K))| refine W0 ?_|exact Z|with_reducible intro b)
       repeat' (first|(with_reducible first|refine pv_seq fun K hK=>?_|((first|refine hK _ _ ?_|(clear hK;refine hK _ _ ?_)|(clear hK;clear hK;refine hK _ _ ?_));clear hK;try clear K))| refine W ?_|exact Z|with_reducible intro b|with_reducible refine And.intro ?_ ?_|(refine ⟨by rw [rS_len];omega,by rw [rS_len];omega,fun b' cap'=>?_⟩)|(refine RowZ.appL (hw.up (by rfl)) (by decide) rfl (by simp [D.one,W64]) ?_ ?_ fun d' S' hr' hS'=>?_))
       all_goals first|(rw [rS_len];omega)|exact hC _ _ (RowZ.frz (k3:=.l 114) 3 hr' rfl (by decide) ((hS' _ (by decide)).trans (by simp only [updS_apply];rfl)) (gs:=te.map eZ) (by rw [List.drop_zero,List.take_length];exact pureLL_rS) (by omega) fun S2 hz hf hg2=>JE _ _ Zr Zr ((hf (.r 0 0) (by decide) (by decide)).trans ((hS' _ (by decide)).trans (by simp only [updS_apply];exact s4))) rfl (by rw [← hnew];exact hz))
      ·rw [if_neg h1] at hsu
       subst hsu
       have hr1:=hst (by decide)
       subst hr1
       have k1:=eq_false h1
       have ft:=And.intro g4 (And.intro g9 (And.intro s4 (And.intro q1 (And.intro kz k1))))
       exact Wk
    ·obtain rfl:i=out.length:=by omega
     repeat (first|(with_reducible first|refine pv_seq fun K hK=>?_|((first|refine hK _ _ ?_|(clear hK;refine hK _ _ ?_)|(clear hK;clear hK;refine hK _ _ ?_));clear hK;try clear K))| refine W0 ?_|exact Z|with_reducible intro b)
     exact JF _ _ hm2 hw
 clear hK
 obtain ⟨I,mk,el⟩:=hide fun e S=>∃ i:Nat,i≤l.length∧e 0=.g (eS eT l)∧e 5=i64 i∧RowZ S (.r 0 0) 4 (e 4) (rS eT (gathN l i))
 refine pv_loop I (fun e _=>l.length - (intD (e 5)).toNat) ?_ ?_
 ·exact mk _ _ ⟨0,Nat.zero_le _,Zr,Zr,.inl ⟨Zr,rfl⟩⟩
 ·intro e S hI
  obtain ⟨i,hi,g0,g5,hw⟩:=el e S hI
  clear el hI
  have hm0:(intD (e 5)).toNat=i:=by rw [g5];exact Int.toNat_natCast i
  have ft:=And.intro g0 g5
  repeat (first|(with_reducible first|refine pv_seq fun K hK=>?_|((first|refine hK _ _ ?_|(clear hK;refine hK _ _ ?_)|(clear hK;clear hK;refine hK _ _ ?_));clear hK;try clear K))| refine W0 ?_|exact Z|with_reducible intro b)
  refine pv_cdD (fun ht=>?_) (fun ht=>?_)
  ·have hil:i<l.length:=by omega
   have q2:=gT_at hil
   have wm:=he _ (gT_mem hil)
   have ws:=hs _ (gT_mem hil)
   have hins:gathN l (i + 1)=insT (gathN l i) (gT l i):=rfl
   have hsi:=hsm i hi
   have hei:=hel i hi
   have hni:=hln i
   have mk2:∀ (e2:DEnv) (S2:Store),e2 0=.g (eS eT l)→e2 5=i64 ((i + 1:Nat):Int)→RowZ S2 (.r 0 0) 4 (e2 4) (rS eT (gathN l (i + 1)))→I e2 S2:=fun e2 S2 a1 a2 a3=>mk _ _ ⟨i + 1,by omega,a1,a2,a3⟩
   clear J hsm hel hln mk hs he hr
   generalize gathN l (i + 1)=out1 at *
   generalize gathN l i=out at *
   generalize gT l i=t at *
   repeat (first|with_reducible refine pv_stopB 1 ?_|(with_reducible first|refine pv_seq fun K hK=>?_|((first|refine hK _ _ ?_|(clear hK;refine hK _ _ ?_)|(clear hK;clear hK;refine hK _ _ ?_));clear hK;try clear K))| refine W ?_|exact Z|with_reducible intro b)
   refine ⟨fun K1 q1 hC=>?_⟩
   have JE:∀ (e2:DEnv) (S:Store),e2 0=.g (eS eT l)→e2 5=i64 i→RowZ S (.r 0 0) 4 (e2 4) (rS eT out1)→K1 e2 S:=by
    intro e2 S g0 g5 hw
    refine q1 _ _ ?_
    clear q1 hC
    have ft:=And.intro g5 g0
    repeat (first|(with_reducible first|refine pv_seq fun K hK=>?_|((first|refine hK _ _ ?_|(clear hK;refine hK _ _ ?_)|(clear hK;clear hK;refine hK _ _ ?_));clear hK;try clear K))| refine W0 ?_|exact Z|with_reducible intro b)
    exact ⟨mk2 _ _ Zr Zr hw,by simp only [intD];omega⟩
   have JM:∀ (e2:DEnv) (S:Store),e2 0=.g (eS eT l)→e2 5=i64 i→RowP P3 S 4 (e2 4) (rS eT out1)→K1 e2 S:=by
    intro e2 S g0 g5 hw
    exact hC _ _ (RowP.move 4 (.r 0 0) P3_r hw fun d S' hz _ _=>JE _ _ g0 g5 hz)
   clear q1 hC mk2
   obtain ⟨tv,te⟩:=t
   simp only at *
   rcases hw with ⟨g4,h4⟩|⟨b4,cap,g4,s4⟩
   ·obtain rfl:out=[]:=by have:=congrArg List.length h4;rw [rS_len] at this;exact List.eq_nil_of_length_eq_zero this
    rw [insT_nil] at hins
    subst hins
    have ft:=And.intro g0 (And.intro g4 g5)
    repeat (first|(with_reducible first|refine pv_seq fun K hK=>?_|((first|refine hK _ _ ?_|(clear hK;refine hK _ _ ?_)|(clear hK;clear hK;refine hK _ _ ?_));clear hK;try clear K))| refine W0 ?_|exact Z|with_reducible intro b)
    refine pv_loop (fun e T=>Hid (e 0=.g (eS eT l)∧e 4=.nil∧e 5=i64 i∧e 6=i64 0)) (fun _ _=>0) ?_ ?_
    ·exact ⟨Zr,Zr,Zr,Zr⟩
    ·rintro e2 T ⟨g0,g4,g5,g6⟩
     have k0:((0:Int)<0)=False:=eq_false (by decide)
     have ft:=And.intro g0 (And.intro g4 (And.intro g5 (And.intro g6 q2)))
     repeat (first|(with_reducible first|refine pv_seq fun K hK=>?_|((first|refine hK _ _ ?_|(clear hK;refine hK _ _ ?_)|(clear hK;clear hK;refine hK _ _ ?_));clear hK;try clear K))| refine W0 ?_|exact Z|with_reducible intro b)
     refine ⟨fun _=>?_,fun h=>absurd h (by decide)⟩
     repeat (first|(with_reducible first|refine pv_seq fun K hK=>?_|((first|refine hK _ _ ?_|(clear hK;refine hK _ _ ?_)|(clear hK;clear hK;refine hK _ _ ?_));clear hK;try clear K))| refine W0 ?_|exact Z|with_reducible intro b)
     refine ⟨by simp [D.one],fun h=>h.elim,fun _ b' cap'=>?_⟩
     repeat (first|(with_reducible first|refine pv_seq fun K hK=>?_|((first|refine hK _ _ ?_|(clear hK;refine hK _ _ ?_)|(clear hK;clear hK;refine hK _ _ ?_));clear hK;try clear K))| refine W0 ?_|exact Z|with_reducible intro b)
     exact JM _ _ Zr Zr (.inr ⟨.l 82,_,_,.inr (.inl rfl),Zr,by simp only [updS_apply];rfl⟩)
   ·rw [rS_len] at g4
    have k4:∀ k:Nat,k<out.length→(rS eT out)[k]? = some (cT (gT out k)):=fun k=>rT_at
    have hmx:=posT_max (out:=out) (e:=te)
    have hal:=fun j=>posT_all (out:=out) (e:=te) (j:=j)
    have hpl:=posT_le out te
    unfold insT at hins
    simp only at hins
    generalize hp:posT out te=m at *
    have ft:=And.intro g0 (And.intro g4 g5)
    repeat (first|(with_reducible first|refine pv_seq fun K hK=>?_|((first|refine hK _ _ ?_|(clear hK;refine hK _ _ ?_)|(clear hK;clear hK;refine hK _ _ ?_));clear hK;try clear K))| refine W0 ?_|exact Z|with_reducible intro b)
    refine pv_loop (fun e T=>Hid (∃ k:Nat,k≤m∧e 0=.g (eS eT l)∧e 4=.own (.r 0 0) b4 0 out.length cap 4∧e 5=i64 i∧e 6=i64 k∧T (.r 0 0)=some ⟨b4,4,0,rS eT out⟩)) (fun e _=>m - (intD (e 6)).toNat) ?_ ?_
    ·exact ⟨0,Nat.zero_le _,Zr,Zr,Zr,Zr,s4⟩
    ·rintro e2 T ⟨k,hkm,g0,g4,g5,g6,s4⟩
     have JX:∀ (e:DEnv) (S:Store),True:=fun _ _=>trivial
     by_cases hk1:k<out.length
     ·have k1:(k<out.length)=True:=eq_true hk1
      have q1:=k4 k hk1
      have hek:=hei _ (gT_mem hk1)
      have pC:=p_rOrdE (a:=(gT out k).e) (b:=te) hek wm
      by_cases hkm2:k<m
      ·have h9:=hal k hkm2
       have h9':=eq_true h9
       clear hmx hal hins JE JM hsi hei
       generalize gT out k=x at *
       obtain ⟨xv,xe⟩:=x
       unfold ZI at pC
       unfold cT at q1
       simp only at *
       generalize ordE xe te=o at *
       have ft:=And.intro g0 (And.intro g4 (And.intro g5 (And.intro g6 (And.intro s4 (And.intro q1 (And.intro q2 (And.intro k1 h9')))))))
       repeat (first|(with_reducible first|refine pv_seq fun K hK=>?_|((first|refine hK _ _ ?_|(clear hK;refine hK _ _ ?_)|(clear hK;clear hK;refine hK _ _ ?_));clear hK;try clear K))| refine W ?_|exact Z|with_reducible intro b)
       exact ⟨⟨k + 1,by omega,Zr,Zr,Zr,Zr,s4⟩,by simp only [intD];omega⟩
      ·obtain rfl:k=m:=by omega
       have h9:=hmx hk1
       have h9':=eq_false h9
       by_cases h0:ordE (gT out k).e te=0
       ·rw [if_pos ⟨hk1,h0⟩] at hins
        have h0':=eq_true h0
        have pP:=p_rPlus (hsi _ (gT_mem hk1)).bd (ws.mono (show M≤M + i by omega)).bd (by omega)
        have hset:=rT_set (out:=out) (k:=k) (t:=⟨(gT out k).v + tv,(gT out k).e⟩)
        clear hmx hal JM hsi hei
        generalize gT out k=x at *
        obtain ⟨xv,xe⟩:=x
        unfold ZI at pC
        unfold cT at q1 hset
        unfold VA at pP
        simp only at *
        generalize ordE xe te=o at *
        have ft:=And.intro g0 (And.intro g4 (And.intro g5 (And.intro g6 (And.intro s4 (And.intro q1 (And.intro q2 (And.intro k1 (And.intro h9' h0'))))))))
        repeat (first|(with_reducible first|refine pv_seq fun K hK=>?_|((first|refine hK _ _ ?_|(clear hK;refine hK _ _ ?_)|(clear hK;clear hK;refine hK _ _ ?_));clear hK;try clear K))| refine W ?_|exact Z|with_reducible intro b)
        exact JE _ _ Zr Zr (.inr ⟨b4,cap,by rw [hins,rS_len,List.length_set];exact Zr,by rw [hins,← hset];simp only [updS_apply];rfl⟩)
       ·rw [if_neg (fun h=>h0 h.2)] at hins
        have h0':=eq_false h0
        clear hmx hal hsi hei JE
        generalize gT out k=x at *
        obtain ⟨xv,xe⟩:=x
        unfold ZI at pC
        unfold cT at q1
        simp only at *
        generalize ordE xe te=o at *
        have ft:=And.intro g0 (And.intro g4 (And.intro g5 (And.intro g6 (And.intro s4 (And.intro q1 (And.intro q2 (And.intro k1 (And.intro h9' h0'))))))))
        repeat (first|with_reducible refine pv_stop 11 ?_|(with_reducible first|refine pv_seq fun K hK=>?_|((first|refine hK _ _ ?_|(clear hK;refine hK _ _ ?_)|(clear hK;clear hK;refine hK _ _ ?_));clear hK;try clear K))| refine W ?_|exact Z|with_reducible intro b)
        refine ⟨fun K2 q2' hC2=>?_⟩
        have JR:∀ (e:DEnv) (S:Store),e 0=.g (eS eT l)→e 4=.own (.r 0 0) b4 0 out.length cap 4→e 5=i64 i→e 6=i64 k→S (.r 0 0)=some ⟨b4,4,0,rS eT out⟩→RowP P3 S 4 (e 7) (rS eT (out.take k))→K2 e S:=by
         intro e S g0 g4 g5 g6 s4 hr
         refine q2' _ _ ?_
         clear q2' hC2
         have ft:=And.intro g4 (And.intro g0 (And.intro g5 (And.intro g6 q2)))
         repeat (first|(with_reducible first|refine pv_seq fun K hK=>?_|((first|refine hK _ _ ?_|(clear hK;refine hK _ _ ?_)|(clear hK;clear hK;refine hK _ _ ?_));clear hK;try clear K))| refine W0 ?_|exact Z|with_reducible intro b)
         refine RowP.appL (P:=P3) hr P3_81 (.inr (.inl rfl)) rfl ?_ ?_ ?_ fun d2 S2 hr2 hf2 hg2=>?_
         ·simp [D.one]
         ·rw [rS_len,List.length_take];simp only [List.length_singleton];omega
         ·rw [rS_len,List.length_take];simp only [List.length_singleton];omega
         have s4'':S2 (.r 0 0)=some ⟨b4,4,0,rS eT out⟩:=(hf2 (.r 0 0) P3_r).trans ((updS_ne (by simp)).trans s4)
         repeat (first|(with_reducible first|refine pv_seq fun K hK=>?_|((first|refine hK _ _ ?_|(clear hK;refine hK _ _ ?_)|(clear hK;clear hK;refine hK _ _ ?_));clear hK;try clear K))| refine W0 ?_|exact Z|with_reducible intro b)
         refine RowP.app (new:=rS eT (out.drop k)) hr2 (.inr (.inr rfl)) (fun K hK=>?_) ?_ ?_ fun d3 S3 hr3 hf3 hg3=>?_
         ·rw [srcD_own,s4''];exact ⟨rfl,rfl,rfl,by rw [rS_len];omega,rT_all,by rw [rT_drop,List.take_of_length_le (by rw [rS_len,List.length_drop];omega)];exact hK⟩
         ·simp only [List.length_append,rS_len,List.length_take,List.length_drop,List.length_singleton,List.length_nil];omega
         ·simp only [List.length_append,rS_len,List.length_take,List.length_drop,List.length_singleton,List.length_nil];omega
         repeat (first|(with_reducible first|refine pv_seq fun K hK=>?_|((first|refine hK _ _ ?_|(clear hK;refine hK _ _ ?_)|(clear hK;clear hK;refine hK _ _ ?_));clear hK;try clear K))| refine W0 ?_|exact Z|with_reducible intro b)
         exact JM _ _ Zr Zr (by rw [hins,show out.take k ++ (⟨tv,te⟩:Te) :: out.drop k=out.take k ++ [⟨tv,te⟩] ++ out.drop k by simp,← rS_app,← rS_app];exact hr3)
        repeat (first|(with_reducible first|refine pv_seq fun K hK=>?_|((first|refine hK _ _ ?_|(clear hK;refine hK _ _ ?_)|(clear hK;clear hK;refine hK _ _ ?_));clear hK;try clear K))| refine W0 ?_|exact Z|with_reducible intro b)
        refine ⟨by rw [rS_len];omega,rT_all,by rw [rT_take,rS_len,List.length_take];omega,by rw [rT_take,rS_len,List.length_take];omega,fun h=>JR _ _ Zr Zr Zr Zr s4 (.inl ⟨Zr,by rw [← rT_take];exact h⟩),fun h b' cap'=>JR _ _ Zr Zr Zr Zr (by rw [updS_ne (by simp)];exact s4) (.inr ⟨.l 75,b',cap',.inl rfl,by rw [← rT_take];exact Zr,by rw [← rT_take];exact updS_at⟩)⟩
     ·obtain rfl:k=m:=by omega
      have k1:(k<out.length)=False:=eq_false hk1
      rw [if_neg (fun h=>hk1 h.1)] at hins
      clear hmx hal hsi hei JE
      have ft:=And.intro g0 (And.intro g4 (And.intro g5 (And.intro g6 (And.intro s4 (And.intro q2 k1)))))
      repeat (first|with_reducible refine pv_stop 11 ?_|(with_reducible first|refine pv_seq fun K hK=>?_|((first|refine hK _ _ ?_|(clear hK;refine hK _ _ ?_)|(clear hK;clear hK;refine hK _ _ ?_));clear hK;try clear K))| refine W ?_|exact Z|with_reducible intro b)
      refine ⟨fun K2 q2' hC2=>?_⟩
      have JR:∀ (e:DEnv) (S:Store),e 0=.g (eS eT l)→e 4=.own (.r 0 0) b4 0 out.length cap 4→e 5=i64 i→e 6=i64 k→S (.r 0 0)=some ⟨b4,4,0,rS eT out⟩→RowP P3 S 4 (e 7) (rS eT (out.take k))→K2 e S:=by
       intro e S g0 g4 g5 g6 s4 hr
       refine q2' _ _ ?_
       clear q2' hC2
       have ft:=And.intro g4 (And.intro g0 (And.intro g5 (And.intro g6 q2)))
       repeat (first|(with_reducible first|refine pv_seq fun K hK=>?_|((first|refine hK _ _ ?_|(clear hK;refine hK _ _ ?_)|(clear hK;clear hK;refine hK _ _ ?_));clear hK;try clear K))| refine W0 ?_|exact Z|with_reducible intro b)
       refine RowP.appL (P:=P3) hr P3_81 (.inr (.inl rfl)) rfl ?_ ?_ ?_ fun d2 S2 hr2 hf2 hg2=>?_
       ·simp [D.one]
       ·rw [rS_len,List.length_take];simp only [List.length_singleton];omega
       ·rw [rS_len,List.length_take];simp only [List.length_singleton];omega
       have s4'':S2 (.r 0 0)=some ⟨b4,4,0,rS eT out⟩:=(hf2 (.r 0 0) P3_r).trans ((updS_ne (by simp)).trans s4)
       repeat (first|(with_reducible first|refine pv_seq fun K hK=>?_|((first|refine hK _ _ ?_|(clear hK;refine hK _ _ ?_)|(clear hK;clear hK;refine hK _ _ ?_));clear hK;try clear K))| refine W0 ?_|exact Z|with_reducible intro b)
       refine ⟨fun _=>?_,?_⟩
       ·refine RowP.app (new:=[]) hr2 (.inr (.inr rfl)) (fun K hK=>?_) ?_ ?_ fun d3 S3 hr3 hf3 hg3=>?_
        ·rw [srcD_own,s4''];exact ⟨rfl,rfl,rfl,by rw [rS_len];omega,rT_all,hK⟩
        ·simp only [List.length_append,rS_len,List.length_take,List.length_drop,List.length_singleton,List.length_nil];omega
        ·simp only [List.length_append,rS_len,List.length_take,List.length_drop,List.length_singleton,List.length_nil];omega
        repeat (first|(with_reducible first|refine pv_seq fun K hK=>?_|((first|refine hK _ _ ?_|(clear hK;refine hK _ _ ?_)|(clear hK;clear hK;refine hK _ _ ?_));clear hK;try clear K))| refine W0 ?_|exact Z|with_reducible intro b)
        exact JM _ _ Zr Zr (by rw [hins,show out.take k ++ (⟨tv,te⟩:Te) :: out.drop k=out.take k ++ [⟨tv,te⟩] ++ out.drop k by simp,← rS_app,← rS_app];rw [show out.drop k=[] from List.drop_eq_nil_of_le (by omega)];exact hr3)
       ·refine RowP.app (new:=rS eT (out.drop k)) hr2 (.inr (.inr rfl)) (fun K hK=>?_) ?_ ?_ fun d3 S3 hr3 hf3 hg3=>?_
        ·rw [srcD_own,s4''];exact ⟨rfl,rfl,rfl,by rw [rS_len];omega,rT_all,by rw [rT_drop,List.take_of_length_le (by rw [rS_len,List.length_drop];omega)];exact hK⟩
        ·simp only [List.length_append,rS_len,List.length_take,List.length_drop,List.length_singleton,List.length_nil];omega
        ·simp only [List.length_append,rS_len,List.length_take,List.length_drop,List.length_singleton,List.length_nil];omega
        repeat (first|(with_reducible first|refine pv_seq fun K hK=>?_|((first|refine hK _ _ ?_|(clear hK;refine hK _ _ ?_)|(clear hK;clear hK;refine hK _ _ ?_));clear hK;try clear K))| refine W0 ?_|exact Z|with_reducible intro b)
        exact JM _ _ Zr Zr (by rw [hins,show out.take k ++ (⟨tv,te⟩:Te) :: out.drop k=out.take k ++ [⟨tv,te⟩] ++ out.drop k by simp,← rS_app,← rS_app];exact hr3)
      repeat (first|(with_reducible first|refine pv_seq fun K hK=>?_|((first|refine hK _ _ ?_|(clear hK;refine hK _ _ ?_)|(clear hK;clear hK;refine hK _ _ ?_));clear hK;try clear K))| refine W0 ?_|exact Z|with_reducible intro b)
      refine ⟨by rw [rS_len];omega,rT_all,by rw [rT_take,rS_len,List.length_take];omega,by rw [rT_take,rS_len,List.length_take];omega,fun h=>JR _ _ Zr Zr Zr Zr s4 (.inl ⟨Zr,by rw [← rT_take];exact h⟩),fun h b' cap'=>JR _ _ Zr Zr Zr Zr (by rw [updS_ne (by simp)];exact s4) (.inr ⟨.l 75,b',cap',.inl rfl,by rw [← rT_take];exact Zr,by rw [← rT_take];exact updS_at⟩)⟩
  ·obtain rfl:i=l.length:=by omega
   repeat (first|(with_reducible first|refine pv_seq fun K hK=>?_|((first|refine hK _ _ ?_|(clear hK;refine hK _ _ ?_)|(clear hK;clear hK;refine hK _ _ ?_));clear hK;try clear K))| refine W0 ?_|exact Z|with_reducible intro b)
   exact J _ _ hw
end Go.V
