/- Which lists of monomials are light. What sums, products and derivatives answer is well-formed. The statements PolyRights, PolyReckons. The statement PolyValues. The deck's dimensions. The statement PolyMakes. Ranges over small boxes, plain: no step goes over, each value is within, parts give parts. The statement PolyHolds. -/
import Derived.Test.YtgapammfekmihaaGreatDoorZaI4
set_option linter.unusedSimpArgs false
set_option linter.unusedVariables false
set_option maxRecDepth 100000
namespace Go.V
open Go Go.RowKit Go.Proofs
def lightM (m:Mo):Prop:=m.e.length≤6∧m.c.w.length≤70
instance (m:Mo):Decidable (lightM m):=inferInstanceAs (Decidable (_∧_))
def lightQ (q:List Mo):Prop:=q.length≤30∧∀ m ∈ q,lightM m
instance (q:List Mo):Decidable (lightQ q):=inferInstanceAs (Decidable (_∧_))
def lightA (ls:List (List Mo)):Prop:=∀ q ∈ ls,lightQ q
instance (ls:List (List Mo)):Decidable (lightA ls):=inferInstanceAs (Decidable (∀ q ∈ ls,lightQ q))
def eQ (q:List Mo):List G:=[eS eM q]
theorem eQ_0 {q:List Mo}:eQ q=[eS eM q]:=rfl
attribute [go_sem] eQ_0
theorem lightQ.wf {q:List Mo} (h:lightQ q) (hb:∀ m ∈ q,B64 m.c.w):WfM q:=⟨by have:=h.1;omega,fun m hm=>⟨⟨hb m hm,by have:=(h.2 m hm).2;omega⟩,by have:=(h.2 m hm).1;omega⟩⟩
theorem rowQ_at {xs:List (List Mo)} {i:Nat} (h:i<xs.length):xs[i]? = some (xs.getD i []):=by simp [List.getD,List.getElem?_eq_getElem h]
set_option maxHeartbeats 2000000 in
theorem p_light10 {ls:List (List Mo)} (hls:ls.length≤1000):PC Tryz.prog 12 [.g (eS eQ ls)] fun d=>d=bl (decide (lightA ls)):=by
 refine PB (rs:=[.tmp 2]) Tryz.func12 ?_
 repeat (first|(with_reducible first|refine pv_seq fun K hK=>?_|((first|refine hK _ _ ?_|(clear hK;refine hK _ _ ?_)|(clear hK;clear hK;refine hK _ _ ?_));clear hK;try clear K))| refine W0 ?_|exact Z|with_reducible intro b)
 have J:∀ (e:DEnv) (S:Store),lightA ls→K e S:=by
  intro e S h
  repeat (first|(with_reducible first|refine pv_seq fun K hK=>?_|((first|refine hK _ _ ?_|(clear hK;refine hK _ _ ?_)|(clear hK;clear hK;refine hK _ _ ?_));clear hK;try clear K))| refine W0 ?_|exact Z|with_reducible intro b)
  rw [decide_eq_true h]
 clear hK
 obtain ⟨I,mk,el⟩:=hide fun e S=>∃ (i:Nat),i≤ls.length∧e 0=.g (eS eQ ls)∧e 3=i64 i∧∀ j,j<i→lightQ (ls.getD j [])
 refine pv_loop I (fun e _=>ls.length - (intD (e 3)).toNat) ?_ ?_
 ·exact mk _ _ ⟨0,Nat.zero_le _,Zr,Zr,fun j hj=>by omega⟩
 ·intro e S hI
  obtain ⟨i,hi,g0,g3,hz⟩:=el e S hI
  clear el hI
  have ft:=And.intro g0 g3
  repeat (first|(with_reducible first|refine pv_seq fun K hK=>?_|((first|refine hK _ _ ?_|(clear hK;refine hK _ _ ?_)|(clear hK;clear hK;refine hK _ _ ?_));clear hK;try clear K))| refine W0 ?_|exact Z|with_reducible intro b)
  refine pv_cdD (fun ht=>?_) (fun ht=>?_)
  ·have hil:i<ls.length:=by omega
   have hm0:(intD (e 3)).toNat=i:=by rw [g3];exact Int.toNat_natCast i
   have q1:=rowQ_at hil
   have hbad:¬ lightQ (ls.getD i [])→decide (lightA ls)=false:=fun h=>decide_eq_false fun h2=>h (h2 _ (List.mem_of_getElem? q1))
   have mk3:∀ (e:DEnv) (S:Store),lightQ (ls.getD i [])→e 0=.g (eS eQ ls)→e 3=i64 ((i + 1:Nat):Int)→I e S:=fun e S h a1 a2=>mk e S ⟨i + 1,by omega,a1,a2,fun j hj=>by
    rcases Nat.lt_or_ge j i with h3|h3
    ·exact hz j h3
    ·obtain rfl:j=i:=by omega
     exact h⟩
   clear mk J hz
   generalize ls.getD i []=l at *
   by_cases h30:30<(l.length:Int)
   ·have k30:=eq_true h30
    have hr:=hbad fun h=>by have:=h.1;omega
    have ft:=And.intro g0 (And.intro g3 (And.intro q1 (And.intro k30 hr)))
    exact Wk
   ·have k30:=eq_false h30
    have hl30:l.length≤30:=by omega
    have ft:=And.intro g0 (And.intro g3 (And.intro q1 k30))
    repeat (first|(with_reducible first|refine pv_seq fun K hK=>?_|((first|refine hK _ _ ?_|(clear hK;refine hK _ _ ?_)|(clear hK;clear hK;refine hK _ _ ?_));clear hK;try clear K))| refine W0 ?_|exact Z|with_reducible intro b)
    obtain ⟨I2,mk2,el2⟩:=hide fun e S=>∃ (j:Nat),j≤l.length∧e 0=.g (eS eQ ls)∧e 3=i64 i∧e 4=i64 j∧∀ k,k<j→lightM (gM l k)
    refine pv_loop I2 (fun e _=>l.length - (intD (e 4)).toNat) ?_ ?_
    ·exact mk2 _ _ ⟨0,Nat.zero_le _,Zr,Zr,Zr,fun j hj=>by omega⟩
    ·intro e S hI
     obtain ⟨j,hj,g0,g3,g4,hz⟩:=el2 e S hI
     clear el2 hI
     have ft:=And.intro g0 (And.intro g3 (And.intro g4 q1))
     repeat (first|(with_reducible first|refine pv_seq fun K hK=>?_|((first|refine hK _ _ ?_|(clear hK;refine hK _ _ ?_)|(clear hK;clear hK;refine hK _ _ ?_));clear hK;try clear K))| refine W0 ?_|exact Z|with_reducible intro b)
     refine pv_cdD (fun ht=>?_) (fun ht=>?_)
     ·have hjl:j<l.length:=by omega
      have q2:=gM_at hjl
      have hb2:¬ lightM (gM l j)→decide (lightA ls)=false:=fun h=>hbad fun h2=>h (h2.2 _ (gM_mem hjl))
      have mk4:∀ (e:DEnv) (S:Store),lightM (gM l j)→e 0=.g (eS eQ ls)→e 3=i64 i→e 4=i64 ((j + 1:Nat):Int)→I2 e S:=fun e S h a1 a2 a3=>mk2 e S ⟨j + 1,by omega,a1,a2,a3,fun k hk=>by
       rcases Nat.lt_or_ge k j with h3|h3
       ·exact hz k h3
       ·obtain rfl:k=j:=by omega
        exact h⟩
      clear mk2 hz mk3 hbad
      generalize gM l j=m at *
      obtain ⟨⟨n1,e1,w1⟩,z⟩:=m
      unfold lightM at *
      simp only at *
      by_cases h6:6<(z.length:Int)
      ·have k6:=eq_true h6
       have hr:=hb2 fun h=>by have:=h.1;omega
       have ft:=And.intro g0 (And.intro g3 (And.intro g4 (And.intro q1 (And.intro q2 (And.intro k6 hr)))))
       exact Wk
      ·have k6:=eq_false h6
       by_cases h70:70<(w1.length:Int)
       ·have k70:=eq_true h70
        have hr:=hb2 fun h=>by have:=h.2;omega
        have ft:=And.intro g0 (And.intro g3 (And.intro g4 (And.intro q1 (And.intro q2 (And.intro k6 (And.intro k70 hr))))))
        exact Wk
       ·have k70:=eq_false h70
        have ft:=And.intro g0 (And.intro g3 (And.intro g4 (And.intro q1 (And.intro q2 (And.intro k70 k6)))))
        repeat (first|(with_reducible first|refine pv_seq fun K hK=>?_|((first|refine hK _ _ ?_|(clear hK;refine hK _ _ ?_)|(clear hK;clear hK;refine hK _ _ ?_));clear hK;try clear K))| refine W0 ?_|exact Z|with_reducible intro b)
        exact ⟨mk4 _ _ ⟨by omega,by omega⟩ Zr Zr Zr,by simp only [intD];omega⟩
     ·obtain rfl:j=l.length:=by omega
      have hlq:lightQ l:=⟨hl30,fun m hm=>by
       obtain ⟨k,hk⟩:=List.getElem?_of_mem hm
       have hkl:k<l.length:=(List.getElem?_eq_some_iff.1 hk).1
       have:=hz k hkl
       rw [gM_at hkl] at hk
       injection hk with hk
       rwa [hk] at this⟩
      repeat (first|(with_reducible first|refine pv_seq fun K hK=>?_|((first|refine hK _ _ ?_|(clear hK;refine hK _ _ ?_)|(clear hK;clear hK;refine hK _ _ ?_));clear hK;try clear K))| refine W0 ?_|exact Z|with_reducible intro b)
      exact ⟨mk3 _ _ hlq Zr Zr,by rw [hm0];simp only [intD];omega⟩
  ·obtain rfl:i=ls.length:=by omega
   have hall:lightA ls:=fun q hq=>by
    obtain ⟨k,hk⟩:=List.getElem?_of_mem hq
    have hkl:k<ls.length:=(List.getElem?_eq_some_iff.1 hk).1
    have:=hz k hkl
    rw [rowQ_at hkl] at hk
    injection hk with hk
    rwa [hk] at this
   repeat (first|(with_reducible first|refine pv_seq fun K hK=>?_|((first|refine hK _ _ ?_|(clear hK;refine hK _ _ ?_)|(clear hK;clear hK;refine hK _ _ ?_));clear hK;try clear K))| refine W0 ?_|exact Z|with_reducible intro b)
   exact J _ _ hall
end Go.V
namespace Go.V
open Go Go.RowKit Go.Proofs
theorem gathR_form {l:List Te}:(gathR l=(((gathN l l.length).filter fun t=>decide (t.v≠0)).map moT,0)∧(∀ y ∈ gathN l l.length,OkD y.v)∧(((gathN l l.length).filter fun t=>decide (t.v≠0)).map moT).length≤24)∨gathR l=([],2)∨gathR l=([],6):=by
 by_cases ho:∀ y ∈ gathN l l.length,OkD y.v
 ·have e:=monoN_ok ho (gathN l l.length).length (Nat.le_refl _)
  rw [List.take_length] at e
  unfold gathR
  rw [e,if_pos rfl]
  by_cases hq:(((gathN l l.length).filter fun t=>decide (t.v≠0)).map moT).length≤24
  ·rw [if_pos hq];exact .inl ⟨rfl,ho,hq⟩
  ·rw [if_neg hq];exact .inr (.inr rfl)
 ·simp only [Classical.not_forall] at ho
  obtain ⟨y,hy,hb⟩:=ho
  exact .inr (.inl (gathR_bad (List.Perm.refl _) hy hb))
theorem gathR_wf {l:List Te} (he:∀ t ∈ l,t.e.length≤100000):WfM (gathR l).1:=by
 have ha:=gathN_all (P:=fun e=>e.length≤100000) he l.length (Nat.le_refl _)
 rcases gathR_form (l:=l) with ⟨e,ho,hl⟩|e|e
 ·rw [e]
  refine ⟨by simp only;omega,fun m hm=>?_⟩
  obtain ⟨t,ht,rfl⟩:=List.mem_map.1 hm
  obtain ⟨ht,_⟩:=List.mem_filter.1 ht
  exact ⟨(ho t ht).sz.wl,ha t ht⟩
 ·rw [e];exact WfM.nil
 ·rw [e];exact WfM.nil
theorem gathR_poly {n:Nat} {l:List Te} (h1:1≤n) (h4:n≤4) (he:∀ t ∈ l,t.e.length=n∧(∀ x ∈ t.e,0≤x)∧t.e.sum≤8) (h0:(gathR l).2=0):polyB (gathR l).1 (n:Int)=true:=by
 have hs:=gathN_sort (n:=n) (fun t ht=>(he t ht).1) l.length (Nat.le_refl _)
 have ha:=gathN_all (P:=fun e=>(∀ x ∈ e,0≤x)∧e.sum≤8) (fun t ht=>(he t ht).2) l.length (Nat.le_refl _)
 rcases gathR_form (l:=l) with ⟨e,ho,hl⟩|e|e
 ·rw [e]
  generalize gathN l l.length=out at *
  unfold polyB
  rw [decide_eq_true (show (1:Int)≤n by omega),decide_eq_true (show (n:Int)≤4 by omega),decide_eq_true hl]
  refine monosB_of (fun m hm=>?_) ?_
  ·obtain ⟨t,ht,rfl⟩:=List.mem_map.1 hm
   obtain ⟨ht,h0⟩:=List.mem_filter.1 ht
   have h0:t.v≠0:=of_decide_eq_true h0
   refine ⟨?_,nuOf_w h0⟩
   unfold monoB moT
   rw [decide_eq_true (show ((t.e.length:Nat):Int)=n by rw [hs.len t ht]),decide_eq_true (ha t ht).1,decide_eq_true (ha t ht).2,rightB_nuOf,decide_eq_true (ho t ht)];rfl
  ·refine List.Pairwise.map _ (fun a b h=>?_) (List.Pairwise.filter _ (hs.ord.imp_of_mem (S:=fun a b=>a.e.length=b.e.length∧0<ordE a.e b.e) fun ha hb h=>⟨by rw [hs.len _ ha,hs.len _ hb],h⟩))
   have:=ordE_cmpE h.1
   show cmpE b.e a.e<0
   omega
 ·rw [e] at h0;exact absurd h0 (by decide)
 ·rw [e] at h0;exact absurd h0 (by decide)
theorem pmkR_wf {q:List Mo} {n:Int} (hq:WfM q):WfM (pmkR q n).1:=by
 unfold pmkR
 split
 ·refine gathR_wf fun t ht=>?_
  obtain ⟨m,hm,rfl⟩:=List.mem_map.1 ht
  exact (hq.w m hm).n
 ·exact WfM.nil
theorem monoB_te {m:Mo} {n:Nat} (h:monoB m n=true):(teM m).e.length=n∧(∀ x ∈ (teM m).e,0≤x)∧(teM m).e.sum≤8:=by
 have h:=monoB_ok h
 exact ⟨by have:=h.len;show m.e.length=n;omega,h.nn,h.sum⟩
theorem pmkR_poly {q:List Mo} {n:Int} (h0:(pmkR q n).2=0):polyB (pmkR q n).1 n=true:=by
 unfold pmkR at *
 split at h0
 ·rename_i hc
  rw [if_pos hc]
  simp only [Bool.and_eq_true,decide_eq_true_eq] at hc
  obtain ⟨N,rfl⟩:∃ N:Nat,n=N:=⟨n.toNat,by omega⟩
  refine gathR_poly (by omega) (by omega) (fun t ht=>?_) h0
  obtain ⟨m,hm,rfl⟩:=List.mem_map.1 ht
  exact monoB_te (of_decide_eq_true hc.2 m hm)
 ·exact absurd h0 (show ((1:Int)=0)→False by decide)
theorem addR_wf {a b:List Mo} {n:Int} (ha:WfM a) (hb:WfM b):WfM (addR a b n).1:=by
 unfold addR
 split
 ·rename_i h
  rw [Bool.and_eq_true] at h
  have:=polyB_len h.1
  have:=polyB_len h.2
  exact pmkR_wf (ha.app hb (by omega))
 ·exact WfM.nil
theorem mulR_wf {a b:List Mo} {n:Int} (ha:WfM a) (hb:WfM b):WfM (mulR a b n).1:=by
 unfold mulR
 split
 ·split
  ·exact WfM.nil
  ·split
   ·refine gathR_wf fun t ht=>?_
    obtain ⟨x,hx,y,hy,rfl⟩:=mulT_mem ht
    show (zs x.e y.e).length≤100000
    unfold zs
    rw [List.length_zipWith]
    have:=(ha.w x hx).n
    omega
   ·exact WfM.nil
 ·exact WfM.nil
theorem difR_wf {q:List Mo} {i n:Int} (hq:WfM q):WfM (difR q i n).1:=by
 unfold difR
 split
 ·refine gathR_wf fun t ht=>?_
  obtain ⟨m,hm,rfl⟩:=List.mem_map.1 ht
  show (dec m.e i.toNat).length≤100000
  rw [dec_len]
  exact (hq.w m (List.mem_filter.1 hm).1).n
 ·exact WfM.nil
theorem p_light1 {p:List Mo}:PC Tryz.prog 12 [.g (.sl [[eS eM p]])] fun d=>d=bl (decide (lightA [p])):=p_light10 (ls:=[p]) (by simp)
theorem p_light2 {p q:List Mo}:PC Tryz.prog 12 [.g (.sl [[eS eM p],[eS eM q]])] fun d=>d=bl (decide (lightA [p,q])):=p_light10 (ls:=[p,q]) (by simp)
set_option maxHeartbeats 2000000 in
theorem p_reckons {p q:List Mo} {i n:Int} (wp:WfM p) (wq:WfM q):PC Tryz.prog 24 [MM p,MM q,i64 i,i64 n] fun d=>d=bl true:=by
 have p1:=p_pAdd (n:=n) wp wq
 have p2:=p_pMul (n:=n) wp wq
 have p3:=p_pDiff (i:=i) (n:=n) wp
 have p4:=p_rPAdd (n:=n) wp wq
 have p5:=p_rPMul (n:=n) wp wq
 have p6:=p_rPDiff (i:=i) (n:=n) wp
 have w1:=addR_wf (n:=n) wp wq
 have w2:=mulR_wf (n:=n) wp wq
 have w3:=difR_wf (i:=i) (n:=n) wp
 generalize addR p q n=s at *
 generalize mulR p q n=t at *
 generalize difR p i n=u at *
 obtain ⟨s,e1⟩:=s
 obtain ⟨t,e2⟩:=t
 obtain ⟨u,e3⟩:=u
 have p7:=p_rSameP w1 w1
 have p8:=p_rSameP w2 w2
 have p9:=p_rSameP w3 w3
 rw [sameP_self] at p7 p8 p9
 unfold LM at p1 p2 p3 p4 p5 p6
 unfold MM at *
 simp only at *
 have b1:(e1=e1)=True:=eq_true rfl
 have b2:(e2=e2)=True:=eq_true rfl
 have b3:(e3=e3)=True:=eq_true rfl
 refine PB (rs:=[.tmp 8]) Tryz.func24 ?_
 have ft:=And.intro b1 (And.intro b2 b3)
 exact Wk
set_option maxHeartbeats 2000000 in
theorem p_PolyReckons {p q:List Mo} {i n:Int} (hp:∀ m ∈ p,B64 m.c.w) (hq:∀ m ∈ q,B64 m.c.w):PC Tryz.prog 5 [MM p,MM q,i64 i,i64 n] fun d=>d=bl true:=by
 have pK:=p_known10
 have pL:=p_light2 (p:=p) (q:=q)
 by_cases hl:lightA [p,q]
 ·rw [decide_eq_true hl] at pL
  have wp:=(hl p (by simp)).wf hp
  have wq:=(hl q (by simp)).wf hq
  have pR:=p_reckons (i:=i) (n:=n) wp wq
  unfold MM at *
  refine PB (rs:=[.tmp 8]) Tryz.func5 ?_
  exact Wk
 ·rw [decide_eq_false hl] at pL
  unfold MM at *
  refine PB (rs:=[.tmp 8]) Tryz.func5 ?_
  exact Wk
end Go.V
namespace Go.V
open Go Go.RowKit Go.Proofs
theorem atR_wl {q:List Mo} {xs:List Nu}:Wl 65536 (atR q xs).1:=by
 unfold atR numR
 split
 ·by_cases h1:(nuOf (valV q xs q.length)).Ok
  ·have o1:OkD (valV q xs q.length):=h1
   rw [if_pos h1];exact o1.sz.wl
  ·rw [if_neg h1];exact wl0
 ·exact wl0
theorem rgR_wi {q:List Mo} {b:List Iv} {p:Int}:Wi 65536 (rgR q b p).1:=by
 unfold rgR
 split
 ·exact rgN_wi _
 ·exact wi0
set_option maxHeartbeats 2000000 in
theorem p_values {q:List Mo} {xs:List Nu} {bx:List Iv} {p:Int} (wq:WfM q) (wx:WfU xs) (wb:WfB bx):PC Tryz.prog 28 [MM q,UU xs,II bx,i64 p] fun d=>d=bl true:=by
 have p1:=p_pAt wq wx
 have p2:=p_rPAt wq wx
 have p3:=p_pRange (p:=p) wq wb
 have p4:=p_rPRange (p:=p) wq wb
 have w1:=atR_wl (q:=q) (xs:=xs)
 have w2:=rgR_wi (q:=q) (b:=bx) (p:=p)
 generalize atR q xs=u at *
 generalize rgR q bx p=v at *
 obtain ⟨u,e1⟩:=u
 obtain ⟨v,e2⟩:=v
 simp only at w1 w2
 have p5:=p_rSame (x:=u) (y:=u) (by have:=w1.len;omega)
 rw [decide_eq_true rfl] at p5
 have p6:=same_iv (a:=v) (by have:=w2.lo.len;omega) (by have:=w2.hi.len;omega)
 obtain ⟨n1,x1,y1⟩:=u
 obtain ⟨⟨n2,x2,y2⟩,⟨n3,x3,y3⟩⟩:=v
 have b1:(e1=e1)=True:=eq_true rfl
 have b2:(e2=e2)=True:=eq_true rfl
 simp only [MM,UU,II,NE,IE,NU,IV] at *
 refine PB (rs:=[.tmp 8]) Tryz.func28 ?_
 have ft:=And.intro b1 b2
 exact Wk
set_option maxHeartbeats 2000000 in
theorem p_PolyValues {q:List Mo} {xs:List Nu} {bx:List Iv} {p:Int} (hq:∀ m ∈ q,B64 m.c.w) (hx:∀ x ∈ xs,B64 x.w) (hb:∀ x ∈ bx,B64 x.lo.w∧B64 x.hi.w):PC Tryz.prog 7 [MM q,UU xs,II bx,i64 p] fun d=>d=bl true:=by
 have pK:=p_known10
 have pL:=p_light1 (p:=q)
 by_cases hl:lightA [q]
 ·rw [decide_eq_true hl] at pL
  have wq:=(hl q (by simp)).wf hq
  by_cases h6:6<(xs.length:Int)
  ·have k6:=eq_true h6
   simp only [MM,UU,II] at *
   refine PB (rs:=[.tmp 8]) Tryz.func7 ?_
   have ft:=k6
   exact Wk
  ·have k6:=eq_false h6
   by_cases h7:6<(bx.length:Int)
   ·have k7:=eq_true h7
    simp only [MM,UU,II] at *
    refine PB (rs:=[.tmp 8]) Tryz.func7 ?_
    have ft:=And.intro k6 k7
    exact Wk
   ·have k7:=eq_false h7
    have hV:=fun wx wb=>p_values (p:=p) wq (xs:=xs) (bx:=bx) wx wb
    simp only [MM,UU,II] at *
    refine PB (rs:=[.tmp 8]) Tryz.func7 ?_
    have ft:=And.intro k6 k7
    repeat (first|(with_reducible first|refine pv_seq fun K hK=>?_|((first|refine hK _ _ ?_|(clear hK;refine hK _ _ ?_)|(clear hK;clear hK;refine hK _ _ ?_));clear hK;try clear K))| refine W ?_|exact Z|with_reducible intro b)
    have J:∀ (e:DEnv) (S:Store),(∀ i,i<xs.length→(gU xs i).w.length≤10)→e 0=.g (eS eM q)→e 1=.g (eS eU xs)→e 2=.g (eS eI bx)→e 3=i64 p→K e S:=by
     intro e S hxs g0 g1 g2 g3
     have wx:WfU xs:=⟨by omega,fun x hxm=>by
      obtain ⟨i,hi⟩:=List.getElem?_of_mem hxm
      have hil:i<xs.length:=(List.getElem?_eq_some_iff.1 hi).1
      have:=hxs i hil
      rw [gU_at hil] at hi
      injection hi with hi
      rw [hi] at this
      exact ⟨hx x hxm,by omega⟩⟩
     have ft:=And.intro g0 (And.intro g1 (And.intro g2 g3))
     repeat (first|(with_reducible first|refine pv_seq fun K hK=>?_|((first|refine hK _ _ ?_|(clear hK;refine hK _ _ ?_)|(clear hK;clear hK;refine hK _ _ ?_));clear hK;try clear K))| refine W0 ?_|exact Z|with_reducible intro b)
     obtain ⟨I,mk,el⟩:=hide fun e S=>∃ (i:Nat),i≤bx.length∧e 0=.g (eS eM q)∧e 1=.g (eS eU xs)∧e 2=.g (eS eI bx)∧e 3=i64 p∧e 10=i64 i∧∀ j,j<i→(gI bx j).lo.w.length≤10∧(gI bx j).hi.w.length≤10
     refine pv_loop I (fun e _=>bx.length - (intD (e 10)).toNat) ?_ ?_
     ·exact mk _ _ ⟨0,Nat.zero_le _,Zr,Zr,Zr,Zr,Zr,fun j hj=>by omega⟩
     ·intro e S hI
      obtain ⟨i,hi,g0,g1,g2,g3,g10,hz⟩:=el e S hI
      clear el hI
      have ft:=And.intro g0 (And.intro g1 (And.intro g2 (And.intro g3 g10)))
      repeat (first|(with_reducible first|refine pv_seq fun K hK=>?_|((first|refine hK _ _ ?_|(clear hK;refine hK _ _ ?_)|(clear hK;clear hK;refine hK _ _ ?_));clear hK;try clear K))| refine W0 ?_|exact Z|with_reducible intro b)
      refine pv_cdD (fun ht=>?_) (fun ht=>?_)
      ·have hil:i<bx.length:=by omega
       have q1:=gI_at hil
       have mk2:∀ (e:DEnv) (S:Store),(gI bx i).lo.w.length≤10∧(gI bx i).hi.w.length≤10→e 0=.g (eS eM q)→e 1=.g (eS eU xs)→e 2=.g (eS eI bx)→e 3=i64 p→e 10=i64 ((i + 1:Nat):Int)→I e S:=fun e S h a1 a2 a3 a4 a5=>mk e S ⟨i + 1,by omega,a1,a2,a3,a4,a5,fun j hj=>by
        rcases Nat.lt_or_ge j i with h3|h3
        ·exact hz j h3
        ·obtain rfl:j=i:=by omega
         exact h⟩
       clear mk hz
       generalize gI bx i=m at *
       obtain ⟨⟨n1,e1,w1⟩,⟨n2,e2,w2⟩⟩:=m
       simp only at *
       by_cases h1:10<(w1.length:Int)
       ·have k1:=eq_true h1
        have ft:=And.intro g0 (And.intro g1 (And.intro g2 (And.intro g3 (And.intro g10 (And.intro q1 k1)))))
        exact Wk
       ·have k1:=eq_false h1
        by_cases h2:10<(w2.length:Int)
        ·have k2:=eq_true h2
         have ft:=And.intro g0 (And.intro g1 (And.intro g2 (And.intro g3 (And.intro g10 (And.intro q1 (And.intro k1 k2))))))
         exact Wk
        ·have k2:=eq_false h2
         have ft:=And.intro g0 (And.intro g1 (And.intro g2 (And.intro g3 (And.intro g10 (And.intro q1 (And.intro k2 k1))))))
         repeat (first|(with_reducible first|refine pv_seq fun K hK=>?_|((first|refine hK _ _ ?_|(clear hK;refine hK _ _ ?_)|(clear hK;clear hK;refine hK _ _ ?_));clear hK;try clear K))| refine W0 ?_|exact Z|with_reducible intro b)
         exact ⟨mk2 _ _ ⟨by omega,by omega⟩ Zr Zr Zr Zr Zr,by simp only [intD];omega⟩
      ·obtain rfl:i=bx.length:=by omega
       have wb:WfB bx:=⟨by omega,fun x hxm=>by
        obtain ⟨i,hi⟩:=List.getElem?_of_mem hxm
        have hil:i<bx.length:=(List.getElem?_eq_some_iff.1 hi).1
        have:=hz i hil
        rw [gI_at hil] at hi
        injection hi with hi
        rw [hi] at this
        exact ⟨⟨(hb x hxm).1,by omega⟩,⟨(hb x hxm).2,by omega⟩⟩⟩
       have pV:=hV wx wb
       exact Wk
    clear hK hV
    obtain ⟨I,mk,el⟩:=hide fun e S=>∃ (i:Nat),i≤xs.length∧e 0=.g (eS eM q)∧e 1=.g (eS eU xs)∧e 2=.g (eS eI bx)∧e 3=i64 p∧e 9=i64 i∧∀ j,j<i→(gU xs j).w.length≤10
    refine pv_loop I (fun e _=>xs.length - (intD (e 9)).toNat) ?_ ?_
    ·have ft:=true_and
     exact mk _ _ ⟨0,Nat.zero_le _,Zr,Zr,Zr,Zr,Zr,fun j hj=>by omega⟩
    ·intro e S hI
     obtain ⟨i,hi,g0,g1,g2,g3,g9,hz⟩:=el e S hI
     clear el hI
     have ft:=And.intro g0 (And.intro g1 (And.intro g2 (And.intro g3 g9)))
     repeat (first|(with_reducible first|refine pv_seq fun K hK=>?_|((first|refine hK _ _ ?_|(clear hK;refine hK _ _ ?_)|(clear hK;clear hK;refine hK _ _ ?_));clear hK;try clear K))| refine W0 ?_|exact Z|with_reducible intro b)
     refine pv_cdD (fun ht=>?_) (fun ht=>?_)
     ·have hil:i<xs.length:=by omega
      have q1:=gU_at hil
      have mk2:∀ (e:DEnv) (S:Store),(gU xs i).w.length≤10→e 0=.g (eS eM q)→e 1=.g (eS eU xs)→e 2=.g (eS eI bx)→e 3=i64 p→e 9=i64 ((i + 1:Nat):Int)→I e S:=fun e S h a1 a2 a3 a4 a5=>mk e S ⟨i + 1,by omega,a1,a2,a3,a4,a5,fun j hj=>by
       rcases Nat.lt_or_ge j i with h3|h3
       ·exact hz j h3
       ·obtain rfl:j=i:=by omega
        exact h⟩
      clear mk hz J
      generalize gU xs i=m at *
      obtain ⟨n1,e1,w1⟩:=m
      simp only at *
      by_cases h1:10<(w1.length:Int)
      ·have k1:=eq_true h1
       have ft:=And.intro g0 (And.intro g1 (And.intro g2 (And.intro g3 (And.intro g9 (And.intro q1 k1)))))
       exact Wk
      ·have k1:=eq_false h1
       have ft:=And.intro g0 (And.intro g1 (And.intro g2 (And.intro g3 (And.intro q1 (And.intro g9 k1)))))
       repeat (first|(with_reducible first|refine pv_seq fun K hK=>?_|((first|refine hK _ _ ?_|(clear hK;refine hK _ _ ?_)|(clear hK;clear hK;refine hK _ _ ?_));clear hK;try clear K))| refine W0 ?_|exact Z|with_reducible intro b)
       exact ⟨mk2 _ _ (by omega) Zr Zr Zr Zr Zr,by simp only [intD];omega⟩
     ·obtain rfl:i=xs.length:=by omega
      repeat (first|(with_reducible first|refine pv_seq fun K hK=>?_|((first|refine hK _ _ ?_|(clear hK;refine hK _ _ ?_)|(clear hK;clear hK;refine hK _ _ ?_));clear hK;try clear K))| refine W0 ?_|exact Z|with_reducible intro b)
      exact J _ _ hz g0 g1 g2 g3
 ·rw [decide_eq_false hl] at pL
  simp only [MM,UU,II] at *
  refine PB (rs:=[.tmp 8]) Tryz.func7 ?_
  exact Wk
end Go.V
namespace Go.V
open Go Go.RowKit Go.Proofs
theorem p_dDim {k:Nm} {S:Store} {Q:D→Store→Prop} {b i:Nat} {w:List Nat} (hS:S k=some ⟨b,2,0,[[W64 w,i64 i]]⟩) (hb:B64 w) (hi:i≤900000000)
 (hQ:∀ n:Nat,1≤n→n≤4→Q (i64 n) (updS S k (some ⟨b,2,0,[[W64 w,i64 ((i + 1:Nat):Int)]]⟩))):PFC Tryz.prog 22 [.ptr k b 0 0 2] S Q:=by
 refine PFB (rs:=[.tmp 2]) Tryz.func22 ?_
 repeat (first|(with_reducible first|refine pv_seq fun K hK=>?_|((first|refine hK _ _ ?_|(clear hK;refine hK _ _ ?_)|(clear hK;clear hK;refine hK _ _ ?_));clear hK;try clear K))| refine W0 ?_|exact Z|with_reducible intro b)
 refine p_dN (n:=4) (i:=i) (by simp -implicitDefEqProofs only [updS,upS];exact hS) hb (by omega) (by decide) (by decide) (fun r hr=>?_)
 have hq:=hQ (1 + r) (by omega) (by omega)
 repeat (first|(with_reducible first|refine pv_seq fun K hK=>?_|((first|refine hK _ _ ?_|(clear hK;refine hK _ _ ?_)|(clear hK;clear hK;refine hK _ _ ?_));clear hK;try clear K))| refine W0 ?_|exact Z|with_reducible intro b)
 exact hq
set_option maxHeartbeats 4000000 in
theorem p_PolyMakes {p:List Mo} {n:Int} {w:List Nat} (hp:∀ m ∈ p,B64 m.c.w) (hb:B64 w):PC Tryz.prog 4 [MM p,i64 n,W64 w] fun d=>d=bl true:=by
 have pK:=p_known10
 have pL:=p_light1 (p:=p)
 by_cases hl:lightA [p]
 ·rw [decide_eq_true hl] at pL
  have wp:=(hl p (by simp)).wf hp
  have l30:=(hl p (by simp)).1
  by_cases h3:300<(w.length:Int)
  ·have k3:=eq_true h3
   simp only [MM] at *
   refine PB (rs:=[.tmp 6]) Tryz.func4 ?_
   have ft:=k3
   exact Wk
  ·have k3:=eq_false h3
   have p1:=p_pMake (n:=n) wp (by omega)
   have p2:=p_rPMake (n:=n) wp (by omega)
   have w1:=pmkR_wf (n:=n) wp
   generalize pmkR p n=x at *
   obtain ⟨x,e1⟩:=x
   simp only at w1
   have p3:=p_rSameP w1 w1
   rw [sameP_self] at p3
   have b1:(e1=e1)=True:=eq_true rfl
   simp only [MM,LM] at *
   refine PB (rs:=[.tmp 6]) Tryz.func4 ?_
   have ft:=k3
   repeat (first|(with_reducible first|refine pv_seq fun K hK=>?_|((first|refine hK _ _ ?_|(clear hK;refine hK _ _ ?_)|(clear hK;clear hK;refine hK _ _ ?_));clear hK;try clear K))| refine W ?_|exact Z|with_reducible intro b)
   refine p_Of (fun b0=>?_)
   repeat (first|(with_reducible first|refine pv_seq fun K hK=>?_|((first|refine hK _ _ ?_|(clear hK;refine hK _ _ ?_)|(clear hK;clear hK;refine hK _ _ ?_));clear hK;try clear K))| refine W0 ?_|exact Z|with_reducible intro b)
   refine p_dDim (i:=0) (by simp -implicitDefEqProofs only [updS,upS,if_true];rfl) hb (by omega) (fun k hk1 hk4=>?_)
   repeat (first|(with_reducible first|refine pv_seq fun K hK=>?_|((first|refine hK _ _ ?_|(clear hK;refine hK _ _ ?_)|(clear hK;clear hK;refine hK _ _ ?_));clear hK;try clear K))| refine W0 ?_|exact Z|with_reducible intro b)
   refine p_dMonos (n:=k) (most:=40) (deg:=6) (i:=1) (by simp -implicitDefEqProofs only [updS,upS,if_true];rfl) hb (by omega) hk1 hk4 (by decide) (by decide) (fun m j hm hd hj=>?_)
   have wm:WfM m:=⟨by omega,fun x hx=>(hd x hx).wm (by omega)⟩
   have q1:=p_pMake (n:=(k:Int)) wm (by omega)
   have q2:=p_rPMake (n:=(k:Int)) wm (by omega)
   have w2:=pmkR_wf (n:=(k:Int)) wm
   have hpl:=pmkR_poly (q:=m) (n:=(k:Int))
   generalize pmkR m k=u at *
   obtain ⟨u,e2⟩:=u
   simp only at w2 hpl
   have q3:=p_rSameP w2 w2
   have q4:=p_pSame w2 w2
   rw [sameP_self] at q3 q4
   have q5:=p_pRight (n:=(k:Int)) w2
   have b2:(e2=e2)=True:=eq_true rfl
   simp only [MM,LM] at *
   by_cases h0:e2=0
   ·rw [hpl h0] at q5
    have k0:(e2=0)=True:=eq_true h0
    have ft:=And.intro b1 (And.intro b2 k0)
    exact Wk
   ·have k0:(e2=0)=False:=eq_false h0
    have ft:=And.intro b1 (And.intro b2 k0)
    exact Wk
 ·rw [decide_eq_false hl] at pL
  simp only [MM] at *
  refine PB (rs:=[.tmp 6]) Tryz.func4 ?_
  exact Wk
end Go.V
namespace Go.V
open Go Go.RowKit Go.Proofs
end Go.V
namespace Go.V
open Go Go.RowKit Go.Proofs
end Go.V
