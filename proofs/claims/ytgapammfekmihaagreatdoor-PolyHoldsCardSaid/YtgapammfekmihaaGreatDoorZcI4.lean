/- Package poly's Diff, and the document's. The document's Diff. Lists of numbers: which hold right ones alone; values of polynomials, plain. Package poly's At. The document's Value and At. Ranges of polynomials, plain; which boxes are right; a monomial over a box. Package poly's Range. The document's Range. -/
import Derived.Test.YtgapammfekmihaaGreatDoorZcI3
import Derived.Test.YtgapammfekmihaaGreatDoorZcI0
set_option linter.unusedSimpArgs false
set_option linter.unusedVariables false
set_option maxRecDepth 100000
namespace Go.V
open Go Go.RowKit Go.Proofs
def qQ16_36_8:PT:=(.lin [(0,0),(1,2),(2,0),(3,2),(4,0),(5,0),(6,2)] (.fork 7 4 (.lin [] (.fork 8 3 (.lin [(9,0),(10,0),(11,0),(12,4),(13,3),(14,0)] .nil) 12 4 (.lin [(8,3),(9,0),(10,0),(11,0),(13,3),(14,0)] .nil))) 12 4 (.lin [(7,4),(8,3),(9,0),(10,0),(11,0),(13,3),(14,0)] .nil)))
def qQ16_36_11:PT:=(.lin [(1,0),(2,2)] (.fork3 0 4 (.lin [] (.fork 3 3 (.lin [(4,0),(5,4),(6,3)] .nil) 5 4 (.lin [(3,3),(4,0),(6,3)] .nil))) 3 3 (.lin [] (.fork 0 4 (.lin [(4,0),(5,4),(6,3)] .nil) 5 4 (.lin [(0,4),(4,0),(6,3)] .nil))) 5 4 (.lin [] (.fork 0 4 (.lin [(3,3),(4,0),(6,3)] .nil) 3 3 (.lin [(0,4),(4,0),(6,3)] .nil)))))
attribute [go_sem] qQ16_36_8 qQ16_36_11
theorem wD_ok {k:Int} (h0:0≤k) (h8:k≤8):OkD (wD k):=by
 unfold wD
 exact (Sm.dy (neg:=decide (k<0)) (n:=k.natAbs) (e:=0) (by omega) (by decide) (by decide)).ok (by decide) (by decide)
set_option maxHeartbeats 4000000 in
theorem p_pDiff {q:List Mo} {i n:Int} (hq:WfM q):PC Tryz.prog 36 [MM q,i64 i,i64 n] fun d=>d=LM (difR q i n):=by
 have p1:=p_pRight (n:=n) hq
 have hqn:=hq.n
 unfold difR
 cases h1:polyB q n with
 | false =>
   rw [h1] at p1
   unfold MM at *
   have d1:=@dr 8 qQ16_36_8
   have d2:=@dr 11 qQ16_36_11
   refine PB (rs:=[.tmp 6,.tmp 7]) Tryz.func36 ?_
   exact Wk
 | true =>
   rw [h1] at p1
   by_cases h0:0≤i
   ·have k0:(i<0)=False:=eq_false (by omega)
    by_cases hin:i<n
    ·have k1:(n≤i)=False:=eq_false (by omega)
     obtain ⟨I0,rfl⟩:∃ I0:Nat,i=I0:=⟨i.toNat,by omega⟩
     rw [decide_eq_true h0,decide_eq_true hin]
     simp only [Bool.and_self,if_true,Int.toNat_natCast]
     rw [difR_is hq h1 hin]
     have pok:=polyB_ok h1
     have hno:=fun (t:Te) (ht:t ∈ difT q I0)=>okT_no ht
     have hn:=polyB_n h1
     have hlen:=polyB_len h1
     generalize hres:(if okT (difT q I0)=true then ((difT q I0).map moN,(0:Int)) else ([],2))=res
     have ry:okT (difT q I0)=true→res=((difT q I0).map moN,0):=fun h=>by rw [← hres,h];rfl
     have rno:∀ t ∈ difT q I0,¬ OkD t.v→res=([],2):=fun t ht hb=>by rw [← hres,hno t ht hb];rfl
     clear hres hno
     unfold MM at *
     have d1:=@dr 8 qQ16_36_8
     have d2:=@dr 11 qQ16_36_11
     refine PB (rs:=[.tmp 6,.tmp 7]) Tryz.func36 ?_
     have ft:=And.intro k0 k1
     repeat (first|(with_reducible first|refine pv_seq fun K hK=>?_|((first|refine hK _ _ ?_|(clear hK;refine hK _ _ ?_)|(clear hK;clear hK;refine hK _ _ ?_));clear hK;try clear K))| refine W ?_|exact Z|with_reducible intro b)
     have JF:∀ (e:DEnv) (S:Store),okT (difT q I0)=true→RowZ S (.l 69) 4 (e 8) (rS eM ((difT q I0).map moN))→K e S:=by
      intro e S hok hw
      have ry:=ry hok
      subst ry
      generalize (difT q I0).map moN=l at *
      have ft:=true_and
      repeat (first|(with_reducible first|refine pv_seq fun K hK=>?_|((first|refine hK _ _ ?_|(clear hK;refine hK _ _ ?_)|(clear hK;clear hK;refine hK _ _ ?_));clear hK;try clear K))| refine W0 ?_|exact Z|with_reducible intro b)
      exact hw.toD.coeD fun S' _ _=>rfl
     clear hK ry
     obtain ⟨I,mk,el⟩:=hide fun e S=>∃ k:Nat,k≤q.length∧e 1=i64 I0∧e 27=.g (eS eM q)∧e 28=i64 q.length∧e 29=i64 k∧RowZ S (.l 69) 4 (e 8) (rS eM ((difP q I0 k).map moN))∧∀ t ∈ difP q I0 k,OkD t.v
     refine pv_loop I (fun e _=>q.length - (intD (e 29)).toNat) ?_ ?_
     ·exact mk _ _ ⟨0,Nat.zero_le _,Zr,Zr,Zr,Zr,.inl ⟨Zr,rfl⟩,fun t ht=>by cases ht⟩
     ·intro e S hI
      obtain ⟨k,hk,g1,g27,g28,g29,hw,hz⟩:=el e S hI
      clear el hI
      have hm0:(intD (e 29)).toNat=k:=by rw [g29];exact Int.toNat_natCast k
      have ft:=And.intro g1 (And.intro g27 (And.intro g28 g29))
      repeat (first|(with_reducible first|refine pv_seq fun K hK=>?_|((first|refine hK _ _ ?_|(clear hK;refine hK _ _ ?_)|(clear hK;clear hK;refine hK _ _ ?_));clear hK;try clear K))| refine W0 ?_|exact Z|with_reducible intro b)
      refine pv_cdD (fun ht=>?_) (fun ht=>?_)
      ·have hkl:k<q.length:=by omega
       have q1:=gM_at hkl
       have ok1:=pok _ (gM_mem hkl)
       have wa:=hq.w _ (gM_mem hkl)
       have hma:=gM_mem hkl
       have hst:=difP_step (i:=I0) hkl
       have hpl:=difP_len (q:=q) (i:=I0) (k:=k)
       have mk2:∀ (e:DEnv) (S:Store),e 1=i64 I0→e 27=.g (eS eM q)→e 28=i64 q.length→e 29=i64 ((k + 1:Nat):Int)→RowZ S (.l 69) 4 (e 8) (rS eM ((difP q I0 (k + 1)).map moN))→(∀ t ∈ difP q I0 (k + 1),OkD t.v)→I e S:=fun e S a1 a2 a3 a4 a5 a6=>mk _ _ ⟨k + 1,by omega,a1,a2,a3,a4,a5,a6⟩
       clear mk JF
       have htm:td I0 (gM q k)=⟨(gM q k).c.val * wD ((gM q k).e.getD I0 0),dec (gM q k).e I0⟩:=rfl
       have hmt:(gM q k).e.getD I0 0≠0→td I0 (gM q k) ∈ difT q I0:=fun h=>List.mem_map.2 ⟨_,List.mem_filter.2 ⟨hma,decide_eq_true h⟩,rfl⟩
       have hin2:=fun h=>rno _ (hmt h)
       rw [htm] at hst hin2
       clear rno htm hmt hma
       obtain ⟨da,hda,hdc⟩:=right_is wa.c.b ok1.right
       have hva:(gM q k).c.val=da:=by rw [hdc,val_nuOf]
       rw [hva] at hst hin2
       have hs:=sum8_le ok1.nn ok1.sum
       have hlx:=ok1.len
       have q2:=zget (l:=(gM q k).e) (i:=I0) (by omega)
       have bx:=hs _ (List.mem_of_getElem? q2)
       have pI:=p_nInt (n:=(gM q k).e.getD I0 0) (by unfold R64;omega)
       have pM:=p_nMulD hda (wD_ok bx.1 bx.2)
       rw [← hdc] at pM
       unfold wD at pM hst hin2
       have hset:(rS eZ (gM q k).e).set I0 [i64 ((gM q k).e.getD I0 0 - 1)]=rS eZ (dec (gM q k).e I0):=rS_set rfl
       have hdl:=dec_len (e:=(gM q k).e) (i:=I0)
       generalize hx0:(gM q k).e.getD I0 0=x at *
       generalize dy (decide (x<0)) x.natAbs 0=wx at *
       generalize dec (gM q k).e I0=zd at *
       generalize gM q k=m at *
       obtain ⟨⟨n1,e1,w1⟩,z⟩:=m
       simp only at *
       have ft:=And.intro g1 (And.intro g27 (And.intro g29 g28))
       repeat (first|with_reducible refine pv_stopB 1 ?_|(with_reducible first|refine pv_seq fun K hK=>?_|((first|refine hK _ _ ?_|(clear hK;refine hK _ _ ?_)|(clear hK;clear hK;refine hK _ _ ?_));clear hK;try clear K))| refine W ?_|exact Z|with_reducible intro b)
       refine ⟨fun K1 q1' hC=>?_⟩
       by_cases hx:x=0
       ·have kx:(x=0)=True:=eq_true hx
        rw [if_pos hx] at hst
        have ft:=And.intro g1 (And.intro g27 (And.intro g28 (And.intro g29 (And.intro q1 (And.intro q2 kx)))))
        repeat (first|(with_reducible first|refine pv_seq fun K hK=>?_|((first|refine hK _ _ ?_|(clear hK;refine hK _ _ ?_)|(clear hK;clear hK;refine hK _ _ ?_));clear hK;try clear K))| refine W0 ?_|exact Z|with_reducible intro b)
        refine q1' _ _ ?_
        clear q1' hC
        repeat (first|(with_reducible first|refine pv_seq fun K hK=>?_|((first|refine hK _ _ ?_|(clear hK;refine hK _ _ ?_)|(clear hK;clear hK;refine hK _ _ ?_));clear hK;try clear K))| refine W0 ?_|exact Z|with_reducible intro b)
        exact ⟨mk2 _ _ Zr Zr Zr Zr (by rw [hst];exact hw.up (by simp only [updS_apply]<;>rfl)) (by rw [hst];exact hz),by simp only [intD];omega⟩
       ·have kx:(x=0)=False:=eq_false hx
        rw [if_neg hx] at hst
        have hin2:=hin2 hx
        have hap:(difP q I0 (k + 1)).map moN=(difP q I0 k).map moN ++ [⟨nuOf (da * wx),zd⟩]:=by rw [hst,List.map_append];rfl
        have hll:((difP q I0 k).map moN).length≤k:=by rw [List.length_map];exact hpl
        have hzn:OkD (da * wx)→∀ t ∈ difP q I0 (k + 1),OkD t.v:=fun h t ht=>by
         rw [hst] at ht
         rcases List.mem_append.1 ht with h1|h1
         ·exact hz t h1
         ·rw [List.mem_singleton.1 h1];exact h
        clear hst
        generalize (difP q I0 (k + 1)).map moN=L2 at *
        generalize (difP q I0 k).map moN=L at *
        generalize da * wx=v at *
        have hzp:0<z.length:=by omega
        have hz0:∀ k ∈ z,0≤k:=fun k hk=>(hs k hk).1
        by_cases hod:OkD v
        ·rw [numR_ok hod] at pM
         generalize nuOf v=u at *
         obtain ⟨n3,e3,w3⟩:=u
         have hnew:=rS_m (l:=L) (m:=⟨⟨n3,e3,w3⟩,zd⟩)
         rw [← hap] at hnew
         simp only at hnew
         generalize nuOf wx=uw at *
         obtain ⟨n2,e2,w2⟩:=uw
         unfold NE NU at pM
         unfold NU at pI
         simp only at pM pI
         have ft:=And.intro g1 (And.intro g27 (And.intro g28 (And.intro g29 (And.intro q1 (And.intro q2 kx)))))
         repeat (first|with_reducible refine pv_stop 8 ?_|(with_reducible first|refine pv_seq fun K hK=>?_|((first|refine hK _ _ ?_|(clear hK;refine hK _ _ ?_)|(clear hK;clear hK;refine hK _ _ ?_));clear hK;try clear K))| refine W ?_|exact Z|with_reducible intro b)
         refine ⟨fun K8 q8 _=>?_⟩
         have J8:∀ (f:DEnv) (S3:Store) (b10 b11:Nat),f 1=i64 I0→f 8=e 8→f 27=.g (eS eM q)→f 28=i64 q.length→f 29=i64 k→f 10=.ptr (.l 10) b10 0 0 4→f 11=.ptr (.l 11) b11 0 0 3→f 12=i64 0 →
          S3 (.l 10)=some ⟨b10,4,0,[[bl n1,i64 e1,W64 w1,.g (eS eZ z)]]⟩→S3 (.l 11)=some ⟨b11,3,0,[[bl n3,i64 e3,W64 w3]]⟩→S3 (.l 69)=S (.l 69)→K8 f S3:=by
          intro f S3 b10 b11 g1 g8 g27 g28 g29 g10 g11 g12 s10 s11 s69
          refine q8 _ _ ?_
          clear q8
          have ft:=And.intro g1 (And.intro g8 (And.intro g27 (And.intro g28 (And.intro g29 (And.intro g10 (And.intro g11 (And.intro g12 (And.intro s10 s11))))))))
          repeat (first|with_reducible refine pv_stop 11 ?_|(with_reducible first|refine pv_seq fun K hK=>?_|((first|refine hK _ _ ?_|(clear hK;refine hK _ _ ?_)|(clear hK;clear hK;refine hK _ _ ?_));clear hK;try clear K))| refine W ?_|exact Z|with_reducible intro b)
          refine ⟨fun K2 q2' _=>?_⟩
          have J2:∀ (f2:DEnv) (S2:Store) (b13 b9 cap:Nat),f2 1=i64 I0→f2 8=f 8→f2 27=.g (eS eM q)→f2 28=i64 q.length→f2 29=i64 k→f2 13=.ptr (.l 13) b13 0 0 4→S2 (.l 13)=some ⟨b13,4,0,[[bl n3,i64 e3,W64 w3,.own (.l 57) b9 0 z.length cap 1]]⟩→S2 (.l 57)=some ⟨b9,1,0,rS eZ z⟩→S2 (.l 69)=S3 (.l 69)→K2 f2 S2:=by
           intro f2 S2 b13 b9 cap g1 g8' g27 g28 g29 g13 s13 s57 s69'
           refine q2' _ _ ?_
           clear q2'
           have qz:(rS eZ z)[I0]? = some [i64 x]:=by rw [rS_get,q2];rfl
           have hw:=hw.up (s69'.trans s69)
           rw [← g8,← g8'] at hw
           have ft:=And.intro g1 (And.intro g27 (And.intro g28 (And.intro g29 (And.intro g13 (And.intro s13 (And.intro s57 qz))))))
           repeat (first|(with_reducible first|refine pv_seq fun K hK=>?_|((first|refine hK _ _ ?_|(clear hK;refine hK _ _ ?_)|(clear hK;clear hK;refine hK _ _ ?_));clear hK;try clear K))| refine W0 ?_|exact Z|with_reducible intro b)
           refine RowZ.appL (hw.up (by simp only [updS_apply]<;>rfl)) (by decide) rfl (by simp [D.one,W64]) ?_ ?_ fun d' S' hr' hS'=>?_
           ·rw [rS_len];simp;omega
           ·rw [rS_len];simp;omega
           repeat (first|(with_reducible first|refine pv_seq fun K hK=>?_|((first|refine hK _ _ ?_|(clear hK;refine hK _ _ ?_)|(clear hK;clear hK;refine hK _ _ ?_));clear hK;try clear K))| refine W0 ?_|exact Z|with_reducible intro b)
           have s57':=(hS' (.l 57) (by decide)).trans (show _=some ⟨b9,1,0,rS eZ zd⟩ by simp only [updS_apply];rw [← hset];rfl)
           refine hC _ _ (RowZ.frz (k3:=.l 57) 3 hr' rfl (by decide) s57' (gs:=zd.map eZ) (by rw [List.drop_zero,List.take_of_length_le (by rw [rS_len];omega)];exact pureLL_rS) (by rw [rS_len];omega) fun S4 hz2 hf hg2=>?_)
           refine q1' _ _ ?_
           clear q1' hC
           have ft:=And.intro g1 (And.intro g27 (And.intro g28 g29))
           repeat (first|(with_reducible first|refine pv_seq fun K hK=>?_|((first|refine hK _ _ ?_|(clear hK;refine hK _ _ ?_)|(clear hK;clear hK;refine hK _ _ ?_));clear hK;try clear K))| refine W0 ?_|exact Z|with_reducible intro b)
           exact ⟨mk2 _ _ Zr Zr Zr Zr (by rw [← hnew];exact hz2) (hzn hod),by simp only [intD];omega⟩
          clear q2'
          have ft:=And.intro g1 (And.intro g27 (And.intro g28 (And.intro g29 (And.intro g8 (And.intro g10 (And.intro g11 (And.intro g12 (And.intro s10 s11))))))))
          repeat (first|(with_reducible first|refine pv_seq fun K hK=>?_|((first|refine hK _ _ ?_|(clear hK;refine hK _ _ ?_)|(clear hK;clear hK;refine hK _ _ ?_));clear hK;try clear K))| refine W0 ?_|exact Z|with_reducible intro b)
          repeat' (first|(with_reducible first|refine pv_seq fun K hK=>?_|((first|refine hK _ _ ?_|(clear hK;refine hK _ _ ?_)|(clear hK;clear hK;refine hK _ _ ?_));clear hK;try clear K))| refine W ?_|exact Z|with_reducible intro b|with_reducible refine And.intro ?_ ?_|refine p_CloneX hz0 (by omega) hzp (.l 57) fun b9 cap=>?_|exact J2 _ _ _ _ _ Zr rfl Zr Zr Zr Zr (by simp only [updS_apply];rfl) (by simp only [updS_apply];rfl) (by simp only [updS_apply];rfl))
         clear q8
         have ft:=And.intro g1 (And.intro g27 (And.intro g29 (And.intro g28 (And.intro q1 q2))))
         repeat (first|(with_reducible first|refine pv_seq fun K hK=>?_|((first|refine hK _ _ ?_|(clear hK;refine hK _ _ ?_)|(clear hK;clear hK;refine hK _ _ ?_));clear hK;try clear K))| refine W0 ?_|exact Z|with_reducible intro b)
         repeat' (first|(with_reducible first|refine pv_seq fun K hK=>?_|((first|refine hK _ _ ?_|(clear hK;refine hK _ _ ?_)|(clear hK;clear hK;refine hK _ _ ?_));clear hK;try clear K))| refine W ?_|exact Z|with_reducible intro b|with_reducible refine And.intro ?_ ?_|exact J8 _ _ _ _ Zr rfl Zr Zr Zr Zr Zr Zr (by simp only [updS_apply];rfl) (by simp only [updS_apply];rfl) (by simp only [updS_apply];rfl))
        ·have hr:=hin2 hod
         subst hr
         have hnn:numR v=(nu0,2):=by unfold numR;rw [if_neg (show ¬ (nuOf v).Ok from hod)]
         rw [hnn] at pM
         generalize nuOf wx=uw at *
         obtain ⟨n2,e2,w2⟩:=uw
         unfold NE NU nu0 at pM
         unfold NU at pI
         simp only at pM pI
         have ft:=And.intro g1 (And.intro g27 (And.intro g28 (And.intro g29 (And.intro q1 (And.intro kx q2)))))
         exact Wk
      ·obtain rfl:k=q.length:=by omega
       rw [difP_all] at hw hz
       repeat (first|(with_reducible first|refine pv_seq fun K hK=>?_|((first|refine hK _ _ ?_|(clear hK;refine hK _ _ ?_)|(clear hK;clear hK;refine hK _ _ ?_));clear hK;try clear K))| refine W0 ?_|exact Z|with_reducible intro b)
       exact JF _ _ (decide_eq_true hz) hw
    ·have k1:(n≤i)=True:=eq_true (by omega)
     rw [decide_eq_false hin,Bool.and_false]
     unfold MM at *
     have d1:=@dr 8 qQ16_36_8
     have d2:=@dr 11 qQ16_36_11
     refine PB (rs:=[.tmp 6,.tmp 7]) Tryz.func36 ?_
     have ft:=And.intro k0 k1
     exact Wk
   ·have k0:(i<0)=True:=eq_true (by omega)
    rw [decide_eq_false h0,Bool.and_false]
    unfold MM at *
    have d1:=@dr 8 qQ16_36_8
    have d2:=@dr 11 qQ16_36_11
    refine PB (rs:=[.tmp 6,.tmp 7]) Tryz.func36 ?_
    have ft:=k0
    exact Wk
end Go.V
namespace Go.V
open Go Go.RowKit Go.Proofs
end Go.V
namespace Go.V
open Go Go.RowKit Go.Proofs
def UU (l:List Nu):D:=.g (eS eU l)
attribute [go_sem] eU_0
def gU (l:List Nu) (i:Nat):Nu:=l.getD i nu0
theorem gU_at {l:List Nu} {i:Nat} (h:i<l.length):l[i]? = some (gU l i):=by simp [gU,List.getD,List.getElem?_eq_getElem h]
theorem gU_mem {l:List Nu} {i:Nat} (h:i<l.length):gU l i ∈ l:=List.mem_of_getElem? (gU_at h)
structure WfU (l:List Nu):Prop where
 n:l.length≤100000
 w:∀ x ∈ l,Wl 65536 x
def allU (l:List Nu):Bool:=decide (∀ x ∈ l,rightB x=true)
theorem allU_no {l:List Nu} {i:Nat} (hi:i<l.length) (h:rightB (gU l i)=false):allU l=false:=decide_eq_false fun h2=>by rw [h2 _ (gU_mem hi)] at h;cases h
theorem allU_yes {l:List Nu} (h:∀ i,i<l.length→rightB (gU l i)=true):allU l=true:=decide_eq_true fun m hm=>by
 obtain ⟨i,hi⟩:=List.getElem?_of_mem hm
 have hil:i<l.length:=(List.getElem?_eq_some_iff.1 hi).1
 have:=h i hil
 rw [gU_at hil] at hi
 injection hi with hi
 rwa [hi] at this
theorem p_At1 {x:Nu} (hx:Wl 65536 x):PC Tryz.prog 75 [.agg [bl x.neg,i64 x.exp,W64 x.w]] fun d=>d=bl (!rightB x):=by
 have pR:=p_nRight hx.b
 generalize rightB x=r at *
 obtain ⟨n1,e1,w1⟩:=x
 unfold NU at pR
 simp only at pR
 cases r
 ·refine PB (rs:=[.tmp 2]) Tryz.func75 ?_
  exact Wk
 ·refine PB (rs:=[.tmp 2]) Tryz.func75 ?_
  exact Wk
set_option maxHeartbeats 1000000 in
theorem p_IndexU {q:List Nu} (hq:WfU q):PC Tryz.prog 116 [UU q,.fn 75 [] []] fun d=>∃ t:Int,d=i64 t∧(t = -1 ↔ allU q=true) ∧ -1≤t:=by
 have hqn:=hq.n
 unfold UU
 refine PB (rs:=[.tmp 4]) Tryz.func116 ?_
 repeat (first|(with_reducible first|refine pv_seq fun K hK=>?_|((first|refine hK _ _ ?_|(clear hK;refine hK _ _ ?_)|(clear hK;clear hK;refine hK _ _ ?_));clear hK;try clear K))| refine W0 ?_|exact Z|with_reducible intro b)
 obtain ⟨I,mk,el⟩:=hide fun e (T:Store)=>∃ i:Nat,i≤q.length∧e 0=.g (eS eU q)∧e 1=.fn 75 [] []∧e 6=.g (eS eU q)∧e 7=i64 q.length∧e 8=i64 i∧∀ j,j<i→rightB (gU q j)=true
 refine pv_loop I (fun e _=>q.length - (intD (e 8)).toNat) ?_ ?_
 ·exact mk _ _ ⟨0,Nat.zero_le _,Zr,Zr,Zr,Zr,Zr,fun j hj=>by omega⟩
 ·intro e T hI
  obtain ⟨i,hi,g0,g1,g6,g7,g8,hz⟩:=el e T hI
  clear el hI
  have ft:=And.intro g0 (And.intro g1 (And.intro g6 (And.intro g7 g8)))
  repeat (first|(with_reducible first|refine pv_seq fun K hK=>?_|((first|refine hK _ _ ?_|(clear hK;refine hK _ _ ?_)|(clear hK;clear hK;refine hK _ _ ?_));clear hK;try clear K))| refine W0 ?_|exact Z|with_reducible intro b)
  refine pv_cdD (fun ht=>?_) (fun ht=>?_)
  ·have hil:i<q.length:=by omega
   have q1:=gU_at hil
   have wm:=hq.w _ (gU_mem hil)
   have hb:=fun h=>allU_no hil h
   have hzs:rightB (gU q i)=true→∀ j,j<i + 1→rightB (gU q j)=true:=fun h j hj=>by
    rcases Nat.lt_or_ge j i with h3|h3
    ·exact hz j h3
    ·obtain rfl:j=i:=by omega
     exact h
   have pM:=p_At1 wm
   clear hz
   generalize gU q i=m at *
   obtain ⟨n1,e1,w1⟩:=m
   simp only at pM
   generalize rightB ⟨n1,e1,w1⟩=r at *
   cases r
   ·have ft:=And.intro g0 (And.intro g1 (And.intro g6 (And.intro g7 (And.intro g8 q1))))
    repeat (first|(with_reducible first|refine pv_seq fun K hK=>?_|((first|refine hK _ _ ?_|(clear hK;refine hK _ _ ?_)|(clear hK;clear hK;refine hK _ _ ?_));clear hK;try clear K))| refine W ?_|exact Z|with_reducible intro b)
    exact ⟨i,rfl,⟨fun h=>by omega,fun h=>by rw [hb rfl] at h;cases h⟩,by omega⟩
   ·have ft:=And.intro g0 (And.intro g1 (And.intro g6 (And.intro g7 (And.intro q1 g8))))
    repeat (first|(with_reducible first|refine pv_seq fun K hK=>?_|((first|refine hK _ _ ?_|(clear hK;refine hK _ _ ?_)|(clear hK;clear hK;refine hK _ _ ?_));clear hK;try clear K))| refine W ?_|exact Z|with_reducible intro b)
    exact ⟨mk _ _ ⟨i + 1,by omega,Zr,Zr,Zr,Zr,Zr,hzs rfl⟩,by simp only [intD];omega⟩
  ·obtain rfl:i=q.length:=by omega
   have hall:=allU_yes hz
   repeat (first|(with_reducible first|refine pv_seq fun K hK=>?_|((first|refine hK _ _ ?_|(clear hK;refine hK _ _ ?_)|(clear hK;clear hK;refine hK _ _ ?_));clear hK;try clear K))| refine W0 ?_|exact Z|with_reducible intro b)
   exact ⟨-1,rfl,⟨fun _=>hall,fun _=>rfl⟩,by omega⟩
theorem p_ContU {q:List Nu} (hq:WfU q):PC Tryz.prog 74 [UU q,.fn 75 [] []] fun d=>d=bl (!allU q):=by
 have pI:=p_IndexU hq
 unfold UU at *
 refine PB (rs:=[.tmp 4]) Tryz.func74 ?_
 repeat (first|(with_reducible first|refine pv_seq fun K hK=>?_|((first|refine hK _ _ ?_|(clear hK;refine hK _ _ ?_)|(clear hK;clear hK;refine hK _ _ ?_));clear hK;try clear K))| refine W0 ?_|exact Z|with_reducible intro b)
 refine call_pc pI ?_
 rintro d ⟨t,rfl,ht,h0⟩
 have hd:(0≤t)=((!allU q)=true):=by
  refine propext ⟨fun h=>?_,fun h=>?_⟩
  ·cases ha:allU q
   ·rfl
   ·have:=ht.2 ha;omega
  ·rcases Int.lt_or_le t 0 with h2|h2
   ·rw [ht.1 (by omega)] at h;cases h
   ·exact h2
 generalize (!allU q)=r at *
 have ft:=hd
 repeat (first|(with_reducible first|refine pv_seq fun K hK=>?_|((first|refine hK _ _ ?_|(clear hK;refine hK _ _ ?_)|(clear hK;clear hK;refine hK _ _ ?_));clear hK;try clear K))| refine W0 ?_|exact Z|with_reducible intro b)
 cases r<;>rfl
end Go.V
namespace Go.V
open Go Go.RowKit Go.Proofs
def qQ19_77_1:List (Nat × Nat):=[(0,0),(1,2),(2,0),(3,2),(4,0),(5,0),(6,2),(7,0),(8,2),(9,0),(10,0),(11,1),(12,0),(13,1),(14,4),(15,0),(16,3)]
def qQ19_32_13:List (Nat × Nat):=[(0,1),(1,0),(2,0),(3,0),(4,1),(5,3),(6,3)]
attribute [go_sem] qQ19_77_1 qQ19_32_13
def monV (c:Dyadic) (xs:List Nu) (e:List Int):Nat→Dyadic
 | 0=>c
 | i + 1=>monV c xs e i * powD (gU xs i).val (e.getD i 0).toNat
def valV (q:List Mo) (xs:List Nu):Nat→Dyadic
 | 0=>0
 | k + 1=>valV q xs k + monV (gM q k).c.val xs (gM q k).e xs.length
def atR (q:List Mo) (xs:List Nu):Nu × Int:=if polyB q xs.length && allU xs then numR (valV q xs q.length) else (nu0,1)
theorem Sy.lift {k p k' p':Nat} {x:Nu} (h:Sy k p x) (hp:p≤p') (hk:k + (p' - p)≤k'):Sy k' p' x:=by
 have h2:=h.sm.lift (p' - p)
 rw [show p + (p' - p)=p' by omega] at h2
 exact ⟨h.dg,by have:=h.lo;omega,by have:=h.hi;omega,h2.mono hk⟩
theorem p_eMulS {k H m J:Nat} {a b:Nu} (ha:Sy k H a) (hb:Sy m J b) (hk:k + H≤60000000) (hm:m + J≤60000000):PC Tryz.prog 77 [NU a,NU b] fun d=>∃ z,d=NU z∧Sy (k + m) (H + J) z∧z.val=a.val * b.val:=by
 have za:=ha.sz (K:=k + H) (by omega) (by omega)
 have zb:=hb.sz (K:=m + J) (by omega) (by omega)
 have sa:=ha.sm
 have sb:=hb.sm
 have l1:=ha.lo;have l2:=ha.hi;have l3:=hb.lo;have l4:=hb.hi
 obtain ⟨neg,exp,w⟩:=a
 obtain ⟨neg',exp',w'⟩:=b
 have l5:=za.len;have l6:=zb.len
 have hxb:=za.b;have hyb:=zb.b
 simp only at l1 l2 l3 l4 l5 l6 hxb hyb
 have hv:(⟨neg != neg',exp + exp',D64 (N64 w * N64 w')⟩:Nu).val=Nu.val ⟨neg,exp,w⟩ * Nu.val ⟨neg',exp',w'⟩:=by
  rw [val_mk];exact (dy_mul _ _ _ _ _ _).symm
 have hz:Sy (k + m) (H + J) ⟨neg != neg',exp + exp',D64 (N64 w * N64 w')⟩:=by
  refine ⟨(congrArg _ (nval_digs (by decide) _)).symm,by show -((H + J:Nat):Int)≤exp + exp';omega,by show exp + exp'≤((H + J:Nat):Int);omega,?_⟩
  rw [hv];exact sa.mul sb
 have d1:=@dl 1 qQ19_77_1
 refine PB (rs:=[.cell 4 41]) Tryz.func77 ?_
 repeat (first|(with_reducible first|refine pv_seq fun K hK=>?_|((first|refine hK _ _ ?_|(clear hK;refine hK _ _ ?_)|(clear hK;clear hK;refine hK _ _ ?_));clear hK;try clear K))| refine W0 ?_|exact Z|with_reducible intro b|refine call_is (by exact (p_Mul hxb hyb (by omega) (by omega))) ?_|(refine ExtC_is ?_;simp -implicitDefEqProofs only [ft,go_sem,seval];refine ext_is (by exact (p_Mul hxb hyb (by omega) (by omega))) ?_))
 exact ⟨_,rfl,hz,hv⟩
set_option maxHeartbeats 4000000 in
theorem p_pAt {q:List Mo} {xs:List Nu} (hq:WfM q) (hx:WfU xs):PC Tryz.prog 32 [MM q,UU xs] fun d=>d=NE (atR q xs):=by
 have p1:=p_pRight (n:=(xs.length:Int)) hq
 have p2:=p_ContU hx
 have hqn:=hq.n
 have hxn:=hx.n
 unfold atR
 cases h1:polyB q xs.length with
 | false =>
   rw [h1] at p1
   unfold MM UU at *
   have d1:=@dl 13 qQ19_32_13
   refine PB (rs:=[.cell 4 41,.tmp 5]) Tryz.func32 ?_
   exact Wk
 | true =>
   rw [h1] at p1
   cases h2:allU xs with
   | false =>
     rw [h2] at p2
     unfold MM UU at *
     have d1:=@dl 13 qQ19_32_13
     refine PB (rs:=[.cell 4 41,.tmp 5]) Tryz.func32 ?_
     exact Wk
   | true =>
     rw [h2] at p2
     have pok:=polyB_ok h1
     have hn:=polyB_n h1
     have hlen:=polyB_len h1
     have hxr:=of_decide_eq_true h2
     simp only [Bool.and_self,if_true]
     have hB:∀ m ∈ q,Sy 135168 65536 m.c:=fun m hm=>by
      obtain ⟨d,hd,hc⟩:=right_is (hq.w m hm).c.b (pok m hm).right
      rw [hc];exact hd.sy
     have hX:∀ i,i<xs.length→Sy 135168 65536 (gU xs i):=fun i hi=>by
      obtain ⟨d,hd,hc⟩:=right_is (hx.w _ (gU_mem hi)).b (hxr _ (gU_mem hi))
      rw [hc];exact hd.sy
     generalize hres:numR (valV q xs q.length)=res
     unfold MM UU at *
     have d1:=@dl 13 qQ19_32_13
     refine PB (rs:=[.cell 4 41,.tmp 5]) Tryz.func32 ?_
     repeat (first|(with_reducible first|refine pv_seq fun K hK=>?_|((first|refine hK _ _ ?_|(clear hK;refine hK _ _ ?_)|(clear hK;clear hK;refine hK _ _ ?_));clear hK;try clear K))| refine W0 ?_|exact Z|with_reducible intro b)
     refine (call_is p1 ?_)
     repeat (first|(with_reducible first|refine pv_seq fun K hK=>?_|((first|refine hK _ _ ?_|(clear hK;refine hK _ _ ?_)|(clear hK;clear hK;refine hK _ _ ?_));clear hK;try clear K))| refine W0 ?_|exact Z|with_reducible intro b)
     refine (call_is p2 ?_)
     repeat (first|with_reducible refine pv_stop 4 ?_|(with_reducible first|refine pv_seq fun K hK=>?_|((first|refine hK _ _ ?_|(clear hK;refine hK _ _ ?_)|(clear hK;clear hK;refine hK _ _ ?_));clear hK;try clear K))| refine W ?_|exact Z|with_reducible intro b)
     refine ⟨fun K4 q4 hC=>?_⟩
     repeat (first|(with_reducible first|refine pv_seq fun K hK=>?_|((first|refine hK _ _ ?_|(clear hK;refine hK _ _ ?_)|(clear hK;clear hK;refine hK _ _ ?_));clear hK;try clear K))| refine W0 ?_|exact Z|with_reducible intro b)
     refine hC _ _ (Recast.cell (k:=.l 6) (i:=0) (j:=2) (d':=W64 []) (by simp only [updS_apply];rfl) rfl rfl (fun I H v hv=>nil_row hv) ?_)
     refine q4 _ _ ?_
     clear q4 hC
     repeat (first|(with_reducible first|refine pv_seq fun K hK=>?_|((first|refine hK _ _ ?_|(clear hK;refine hK _ _ ?_)|(clear hK;clear hK;refine hK _ _ ?_));clear hK;try clear K))| refine W0 ?_|exact Z|with_reducible intro b)
     have JF:∀ (e:DEnv) (S:Store) (b4 b6:Nat) (t:Nu),e 4=.ptr (.l 4) b4 0 0 3→e 6=.ptr (.l 6) b6 0 0 3→S (.l 4)=some ⟨b4,3,0,[[bl false,i64 0,.nil]]⟩→S (.l 6)=some ⟨b6,3,0,[[bl t.neg,i64 t.exp,W64 t.w]]⟩→Sy (1806336 + q.length) 589824 t→t.val=valV q xs q.length→K e S:=by
      intro e S b4 b6 t g4 g6 s4 s6 hs hv
      have hz:=hs.sz (K:=3000000) (by omega) (by omega)
      have pM:=p_nMake (neg:=t.neg) (w:=t.w) (e:=t.exp) hz.b (by have:=hz.len;omega) (by have:=hz.lo;have:=hz.hi;unfold R64;omega)
      have e1:dy t.neg (N64 t.w) t.exp=t.val:=rfl
      rw [e1,hv,hres] at pM
      clear hv hs hz e1
      obtain ⟨n1,e1,w1⟩:=t
      obtain ⟨⟨n2,e2,w2⟩,er⟩:=res
      unfold NE NU at *
      have ft:=And.intro g4 (And.intro g6 (And.intro s4 s6))
      exact Wk
     clear hK hres
     obtain ⟨I,mk,el⟩:=hide fun e S=>∃ (k b4 b6:Nat) (t:Nu),k≤q.length∧e 1=.g (eS eU xs)∧e 4=.ptr (.l 4) b4 0 0 3∧e 6=.ptr (.l 6) b6 0 0 3∧e 22=.g (eS eM q)∧e 23=i64 q.length∧e 24=i64 k∧S (.l 4)=some ⟨b4,3,0,[[bl false,i64 0,.nil]]⟩∧S (.l 6)=some ⟨b6,3,0,[[bl t.neg,i64 t.exp,W64 t.w]]⟩∧Sy (1806336 + k) 589824 t∧t.val=valV q xs k
     refine pv_loop I (fun e _=>q.length - (intD (e 24)).toNat) ?_ ?_
     ·have h0:Nu.val nu0=0:=dy0 _ _
      exact mk _ _ ⟨0,_,_,nu0,Nat.zero_le _,Zr,rfl,rfl,Zr,Zr,Zr,by simp only [updS_apply];rfl,by simp only [updS_apply];rfl,Sy.zero,h0⟩
     ·intro e S hI
      obtain ⟨k,b4,b6,t,hk,g1,g4,g6,g22,g23,g24,s4,s6,hst,hvt⟩:=el e S hI
      clear el hI
      have hm0:(intD (e 24)).toNat=k:=by rw [g24];exact Int.toNat_natCast k
      have ft:=And.intro g1 (And.intro g4 (And.intro g6 (And.intro g22 (And.intro g23 (And.intro g24 (And.intro s4 s6))))))
      repeat (first|(with_reducible first|refine pv_seq fun K hK=>?_|((first|refine hK _ _ ?_|(clear hK;refine hK _ _ ?_)|(clear hK;clear hK;refine hK _ _ ?_));clear hK;try clear K))| refine W0 ?_|exact Z|with_reducible intro b)
      refine pv_cdD (fun ht=>?_) (fun ht=>?_)
      ·have hkl:k<q.length:=by omega
       have q1:=gM_at hkl
       have ok1:=pok _ (gM_mem hkl)
       have hbm:=hB _ (gM_mem hkl)
       have hvs:valV q xs (k + 1)=valV q xs k + monV (gM q k).c.val xs (gM q k).e xs.length:=rfl
       have mk2:∀ (e:DEnv) (S:Store) (t:Nu),e 1=.g (eS eU xs)→e 4=.ptr (.l 4) b4 0 0 3→e 6=.ptr (.l 6) b6 0 0 3→e 22=.g (eS eM q)→e 23=i64 q.length→e 24=i64 ((k + 1:Nat):Int)→S (.l 4)=some ⟨b4,3,0,[[bl false,i64 0,.nil]]⟩→S (.l 6)=some ⟨b6,3,0,[[bl t.neg,i64 t.exp,W64 t.w]]⟩→Sy (1806336 + (k + 1)) 589824 t→t.val=valV q xs (k + 1)→I e S:=fun e S t a1 a2 a3 a4 a5 a6 a7 a8 a9 a10=>mk _ _ ⟨k + 1,b4,b6,t,by omega,a1,a2,a3,a4,a5,a6,a7,a8,a9,a10⟩
       clear mk JF
       have hln:=ok1.len
       have hnn:=ok1.nn
       have hsum:=ok1.sum
       generalize gM q k=m at *
       obtain ⟨c,z⟩:=m
       simp only at *
       have hT:=fun i=>sum_take_le (l:=z) i hnn
       have hT0:∀ i,0≤(z.take i).sum:=fun i=>by
        have:=sum_take_le (l:=z.take i) 0 (fun x hx=>hnn x (List.mem_of_mem_take hx))
        simpa using this
       have ft:=And.intro g1 (And.intro g4 (And.intro g6 (And.intro g22 (And.intro g23 (And.intro g24 (And.intro s4 (And.intro s6 q1)))))))
       repeat (first|(with_reducible first|refine pv_seq fun K hK=>?_|((first|refine hK _ _ ?_|(clear hK;refine hK _ _ ?_)|(clear hK;clear hK;refine hK _ _ ?_));clear hK;try clear K))| refine W0 ?_|exact Z|with_reducible intro b)
       have JE:∀ (e:DEnv) (S:Store) (b9:Nat) (v:Nu),e 1=.g (eS eU xs)→e 4=.ptr (.l 4) b4 0 0 3→e 6=.ptr (.l 6) b6 0 0 3→e 9=.ptr (.l 9) b9 0 0 3→e 22=.g (eS eM q)→e 23=i64 q.length→e 24=i64 k→S (.l 4)=some ⟨b4,3,0,[[bl false,i64 0,.nil]]⟩→S (.l 6)=some ⟨b6,3,0,[[bl t.neg,i64 t.exp,W64 t.w]]⟩→S (.l 9)=some ⟨b9,3,0,[[bl v.neg,i64 v.exp,W64 v.w]]⟩ →
        Sy 1806336 589824 v→v.val=monV c.val xs z xs.length→K e S:=by
        intro f S2 b9 v g1 g4 g6 g9 g22 g23 g24 s4 s6 s9 hs hv
        have pA:=p_eAddS hst (hs.mono (k':=1806336 + k) (by omega)) (by omega) (by omega)
        rw [hvt,hv,← hvs] at pA
        clear hvs hs hv hst hvt
        obtain ⟨n1,e1,w1⟩:=t
        obtain ⟨n2,e2,w2⟩:=v
        unfold NU at pA
        simp only at pA
        have ft:=And.intro g1 (And.intro g4 (And.intro g6 (And.intro g9 (And.intro g22 (And.intro g23 (And.intro g24 (And.intro s4 (And.intro s6 s9))))))))
        repeat (first|(with_reducible first|refine pv_seq fun K hK=>?_|((first|refine hK _ _ ?_|(clear hK;refine hK _ _ ?_)|(clear hK;clear hK;refine hK _ _ ?_));clear hK;try clear K))| refine W0 ?_|exact Z|with_reducible intro b)
        refine call_pc pA ?_
        rintro d ⟨y,rfl,hy,hyv⟩
        obtain ⟨n3,e3,w3⟩:=y
        repeat (first|(with_reducible first|refine pv_seq fun K hK=>?_|((first|refine hK _ _ ?_|(clear hK;refine hK _ _ ?_)|(clear hK;clear hK;refine hK _ _ ?_));clear hK;try clear K))| refine W0 ?_|exact Z|with_reducible intro b)
        exact ⟨mk2 _ _ ⟨n3,e3,w3⟩ Zr Zr Zr Zr Zr Zr (by simp only [updS_apply];exact s4) (by simp only [updS_apply];rfl) hy hyv,by rw [hm0];simp only [intD];omega⟩
       clear hK mk2 hvs
       have hzl:z.length=xs.length:=by omega
       obtain ⟨I2,mk3,el2⟩:=hide fun e S=>∃ (i u b9:Nat) (v:Nu),i≤z.length∧(u:Int)=(z.take i).sum∧e 1=.g (eS eU xs)∧e 4=.ptr (.l 4) b4 0 0 3∧e 6=.ptr (.l 6) b6 0 0 3∧e 9=.ptr (.l 9) b9 0 0 3∧e 22=.g (eS eM q)∧e 23=i64 q.length∧e 24=i64 k∧e 31=.g (eS eZ z)∧e 32=i64 z.length∧e 33=i64 i∧S (.l 4)=some ⟨b4,3,0,[[bl false,i64 0,.nil]]⟩∧S (.l 6)=some ⟨b6,3,0,[[bl t.neg,i64 t.exp,W64 t.w]]⟩∧S (.l 9)=some ⟨b9,3,0,[[bl v.neg,i64 v.exp,W64 v.w]]⟩∧Sy (135168 * (1 + u)) (65536 * (1 + u)) v∧v.val=monV c.val xs z i
       refine pv_loop I2 (fun e _=>z.length - (intD (e 33)).toNat) ?_ ?_
       ·have ft:=And.intro g1 (And.intro g4 (And.intro g6 (And.intro g22 (And.intro g23 (And.intro g24 (And.intro s6 (And.intro s4 q1)))))))
        exact mk3 _ _ ⟨0,0,_,c,Nat.zero_le _,rfl,Zr,Zr,Zr,rfl,Zr,Zr,Zr,Zr,Zr,Zr,by simp only [updS_apply];exact s4,by simp only [updS_apply];exact s6,by simp only [updS_apply];rfl,hbm,rfl⟩
       ·intro e S hI
        obtain ⟨i,u,b9,v,hi,hu,g1,g4,g6,g9,g22,g23,g24,g31,g32,g33,s4,s6,s9,hs,hv⟩:=el2 e S hI
        clear el2 hI
        have hm2:(intD (e 33)).toNat=i:=by rw [g33];exact Int.toNat_natCast i
        have ft:=And.intro g1 (And.intro g4 (And.intro g6 (And.intro g9 (And.intro g22 (And.intro g23 (And.intro g24 (And.intro g31 (And.intro g32 (And.intro g33 (And.intro s4 (And.intro s6 s9)))))))))))
        repeat (first|(with_reducible first|refine pv_seq fun K hK=>?_|((first|refine hK _ _ ?_|(clear hK;refine hK _ _ ?_)|(clear hK;clear hK;refine hK _ _ ?_));clear hK;try clear K))| refine W0 ?_|exact Z|with_reducible intro b)
        refine pv_cdD (fun ht=>?_) (fun ht=>?_)
        ·have hil:i<z.length:=by omega
         have q2:=zget hil
         have q3:=gU_at (l:=xs) (i:=i) (by omega)
         have hxi:=hX i (by omega)
         have hmv:monV c.val xs z (i + 1)=monV c.val xs z i * powD (gU xs i).val (z.getD i 0).toNat:=rfl
         have hTs:=sum_take_succ q2
         have hT8:=hT (i + 1)
         have hz0:=hnn _ (List.mem_of_getElem? q2)
         rw [hTs,← hu] at hT8
         have mk4:∀ (e:DEnv) (S:Store) (u2 b9:Nat) (v:Nu),(u2:Int)=(z.take i).sum + z.getD i 0→e 1=.g (eS eU xs)→e 4=.ptr (.l 4) b4 0 0 3→e 6=.ptr (.l 6) b6 0 0 3→e 9=.ptr (.l 9) b9 0 0 3→e 22=.g (eS eM q)→e 23=i64 q.length→e 24=i64 k→e 31=.g (eS eZ z)→e 32=i64 z.length→e 33=i64 ((i + 1:Nat):Int)→S (.l 4)=some ⟨b4,3,0,[[bl false,i64 0,.nil]]⟩→S (.l 6)=some ⟨b6,3,0,[[bl t.neg,i64 t.exp,W64 t.w]]⟩→S (.l 9)=some ⟨b9,3,0,[[bl v.neg,i64 v.exp,W64 v.w]]⟩→Sy (135168 * (1 + u2)) (65536 * (1 + u2)) v→v.val=monV c.val xs z (i + 1)→I2 e S :=
          fun e S u2 b9 v a0 a1 a2 a3 a4 a5 a6 a7 a8 a9 a10 a11 a12 a13 a14 a15=>mk3 _ _ ⟨i + 1,u2,b9,v,by omega,by rw [hTs];exact a0,a1,a2,a3,a4,a5,a6,a7,a8,a9,a10,a11,a12,a13,a14,a15⟩
         clear mk3 JE hTs
         rw [← hu] at mk4
         generalize monV c.val xs z (i + 1)=mv1 at *
         generalize monV c.val xs z i=mv at *
         generalize z.getD i 0=x at *
         obtain ⟨kk,rfl⟩:∃ kk:Nat,x=kk:=⟨x.toNat,by omega⟩
         rw [Int.toNat_natCast] at hmv
         generalize hgx:gU xs i=xi at *
         have ft:=And.intro g1 (And.intro g4 (And.intro g6 (And.intro g9 (And.intro g22 (And.intro g23 (And.intro g24 (And.intro g31 (And.intro g32 (And.intro g33 (And.intro s4 (And.intro s6 (And.intro s9 q2))))))))))))
         repeat (first|(with_reducible first|refine pv_seq fun K hK=>?_|((first|refine hK _ _ ?_|(clear hK;refine hK _ _ ?_)|(clear hK;clear hK;refine hK _ _ ?_));clear hK;try clear K))| refine W0 ?_|exact Z|with_reducible intro b)
         obtain ⟨I3,mk5,el3⟩:=hide fun e S=>∃ (j b9:Nat) (v:Nu),j≤kk∧e 1=.g (eS eU xs)∧e 4=.ptr (.l 4) b4 0 0 3∧e 6=.ptr (.l 6) b6 0 0 3∧e 9=.ptr (.l 9) b9 0 0 3∧e 10=i64 i∧e 22=.g (eS eM q)∧e 23=i64 q.length∧e 24=i64 k∧e 31=.g (eS eZ z)∧e 32=i64 z.length∧e 33=i64 i∧e 38=i64 kk∧e 39=i64 j∧S (.l 4)=some ⟨b4,3,0,[[bl false,i64 0,.nil]]⟩∧S (.l 6)=some ⟨b6,3,0,[[bl t.neg,i64 t.exp,W64 t.w]]⟩∧S (.l 9)=some ⟨b9,3,0,[[bl v.neg,i64 v.exp,W64 v.w]]⟩∧Sy (135168 * (1 + u + j)) (65536 * (1 + u + j)) v∧v.val=mv * powD xi.val j
         refine pv_loop I3 (fun e _=>kk - (intD (e 39)).toNat) ?_ ?_
         ·exact mk5 _ _ ⟨0,b9,v,Nat.zero_le _,Zr,Zr,Zr,Zr,Zr,Zr,Zr,Zr,Zr,Zr,Zr,Zr,Zr,s4,s6,s9,hs,by rw [hv];exact (Dyadic.mul_one _).symm⟩
         ·clear hs hv s4 s6 s9
          intro e S hI
          obtain ⟨j,b9,v,hj,g1,g4,g6,g9,g10,g22,g23,g24,g31,g32,g33,g38,g39,s4,s6,s9,hs,hv⟩:=el3 e S hI
          clear el3 hI
          have ft:=And.intro g1 (And.intro g4 (And.intro g6 (And.intro g9 (And.intro g10 (And.intro g22 (And.intro g23 (And.intro g24 (And.intro g31 (And.intro g32 (And.intro g33 (And.intro g38 (And.intro g39 (And.intro s4 (And.intro s6 s9))))))))))))))
          repeat (first|(with_reducible first|refine pv_seq fun K hK=>?_|((first|refine hK _ _ ?_|(clear hK;refine hK _ _ ?_)|(clear hK;clear hK;refine hK _ _ ?_));clear hK;try clear K))| refine W0 ?_|exact Z|with_reducible intro b)
          refine pv_cdD (fun ht=>?_) (fun ht=>?_)
          ·have pM:=p_eMulS hs hxi (by omega) (by decide)
           rw [hv,Dyadic.mul_assoc,show powD xi.val j * xi.val=powD xi.val (j + 1) from rfl] at pM
           have mk6:=fun e S=>mk5 e S
           clear hmv
           obtain ⟨n1,e1,w1⟩:=v
           obtain ⟨n2,e2,w2⟩:=xi
           unfold NU at pM
           simp only at pM
           have ft:=And.intro g1 (And.intro g4 (And.intro g6 (And.intro g9 (And.intro g10 (And.intro g22 (And.intro g23 (And.intro g24 (And.intro g31 (And.intro g32 (And.intro g33 (And.intro g38 (And.intro g39 (And.intro s4 (And.intro s6 (And.intro s9 q3)))))))))))))))
           repeat (first|(with_reducible first|refine pv_seq fun K hK=>?_|((first|refine hK _ _ ?_|(clear hK;refine hK _ _ ?_)|(clear hK;clear hK;refine hK _ _ ?_));clear hK;try clear K))| refine W0 ?_|exact Z|with_reducible intro b)
           refine call_pc pM ?_
           rintro d ⟨y,rfl,hy,hyv⟩
           obtain ⟨n3,e3,w3⟩:=y
           repeat (first|(with_reducible first|refine pv_seq fun K hK=>?_|((first|refine hK _ _ ?_|(clear hK;refine hK _ _ ?_)|(clear hK;clear hK;refine hK _ _ ?_));clear hK;try clear K))| refine W0 ?_|exact Z|with_reducible intro b)
           exact ⟨mk5 _ _ ⟨j + 1,b9,⟨n3,e3,w3⟩,by omega,Zr,Zr,Zr,Zr,Zr,Zr,Zr,Zr,Zr,Zr,Zr,Zr,Zr,by simp only [updS_apply];exact s4,by simp only [updS_apply];exact s6,by simp only [updS_apply];rfl,hy.lift (by omega) (by omega),hyv⟩,by simp only [intD];omega⟩
          ·obtain rfl:j=kk:=by omega
           have ft:=And.intro g1 (And.intro g4 (And.intro g6 (And.intro g9 (And.intro g10 (And.intro g22 (And.intro g23 (And.intro g24 (And.intro g31 (And.intro g32 (And.intro g33 (And.intro g38 g39)))))))))))
           repeat (first|(with_reducible first|refine pv_seq fun K hK=>?_|((first|refine hK _ _ ?_|(clear hK;refine hK _ _ ?_)|(clear hK;clear hK;refine hK _ _ ?_));clear hK;try clear K))| refine W0 ?_|exact Z|with_reducible intro b)
           exact ⟨mk4 _ _ (u + j) b9 v (by omega) Zr Zr Zr Zr Zr Zr Zr Zr Zr Zr s4 s6 s9 (hs.lift (by omega) (by omega)) (by rw [hv,hmv]),by rw [hm2];simp only [intD];omega⟩
        ·obtain rfl:i=z.length:=by omega
         rw [List.take_length] at hu
         have ft:=And.intro g1 (And.intro g4 (And.intro g6 (And.intro g9 (And.intro g22 (And.intro g23 (And.intro g24 (And.intro g31 (And.intro s4 (And.intro s6 s9)))))))))
         repeat (first|(with_reducible first|refine pv_seq fun K hK=>?_|((first|refine hK _ _ ?_|(clear hK;refine hK _ _ ?_)|(clear hK;clear hK;refine hK _ _ ?_));clear hK;try clear K))| refine W0 ?_|exact Z|with_reducible intro b)
         refine JE _ _ b9 v Zr Zr Zr Zr Zr Zr Zr s4 s6 s9 (hs.lift (by omega) (by omega)) (by rw [hv,hzl])
      ·obtain rfl:k=q.length:=by omega
       have ft:=And.intro g1 (And.intro g4 (And.intro g6 (And.intro g22 (And.intro g23 g24))))
       repeat (first|(with_reducible first|refine pv_seq fun K hK=>?_|((first|refine hK _ _ ?_|(clear hK;refine hK _ _ ?_)|(clear hK;clear hK;refine hK _ _ ?_));clear hK;try clear K))| refine W0 ?_|exact Z|with_reducible intro b)
       exact JF _ _ _ _ t g4 g6 s4 s6 hst hvt
end Go.V
namespace Go.V
open Go Go.RowKit Go.Proofs
def qQ20_109_9:List (Nat × Nat):=[(0,2),(1,0),(2,0),(3,0),(4,1),(6,0),(7,0),(8,0),(9,0),(10,2),(11,0),(12,0),(13,2),(5,4),(14,4),(15,3),(16,3)]
attribute [go_sem] qQ20_109_9
structure PtOk (q:List Mo) (xs:List Nu):Prop where
 wq:WfM q
 wx:WfU xs
 pq:polyB q xs.length=true
 px:allU xs=true
theorem PtOk.x {q:List Mo} {xs:List Nu} (h:PtOk q xs) {i:Nat} (hi:i<xs.length):∃ d,OkD d∧gU xs i=nuOf d∧(gU xs i).val=d:=by
 obtain ⟨d,hd,hc⟩:=right_is (h.wx.w _ (gU_mem hi)).b (of_decide_eq_true h.px _ (gU_mem hi))
 exact ⟨d,hd,hc,by rw [hc,val_nuOf]⟩
theorem PtOk.c {q:List Mo} {xs:List Nu} (h:PtOk q xs) {m:Mo} (hm:m ∈ q):∃ d,OkD d∧m.c=nuOf d∧m.c.val=d:=by
 obtain ⟨d,hd,hc⟩:=right_is (h.wq.w m hm).c.b (polyB_ok h.pq m hm).right
 exact ⟨d,hd,hc,by rw [hc,val_nuOf]⟩
theorem monV_sm {q:List Mo} {xs:List Nu} (h:PtOk q xs) {m:Mo} (hm:m ∈ q):∀ i,i≤xs.length→∃ u:Nat,(u:Int)=(m.e.take i).sum∧u≤8∧Sm (135168 * (1 + u) + i) (65536 * (1 + u)) (monV m.c.val xs m.e i)
 | 0,_=>by
   obtain ⟨d,hd,_,hv⟩:=h.c hm
   exact ⟨0,rfl,by omega,by show Sm _ _ m.c.val;rw [hv];exact okD_sm hd⟩
 | i + 1,hi=>by
   obtain ⟨u,hu,hu8,hs⟩:=monV_sm h hm i (by omega)
   have ok1:=polyB_ok h.pq m hm
   have hl:=ok1.len
   have q2:=zget (l:=m.e) (i:=i) (by omega)
   have hz0:=ok1.nn _ (List.mem_of_getElem? q2)
   have hTs:=sum_take_succ q2
   have hT8:=sum_take_le (l:=m.e) (i + 1) ok1.nn
   have h8:=ok1.sum
   obtain ⟨d,hd,_,hv⟩:=h.x (i:=i) (by omega)
   obtain ⟨kk,hk⟩:∃ kk:Nat,m.e.getD i 0=kk:=⟨(m.e.getD i 0).toNat,by omega⟩
   rw [hTs,hk]
   refine ⟨u + kk,by omega,by omega,?_⟩
   show Sm _ _ (monV m.c.val xs m.e i * powD (gU xs i).val (m.e.getD i 0).toNat)
   rw [hv,hk,Int.toNat_natCast]
   have:=hs.mul (powD_sm (okD_sm hd) kk)
   rw [show 65536 * (1 + u) + 65536 * kk=65536 * (1 + (u + kk)) by omega] at this
   exact this.mono (by omega)
theorem monV_smA {q:List Mo} {xs:List Nu} (h:PtOk q xs) {m:Mo} (hm:m ∈ q):Sm 1806340 589824 (monV m.c.val xs m.e xs.length):=by
 obtain ⟨u,_,hu,hs⟩:=monV_sm h hm xs.length (Nat.le_refl _)
 have hn:=polyB_n h.pq
 have:=hs.lift (589824 - 65536 * (1 + u))
 rw [show 65536 * (1 + u) + (589824 - 65536 * (1 + u))=589824 by omega] at this
 exact this.mono (by omega)
theorem valV_sm {q:List Mo} {xs:List Nu} (h:PtOk q xs):∀ k,k≤q.length→Sm (1806340 + k) 589824 (valV q xs k)
 | 0,_=>Sm.zero
 | k + 1,hk=>((valV_sm h k (by omega)).add ((monV_smA h (gM_mem (by omega:k<q.length))).mono (by omega)))
theorem Recast.z3w {N:DEnv→Store→Prop} {e:DEnv} {S:Store} {k:Nm} {b:Nat} (hk:S k=some ⟨b,3,0,[[bl false,.nil,i64 0]]⟩) (h:N e (updS S k (some ⟨b,3,0,[[bl (fS 0),W32 (D32 (fN 0)),i64 (fE 0)]]⟩))):Recast N e S :=
 Recast.cell (i:=0) (j:=1) (es:=[bl false,.nil,i64 0]) (d:=.nil) (d':=W32 []) hk rfl rfl (fun I H v hv=>nil_row hv) (by
  have:[bl (fS 0),W32 (D32 (fN 0)),i64 (fE 0)]=[bl false,W32 [],i64 0]:=by rw [fN_zero,fE_zero,D32_0];rfl
  rw [this] at h;exact h)
set_option maxHeartbeats 4000000 in
theorem p_rValue {q:List Mo} {xs:List Nu} (h:PtOk q xs):PC Tryz.prog 109 [MM q,UU xs] fun d=>d=VA (valV q xs q.length):=by
 have hqn:=h.wq.n
 have hxn:=h.wx.n
 have pok:=polyB_ok h.pq
 have hn:=polyB_n h.pq
 have hlen:=polyB_len h.pq
 unfold MM UU VA
 have d1:=@dl 9 qQ20_109_9
 refine PB (rs:=[.cell 4 90]) Tryz.func109 ?_
 repeat (first|with_reducible refine pv_stop 2 ?_|(with_reducible first|refine pv_seq fun K hK=>?_|((first|refine hK _ _ ?_|(clear hK;refine hK _ _ ?_)|(clear hK;clear hK;refine hK _ _ ?_));clear hK;try clear K))| refine W ?_|exact Z|with_reducible intro b)
 refine ⟨fun K4 q4 hC=>?_⟩
 repeat (first|(with_reducible first|refine pv_seq fun K hK=>?_|((first|refine hK _ _ ?_|(clear hK;refine hK _ _ ?_)|(clear hK;clear hK;refine hK _ _ ?_));clear hK;try clear K))| refine W0 ?_|exact Z|with_reducible intro b)
 refine hC _ _ (Recast.z3w (k:=.l 5) (by simp only [updS_apply];rfl) ?_)
 refine q4 _ _ ?_
 clear q4 hC
 repeat (first|(with_reducible first|refine pv_seq fun K hK=>?_|((first|refine hK _ _ ?_|(clear hK;refine hK _ _ ?_)|(clear hK;clear hK;refine hK _ _ ?_));clear hK;try clear K))| refine W0 ?_|exact Z|with_reducible intro b)
 obtain ⟨I,mk,el⟩:=hide fun e S=>∃ (k b4 b5:Nat),k≤q.length∧e 0=.g (eS eM q)∧e 1=.g (eS eU xs)∧e 4=.ptr (.l 4) b4 0 0 3∧e 5=.ptr (.l 5) b5 0 0 3∧e 6=i64 k∧S (.l 4)=some ⟨b4,3,0,[[bl false,.nil,i64 0]]⟩∧S (.l 5)=some ⟨b5,3,0,[[bl (fS (valV q xs k)),W32 (D32 (fN (valV q xs k))),i64 (fE (valV q xs k))]]⟩
 refine pv_loop I (fun e _=>q.length - (intD (e 6)).toNat) ?_ ?_
 ·exact mk _ _ ⟨0,_,_,Nat.zero_le _,Zr,Zr,rfl,rfl,Zr,by simp only [updS_apply];rfl,by simp only [updS_apply];rfl⟩
 ·intro e S hI
  obtain ⟨k,b4,b5,hk,g0,g1,g4,g5,g6,s4,s5⟩:=el e S hI
  clear el hI
  have hm0:(intD (e 6)).toNat=k:=by rw [g6];exact Int.toNat_natCast k
  have ft:=And.intro g0 (And.intro g1 (And.intro g4 (And.intro g5 (And.intro g6 (And.intro s4 s5)))))
  repeat (first|(with_reducible first|refine pv_seq fun K hK=>?_|((first|refine hK _ _ ?_|(clear hK;refine hK _ _ ?_)|(clear hK;clear hK;refine hK _ _ ?_));clear hK;try clear K))| refine W0 ?_|exact Z|with_reducible intro b)
  refine pv_cdD (fun ht=>?_) (fun ht=>?_)
  ·have hkl:k<q.length:=by omega
   have q1:=gM_at hkl
   have ok1:=pok _ (gM_mem hkl)
   have hvs:valV q xs (k + 1)=valV q xs k + monV (gM q k).c.val xs (gM q k).e xs.length:=rfl
   have mk2:∀ (e:DEnv) (S:Store) (v:Dyadic),v=valV q xs (k + 1)→e 0=.g (eS eM q)→e 1=.g (eS eU xs)→e 4=.ptr (.l 4) b4 0 0 3→e 5=.ptr (.l 5) b5 0 0 3→e 6=i64 ((k + 1:Nat):Int)→S (.l 4)=some ⟨b4,3,0,[[bl false,.nil,i64 0]]⟩→S (.l 5)=some ⟨b5,3,0,[[bl (fS v),W32 (D32 (fN v)),i64 (fE v)]]⟩→I e S:=fun e S v hv a1 a2 a3 a4 a5 a6 a7=>by
    subst hv
    exact mk _ _ ⟨k + 1,b4,b5,by omega,a1,a2,a3,a4,a5,a6,a7⟩
   clear mk
   have pP:=p_rPlus ((valV_sm h k (by omega)).bd.mono (m:=4000000) (by omega)) ((monV_smA h (gM_mem hkl)).bd.mono (m:=4000000) (by omega)) (by decide)
   rw [← hvs] at pP
   have hsm:=monV_sm h (gM_mem hkl)
   have hmz:monV (gM q k).c.val xs (gM q k).e 0=(gM q k).c.val:=rfl
   have hms:∀ i,monV (gM q k).c.val xs (gM q k).e (i + 1)=monV (gM q k).c.val xs (gM q k).e i * powD (gU xs i).val ((gM q k).e.getD i 0).toNat:=fun i=>rfl
   have hln:=ok1.len
   have hnn:=ok1.nn
   have h8:=ok1.sum
   obtain ⟨dc,hdc,hcn,hcv⟩:=h.c (gM_mem hkl)
   have pO:=p_rOf hdc
   rw [← hcn] at pO
   rw [hcv] at hmz
   have hmw:∀ i,monV (gM q k).c.val xs (gM q k).e i=monV dc xs (gM q k).e i:=fun i=>by rw [hcv]
   rw [hcv] at hsm hms pP
   clear hvs hcv hmw
   generalize valV q xs (k + 1)=v1 at *
   generalize valV q xs k=v0 at *
   generalize gM q k=m at *
   obtain ⟨⟨n1,e1,w1⟩,z⟩:=m
   simp only at *
   unfold NU VA at pO
   unfold VA at pP
   simp only at pO
   have ft:=And.intro g0 (And.intro g1 (And.intro g4 (And.intro g5 (And.intro g6 (And.intro s4 (And.intro s5 q1))))))
   repeat (first|(with_reducible first|refine pv_seq fun K hK=>?_|((first|refine hK _ _ ?_|(clear hK;refine hK _ _ ?_)|(clear hK;clear hK;refine hK _ _ ?_));clear hK;try clear K))| refine W ?_|exact Z|with_reducible intro b)
   obtain ⟨I2,mk3,el2⟩:=hide fun e S=>∃ (i b7:Nat),i≤xs.length∧e 0=.g (eS eM q)∧e 1=.g (eS eU xs)∧e 4=.ptr (.l 4) b4 0 0 3∧e 5=.ptr (.l 5) b5 0 0 3∧e 6=i64 k∧e 7=.ptr (.l 7) b7 0 0 3∧e 8=i64 i∧S (.l 4)=some ⟨b4,3,0,[[bl false,.nil,i64 0]]⟩∧S (.l 5)=some ⟨b5,3,0,[[bl (fS v0),W32 (D32 (fN v0)),i64 (fE v0)]]⟩∧S (.l 7)=some ⟨b7,3,0,[[bl (fS (monV dc xs z i)),W32 (D32 (fN (monV dc xs z i))),i64 (fE (monV dc xs z i))]]⟩
   refine pv_loop I2 (fun e _=>xs.length - (intD (e 8)).toNat) ?_ ?_
   ·exact mk3 _ _ ⟨0,_,Nat.zero_le _,Zr,Zr,Zr,Zr,Zr,rfl,Zr,by simp only [updS_apply];exact s4,by simp only [updS_apply];exact s5,by simp only [updS_apply];rfl⟩
   ·clear s4 s5
    intro e S hI
    obtain ⟨i,b7,hi,g0,g1,g4,g5,g6,g7,g8,s4,s5,s7⟩:=el2 e S hI
    clear el2 hI
    have hm2:(intD (e 8)).toNat=i:=by rw [g8];exact Int.toNat_natCast i
    have ft:=And.intro g0 (And.intro g1 (And.intro g4 (And.intro g5 (And.intro g6 (And.intro g7 (And.intro g8 (And.intro s4 (And.intro s5 s7))))))))
    repeat (first|(with_reducible first|refine pv_seq fun K hK=>?_|((first|refine hK _ _ ?_|(clear hK;refine hK _ _ ?_)|(clear hK;clear hK;refine hK _ _ ?_));clear hK;try clear K))| refine W0 ?_|exact Z|with_reducible intro b)
    refine pv_cdD (fun ht=>?_) (fun ht=>?_)
    ·have hil:i<xs.length:=by omega
     have q2:=zget (l:=z) (i:=i) (by omega)
     have q3:=gU_at hil
     obtain ⟨dx,hdx,hxn2,hxv⟩:=h.x hil
     have hz0:=hnn _ (List.mem_of_getElem? q2)
     have hTs:=sum_take_succ q2
     have hT8:=sum_take_le (l:=z) (i + 1) hnn
     obtain ⟨u,hu,hu8,hs⟩:=hsm i hi
     rw [hTs,← hu] at hT8
     have hmi:=hms i
     rw [hxv] at hmi
     have mk4:∀ (e:DEnv) (S:Store) (b7:Nat) (v:Dyadic),v=monV dc xs z (i + 1)→e 0=.g (eS eM q)→e 1=.g (eS eU xs)→e 4=.ptr (.l 4) b4 0 0 3→e 5=.ptr (.l 5) b5 0 0 3→e 6=i64 k→e 7=.ptr (.l 7) b7 0 0 3→e 8=i64 ((i + 1:Nat):Int)→S (.l 4)=some ⟨b4,3,0,[[bl false,.nil,i64 0]]⟩→S (.l 5)=some ⟨b5,3,0,[[bl (fS v0),W32 (D32 (fN v0)),i64 (fE v0)]]⟩→S (.l 7)=some ⟨b7,3,0,[[bl (fS v),W32 (D32 (fN v)),i64 (fE v)]]⟩→I2 e S:=fun e S b7 v hv a1 a2 a3 a4 a5 a6 a7 a8 a9 a10=>by
      subst hv
      exact mk3 _ _ ⟨i + 1,b7,by omega,a1,a2,a3,a4,a5,a6,a7,a8,a9,a10⟩
     clear mk3 hTs mk2 hsm hms
     obtain ⟨kk,hkk⟩:∃ kk:Nat,z.getD i 0=kk:=⟨(z.getD i 0).toNat,by omega⟩
     rw [hkk] at q2 hT8 hmi
     rw [Int.toNat_natCast] at hmi
     have pX:=p_rOf hdx
     rw [← hxn2] at pX
     have pW:=p_rPower (d:=dx) hdx.bd (k:=kk) (by omega)
     have pB:=p_rBy (hs.bd.mono (m:=8000000) (by omega)) ((powD_sm (okD_sm hdx) kk).bd.mono (m:=8000000) (by omega)) (by decide)
     rw [← hmi] at pB
     clear hmi hkk
     generalize monV dc xs z (i + 1)=m1 at *
     generalize monV dc xs z i=m0 at *
     generalize powD dx kk=pw at *
     generalize gU xs i=xi at *
     obtain ⟨n2,e2,w2⟩:=xi
     unfold NU VA at pX
     unfold VA at pW pB
     simp only at pX
     have ft:=And.intro g0 (And.intro g1 (And.intro g4 (And.intro g5 (And.intro g6 (And.intro g7 (And.intro g8 (And.intro s4 (And.intro s5 (And.intro s7 (And.intro q1 (And.intro q2 q3)))))))))))
     repeat (first|(with_reducible first|refine pv_seq fun K hK=>?_|((first|refine hK _ _ ?_|(clear hK;refine hK _ _ ?_)|(clear hK;clear hK;refine hK _ _ ?_));clear hK;try clear K))| refine W ?_|exact Z|with_reducible intro b)
     exact ⟨mk4 _ _ b7 _ rfl Zr Zr Zr Zr Zr Zr Zr (by simp only [updS_apply];exact s4) (by simp only [updS_apply];exact s5) (by simp only [updS_apply];rfl),by simp only [intD];omega⟩
    ·obtain rfl:i=xs.length:=by omega
     clear hms
     generalize monV dc xs z xs.length=m1 at *
     have ft:=And.intro g0 (And.intro g1 (And.intro g4 (And.intro g5 (And.intro g6 (And.intro g7 (And.intro g8 (And.intro s5 (And.intro s4 s7))))))))
     repeat (first|(with_reducible first|refine pv_seq fun K hK=>?_|((first|refine hK _ _ ?_|(clear hK;refine hK _ _ ?_)|(clear hK;clear hK;refine hK _ _ ?_));clear hK;try clear K))| refine W ?_|exact Z|with_reducible intro b)
     exact ⟨mk2 _ _ _ rfl Zr Zr Zr Zr Zr (by simp only [updS_apply];exact s4) (by simp only [updS_apply];rfl),by rw [hm0];simp only [intD];omega⟩
  ·obtain rfl:k=q.length:=by omega
   have ft:=And.intro g4 (And.intro g5 (And.intro s4 s5))
   exact Wk
set_option maxHeartbeats 4000000 in
theorem p_rPAt {q:List Mo} {xs:List Nu} (hq:WfM q) (hx:WfU xs):PC Tryz.prog 69 [MM q,UU xs] fun d=>d=NE (atR q xs):=by
 have p1:=p_rPRight (n:=(xs.length:Int)) hq
 have hqn:=hq.n
 have hxn:=hx.n
 unfold atR
 cases h1:polyB q xs.length with
 | false =>
   rw [h1] at p1
   unfold MM UU at *
   refine PB (rs:=[.cell 4 41,.tmp 5]) Tryz.func69 ?_
   exact Wk
 | true =>
   rw [h1] at p1
   generalize hres:(if (true && allU xs)=true then numR (valV q xs q.length) else (nu0,1))=res
   have rn:allU xs=false→res=(nu0,1):=fun h=>by rw [← hres,h];rfl
   have ry:allU xs=true→res=numR (valV q xs q.length):=fun h=>by rw [← hres,h];rfl
   clear hres
   have hlen:=polyB_len h1
   unfold MM UU at *
   refine PB (rs:=[.cell 4 41,.tmp 5]) Tryz.func69 ?_
   repeat (first|(with_reducible first|refine pv_seq fun K hK=>?_|((first|refine hK _ _ ?_|(clear hK;refine hK _ _ ?_)|(clear hK;clear hK;refine hK _ _ ?_));clear hK;try clear K))| refine W ?_|exact Z|with_reducible intro b)
   have JF:∀ (e:DEnv) (S:Store) (b4:Nat),allU xs=true→e 0=.g (eS eM q)→e 1=.g (eS eU xs)→e 4=.ptr (.l 4) b4 0 0 3→S (.l 4)=some ⟨b4,3,0,[[bl false,i64 0,.nil]]⟩→K e S:=by
    intro e S b4 hall g0 g1 g4 s4
    have hp:PtOk q xs:=⟨hq,hx,h1,hall⟩
    have pV:=p_rValue hp
    have pN:=p_rNum ((valV_sm hp q.length (Nat.le_refl _)).bd.mono (m:=4000000) (by omega)) (by decide)
    rw [← ry hall] at pN
    generalize valV q xs q.length=v at *
    obtain ⟨⟨n2,e2,w2⟩,er⟩:=res
    unfold MM UU VA at pV
    unfold NE NU VA at *
    simp only at pN
    have ft:=And.intro g0 (And.intro g1 (And.intro g4 s4))
    exact Wk
   clear hK ry
   obtain ⟨I,mk,el⟩:=hide fun e S=>∃ (i b4:Nat),i≤xs.length∧e 0=.g (eS eM q)∧e 1=.g (eS eU xs)∧e 4=.ptr (.l 4) b4 0 0 3∧e 6=i64 i∧S (.l 4)=some ⟨b4,3,0,[[bl false,i64 0,.nil]]⟩∧∀ j,j<i→rightB (gU xs j)=true
   refine pv_loop I (fun e _=>xs.length - (intD (e 6)).toNat) ?_ ?_
   ·exact mk _ _ ⟨0,_,Nat.zero_le _,Zr,Zr,rfl,Zr,by simp only [updS_apply];rfl,fun j hj=>by omega⟩
   ·intro e S hI
    obtain ⟨i,b4,hi,g0,g1,g4,g6,s4,hz⟩:=el e S hI
    clear el hI
    have ft:=And.intro g0 (And.intro g1 (And.intro g4 (And.intro g6 s4)))
    repeat (first|(with_reducible first|refine pv_seq fun K hK=>?_|((first|refine hK _ _ ?_|(clear hK;refine hK _ _ ?_)|(clear hK;clear hK;refine hK _ _ ?_));clear hK;try clear K))| refine W0 ?_|exact Z|with_reducible intro b)
    refine pv_cdD (fun ht=>?_) (fun ht=>?_)
    ·have hil:i<xs.length:=by omega
     have q1:=gU_at hil
     have pR:=p_rRight (hx.w _ (gU_mem hil)).b
     have hb:=fun h=>rn (allU_no hil h)
     have hzs:rightB (gU xs i)=true→∀ j,j<i + 1→rightB (gU xs j)=true:=fun h j hj=>by
      rcases Nat.lt_or_ge j i with h3|h3
      ·exact hz j h3
      ·obtain rfl:j=i:=by omega
       exact h
     clear hz JF
     generalize gU xs i=m at *
     generalize rightB m=r at *
     obtain ⟨n1,e1,w1⟩:=m
     unfold NU at pR
     simp only at pR
     cases r
     ·have hr:=hb rfl
      subst hr
      have ft:=And.intro g0 (And.intro g1 (And.intro g4 (And.intro g6 (And.intro s4 q1))))
      exact Wk
     ·have ft:=And.intro g0 (And.intro g1 (And.intro g4 (And.intro g6 (And.intro q1 s4))))
      repeat (first|(with_reducible first|refine pv_seq fun K hK=>?_|((first|refine hK _ _ ?_|(clear hK;refine hK _ _ ?_)|(clear hK;clear hK;refine hK _ _ ?_));clear hK;try clear K))| refine W ?_|exact Z|with_reducible intro b)
      exact ⟨mk _ _ ⟨i + 1,b4,by omega,Zr,Zr,Zr,Zr,s4,hzs rfl⟩,by simp only [intD];omega⟩
    ·obtain rfl:i=xs.length:=by omega
     have ft:=And.intro g0 (And.intro g1 (And.intro g4 g6))
     repeat (first|(with_reducible first|refine pv_seq fun K hK=>?_|((first|refine hK _ _ ?_|(clear hK;refine hK _ _ ?_)|(clear hK;clear hK;refine hK _ _ ?_));clear hK;try clear K))| refine W0 ?_|exact Z|with_reducible intro b)
     exact JF _ _ b4 (allU_yes hz) g0 g1 g4 s4
end Go.V
namespace Go.V
open Go Go.RowKit Go.Proofs
theorem outR_err {p:Nat} {l h:Dyadic} (h1:(outR p l h).2≠0):(outR p l h).1=iv0:=by
 revert h1
 unfold outR
 split
 ·split
  ·intro h;exact absurd rfl h
  ·intro _;rfl
 ·intro _;rfl
theorem outR_wi {p:Nat} {l h:Dyadic}:Wi 65536 (outR p l h).1:=by
 unfold outR numR
 by_cases h1:(nuOf (rd p false l)).Ok<;>by_cases h2:(nuOf (rd p true h)).Ok
 ·have o1:OkD (rd p false l):=h1
  have o2:OkD (rd p true h):=h2
  rw [if_pos h1,if_pos h2]
  exact wi_D o1 o2
 ·rw [if_pos h1,if_neg h2];exact wi0
 ·rw [if_neg h1];exact wi0
 ·rw [if_neg h1];exact wi0
theorem pwI_err {a:Iv} {k p:Int} (h1:(pwI a k p).2≠0):(pwI a k p).1=iv0:=by
 revert h1
 unfold pwI
 split
 ·exact outR_err
 ·intro _;rfl
theorem pwI_wi {a:Iv} {k p:Int}:Wi 65536 (pwI a k p).1:=by
 unfold pwI
 split
 ·exact outR_wi
 ·exact wi0
def ovN (p:Int) (b:List Iv) (z:List Int) (v0:Iv):Nat→Iv × Int
 | 0=>(v0,0)
 | i + 1=>if (ovN p b z v0 i).2=0 then (if z.getD i 0=0 then ovN p b z v0 i else if (pwI (gI b i) (z.getD i 0) p).2=0 then mulI p (ovN p b z v0 i).1 (pwI (gI b i) (z.getD i 0) p).1 else (iv0,(pwI (gI b i) (z.getD i 0) p).2)) else ovN p b z v0 i
def ovM (p:Int) (b:List Iv) (m:Mo):Iv × Int:=ovN p b m.e ⟨m.c,m.c⟩ b.length
def rgN (p:Int) (b:List Iv) (q:List Mo):Nat→Iv × Int
 | 0=>(iv0,0)
 | k + 1=>if (rgN p b q k).2=0 then (if (ovM p b (gM q k)).2=0 then addI p (rgN p b q k).1 (ovM p b (gM q k)).1 else (iv0,(ovM p b (gM q k)).2)) else rgN p b q k
def allR (b:List Iv):Bool:=decide (∀ x ∈ b,rightI x=true)
def rgR (q:List Mo) (b:List Iv) (p:Int):Iv × Int:=if polyB q b.length && okP p && allR b then rgN p b q q.length else (iv0,1)
theorem ovN_wi {p:Int} {b:List Iv} {z:List Int} {v0:Iv} (h:Wi 65536 v0):∀ i,Wi 65536 (ovN p b z v0 i).1
 | 0=>h
 | i + 1=>by
   unfold ovN
   split
   ·split
    ·exact ovN_wi h i
    ·split
     ·exact opI_wi
     ·exact wi0
   ·exact ovN_wi h i
theorem ovN_err {p:Int} {b:List Iv} {z:List Int} {v0:Iv}:∀ i,(ovN p b z v0 i).2≠0→(ovN p b z v0 i).1=iv0
 | 0=>fun h=>absurd rfl h
 | i + 1=>by
   unfold ovN
   split
   ·rename_i h0
    split
    ·intro h;exact absurd h0 h
    ·split
     ·exact fun h=>opI_err h
     ·exact fun _=>rfl
   ·exact ovN_err i
theorem ovN_stuck {p:Int} {b:List Iv} {z:List Int} {v0:Iv} {i n:Nat} (h:(ovN p b z v0 i).2≠0) (hn:i≤n):ovN p b z v0 n=ovN p b z v0 i:=by
 induction n with
 | zero=>obtain rfl:i=0:=by omega
         rfl
 | succ n ih =>
   by_cases hi:i=n + 1
   ·rw [hi]
   ·have e:=ih (by omega)
    show (if (ovN p b z v0 n).2=0 then _ else ovN p b z v0 n)=_
    rw [e,if_neg h]
theorem ovN_succ {p:Int} {b:List Iv} {z:List Int} {v0:Iv} {i:Nat} (h:(ovN p b z v0 i).2=0):ovN p b z v0 (i + 1)=if z.getD i 0=0 then ovN p b z v0 i else if (pwI (gI b i) (z.getD i 0) p).2=0 then mulI p (ovN p b z v0 i).1 (pwI (gI b i) (z.getD i 0) p).1 else (iv0,(pwI (gI b i) (z.getD i 0) p).2):=by
 conv=>lhs;unfold ovN
 rw [if_pos h]
theorem ovM_wi {p:Int} {b:List Iv} {m:Mo} (h:Wl 65536 m.c):Wi 65536 (ovM p b m).1:=ovN_wi ⟨h,h⟩ _
theorem ovM_err {p:Int} {b:List Iv} {m:Mo}:(ovM p b m).2≠0→(ovM p b m).1=iv0:=ovN_err _
theorem rgN_wi {p:Int} {b:List Iv} {q:List Mo}:∀ i,Wi 65536 (rgN p b q i).1
 | 0=>wi0
 | i + 1=>by
   unfold rgN
   split
   ·split
    ·exact opI_wi
    ·exact wi0
   ·exact rgN_wi i
theorem rgN_err {p:Int} {b:List Iv} {q:List Mo}:∀ i,(rgN p b q i).2≠0→(rgN p b q i).1=iv0
 | 0=>fun h=>absurd rfl h
 | i + 1=>by
   unfold rgN
   split
   ·split
    ·exact fun h=>opI_err h
    ·exact fun _=>rfl
   ·exact rgN_err i
theorem rgN_stuck {p:Int} {b:List Iv} {q:List Mo} {i n:Nat} (h:(rgN p b q i).2≠0) (hn:i≤n):rgN p b q n=rgN p b q i:=by
 induction n with
 | zero=>obtain rfl:i=0:=by omega
         rfl
 | succ n ih =>
   by_cases hi:i=n + 1
   ·rw [hi]
   ·have e:=ih (by omega)
    show (if (rgN p b q n).2=0 then _ else rgN p b q n)=_
    rw [e,if_neg h]
theorem rgN_succ {p:Int} {b:List Iv} {q:List Mo} {k:Nat} (h:(rgN p b q k).2=0):rgN p b q (k + 1)=if (ovM p b (gM q k)).2=0 then addI p (rgN p b q k).1 (ovM p b (gM q k)).1 else (iv0,(ovM p b (gM q k)).2):=by
 conv=>lhs;unfold rgN
 rw [if_pos h]
structure WfB (l:List Iv):Prop where
 n:l.length≤100000
 w:∀ x ∈ l,Wi 65536 x
theorem allR_no {l:List Iv} {i:Nat} (hi:i<l.length) (h:rightI (gI l i)=false):allR l=false:=decide_eq_false fun h2=>by rw [h2 _ (gI_mem hi)] at h;cases h
theorem allR_yes {l:List Iv} (h:∀ i,i<l.length→rightI (gI l i)=true):allR l=true:=decide_eq_true fun m hm=>by
 obtain ⟨i,hi⟩:=List.getElem?_of_mem hm
 have hil:i<l.length:=(List.getElem?_eq_some_iff.1 hi).1
 have:=h i hil
 rw [gI_at hil] at hi
 injection hi with hi
 rwa [hi] at this
theorem p_Range1 {x:Iv} (hx:Wi 65536 x):PC Tryz.prog 84 [.agg [bl x.lo.neg,i64 x.lo.exp,W64 x.lo.w,bl x.hi.neg,i64 x.hi.exp,W64 x.hi.w]] fun d=>d=bl (!rightI x):=by
 have pR:=p_iRight hx
 generalize rightI x=r at *
 obtain ⟨⟨n1,e1,w1⟩,⟨n2,e2,w2⟩⟩:=x
 unfold IV at pR
 simp only at pR
 cases r
 ·refine PB (rs:=[.tmp 2]) Tryz.func84 ?_
  exact Wk
 ·refine PB (rs:=[.tmp 2]) Tryz.func84 ?_
  exact Wk
set_option maxHeartbeats 1000000 in
theorem p_IndexB {q:List Iv} (hq:WfB q):PC Tryz.prog 121 [II q,.fn 84 [] []] fun d=>∃ t:Int,d=i64 t∧(t = -1 ↔ allR q=true) ∧ -1≤t:=by
 have hqn:=hq.n
 unfold II
 refine PB (rs:=[.tmp 4]) Tryz.func121 ?_
 repeat (first|(with_reducible first|refine pv_seq fun K hK=>?_|((first|refine hK _ _ ?_|(clear hK;refine hK _ _ ?_)|(clear hK;clear hK;refine hK _ _ ?_));clear hK;try clear K))| refine W0 ?_|exact Z|with_reducible intro b)
 obtain ⟨I,mk,el⟩:=hide fun e (T:Store)=>∃ i:Nat,i≤q.length∧e 0=.g (eS eI q)∧e 1=.fn 84 [] []∧e 6=.g (eS eI q)∧e 7=i64 q.length∧e 8=i64 i∧∀ j,j<i→rightI (gI q j)=true
 refine pv_loop I (fun e _=>q.length - (intD (e 8)).toNat) ?_ ?_
 ·exact mk _ _ ⟨0,Nat.zero_le _,Zr,Zr,Zr,Zr,Zr,fun j hj=>by omega⟩
 ·intro e T hI
  obtain ⟨i,hi,g0,g1,g6,g7,g8,hz⟩:=el e T hI
  clear el hI
  have ft:=And.intro g0 (And.intro g1 (And.intro g6 (And.intro g7 g8)))
  repeat (first|(with_reducible first|refine pv_seq fun K hK=>?_|((first|refine hK _ _ ?_|(clear hK;refine hK _ _ ?_)|(clear hK;clear hK;refine hK _ _ ?_));clear hK;try clear K))| refine W0 ?_|exact Z|with_reducible intro b)
  refine pv_cdD (fun ht=>?_) (fun ht=>?_)
  ·have hil:i<q.length:=by omega
   have q1:=gI_at hil
   have wm:=hq.w _ (gI_mem hil)
   have hb:=fun h=>allR_no hil h
   have hzs:rightI (gI q i)=true→∀ j,j<i + 1→rightI (gI q j)=true:=fun h j hj=>by
    rcases Nat.lt_or_ge j i with h3|h3
    ·exact hz j h3
    ·obtain rfl:j=i:=by omega
     exact h
   have pM:=p_Range1 wm
   clear hz
   generalize gI q i=m at *
   generalize rightI m=r at *
   obtain ⟨⟨n1,e1,w1⟩,⟨n2,e2,w2⟩⟩:=m
   simp only at pM
   cases r
   ·have ft:=And.intro g0 (And.intro g1 (And.intro g6 (And.intro g7 (And.intro g8 q1))))
    repeat (first|(with_reducible first|refine pv_seq fun K hK=>?_|((first|refine hK _ _ ?_|(clear hK;refine hK _ _ ?_)|(clear hK;clear hK;refine hK _ _ ?_));clear hK;try clear K))| refine W ?_|exact Z|with_reducible intro b)
    exact ⟨i,rfl,⟨fun h=>by omega,fun h=>by rw [hb rfl] at h;cases h⟩,by omega⟩
   ·have ft:=And.intro g0 (And.intro g1 (And.intro g6 (And.intro g7 (And.intro q1 g8))))
    repeat (first|(with_reducible first|refine pv_seq fun K hK=>?_|((first|refine hK _ _ ?_|(clear hK;refine hK _ _ ?_)|(clear hK;clear hK;refine hK _ _ ?_));clear hK;try clear K))| refine W ?_|exact Z|with_reducible intro b)
    exact ⟨mk _ _ ⟨i + 1,by omega,Zr,Zr,Zr,Zr,Zr,hzs rfl⟩,by simp only [intD];omega⟩
  ·obtain rfl:i=q.length:=by omega
   have hall:=allR_yes hz
   repeat (first|(with_reducible first|refine pv_seq fun K hK=>?_|((first|refine hK _ _ ?_|(clear hK;refine hK _ _ ?_)|(clear hK;clear hK;refine hK _ _ ?_));clear hK;try clear K))| refine W0 ?_|exact Z|with_reducible intro b)
   exact ⟨-1,rfl,⟨fun _=>hall,fun _=>rfl⟩,by omega⟩
theorem p_ContB {q:List Iv} (hq:WfB q):PC Tryz.prog 83 [II q,.fn 84 [] []] fun d=>d=bl (!allR q):=by
 have pI:=p_IndexB hq
 unfold II at *
 refine PB (rs:=[.tmp 4]) Tryz.func83 ?_
 repeat (first|(with_reducible first|refine pv_seq fun K hK=>?_|((first|refine hK _ _ ?_|(clear hK;refine hK _ _ ?_)|(clear hK;clear hK;refine hK _ _ ?_));clear hK;try clear K))| refine W0 ?_|exact Z|with_reducible intro b)
 refine call_pc pI ?_
 rintro d ⟨t,rfl,ht,h0⟩
 have hd:(0≤t)=((!allR q)=true):=by
  refine propext ⟨fun h=>?_,fun h=>?_⟩
  ·cases ha:allR q
   ·rfl
   ·have:=ht.2 ha;omega
  ·rcases Int.lt_or_le t 0 with h2|h2
   ·rw [ht.1 (by omega)] at h;cases h
   ·exact h2
 generalize (!allR q)=r at *
 have ft:=hd
 repeat (first|(with_reducible first|refine pv_seq fun K hK=>?_|((first|refine hK _ _ ?_|(clear hK;refine hK _ _ ?_)|(clear hK;clear hK;refine hK _ _ ?_));clear hK;try clear K))| refine W0 ?_|exact Z|with_reducible intro b)
 cases r<;>rfl
set_option maxHeartbeats 4000000 in
theorem p_pOver {m:Mo} {bx:List Iv} {p:Int} (hc:Wl 65536 m.c) (hb:WfB bx) (hl:m.e.length=bx.length):PC Tryz.prog 86 [MO m,II bx,i64 p] fun d=>d=IE (ovM p bx m):=by
 have hbn:=hb.n
 have pO:=p_OfI (x:=m.c) (by have:=hc.len;omega)
 unfold ovM
 have hw:=ovN_wi (p:=p) (b:=bx) (z:=m.e) (v0:=⟨m.c,m.c⟩) ⟨hc,hc⟩
 have he:=ovN_err (p:=p) (b:=bx) (z:=m.e) (v0:=⟨m.c,m.c⟩)
 have hst:=fun i (h:(ovN p bx m.e ⟨m.c,m.c⟩ i).2≠0) (hi:i≤bx.length)=>ovN_stuck h hi
 have hsu:=fun i=>ovN_succ (p:=p) (b:=bx) (z:=m.e) (v0:=⟨m.c,m.c⟩) (i:=i)
 have h0:ovN p bx m.e ⟨m.c,m.c⟩ 0=(⟨m.c,m.c⟩,0):=rfl
 obtain ⟨⟨n1,e1,w1⟩,z⟩:=m
 simp only at *
 generalize hf:ovN p bx z ⟨⟨n1,e1,w1⟩,⟨n1,e1,w1⟩⟩=f at *
 clear hf
 unfold II
 unfold NU IV at pO
 simp only at pO
 refine PB (rs:=[.cell 6 51,.tmp 7]) Tryz.func86 ?_
 repeat (first|(with_reducible first|refine pv_seq fun K hK=>?_|((first|refine hK _ _ ?_|(clear hK;refine hK _ _ ?_)|(clear hK;clear hK;refine hK _ _ ?_));clear hK;try clear K))| refine W ?_|exact Z|with_reducible intro b)
 obtain ⟨I,mk,el⟩:=hide fun e S=>∃ (i b6 b8:Nat),i≤bx.length∧e 1=.g (eS eI bx)∧e 2=i64 p∧e 6=.ptr (.l 6) b6 0 0 6∧e 8=.ptr (.l 8) b8 0 0 6∧e 17=.g (eS eZ z)∧e 18=i64 z.length∧e 19=i64 i∧(f i).2=0∧S (.l 6)=some ⟨b6,6,0,[z6]⟩∧S (.l 8)=some ⟨b8,6,0,[cI (f i).1]⟩
 refine pv_loop I (fun e _=>bx.length - (intD (e 19)).toNat) ?_ ?_
 ·exact mk _ _ ⟨0,_,_,Nat.zero_le _,Zr,Zr,rfl,rfl,Zr,Zr,Zr,by rw [h0],by simp only [updS_apply];rfl,by rw [h0];simp only [updS_apply];rfl⟩
 ·intro e S hI
  obtain ⟨i,b6,b8,hi,g1,g2,g6,g8,g17,g18,g19,h2,s6,s8⟩:=el e S hI
  clear el hI h0
  have hm0:(intD (e 19)).toNat=i:=by rw [g19];exact Int.toNat_natCast i
  have ft:=And.intro g1 (And.intro g2 (And.intro g6 (And.intro g8 (And.intro g17 (And.intro g18 g19)))))
  repeat (first|(with_reducible first|refine pv_seq fun K hK=>?_|((first|refine hK _ _ ?_|(clear hK;refine hK _ _ ?_)|(clear hK;clear hK;refine hK _ _ ?_));clear hK;try clear K))| refine W0 ?_|exact Z|with_reducible intro b)
  refine pv_cdD (fun ht=>?_) (fun ht=>?_)
  ·have hil:i<bx.length:=by omega
   have q1:=zget (l:=z) (i:=i) (by omega)
   have q2:=gI_at hil
   have hs:=hsu i h2
   have wb:=hb.w _ (gI_mem hil)
   have pW:=p_iPow (k:=z.getD i 0) (p:=p) wb
   have hpe:=pwI_err (a:=gI bx i) (k:=z.getD i 0) (p:=p)
   have pM:=p_iMul (p:=p) (hw i) (pwI_wi (a:=gI bx i) (k:=z.getD i 0) (p:=p))
   change PC _ _ _ fun d=>d=IE (mulI p (f i).1 (pwI (gI bx i) (z.getD i 0) p).1) at pM
   have hstk:=hst (i + 1)
   have hi1:=he (i + 1)
   have mk2:∀ (e:DEnv) (S:Store),e 1=.g (eS eI bx)→e 2=i64 p→e 6=.ptr (.l 6) b6 0 0 6→e 8=.ptr (.l 8) b8 0 0 6→e 17=.g (eS eZ z)→e 18=i64 z.length→e 19=i64 ((i + 1:Nat):Int)→(f (i + 1)).2=0→S (.l 6)=some ⟨b6,6,0,[z6]⟩→S (.l 8)=some ⟨b8,6,0,[cI (f (i + 1)).1]⟩→I e S :=
    fun e S a1 a2 a3 a4 a5 a6 a7 a8 a9 a10=>mk _ _ ⟨i + 1,b6,b8,by omega,a1,a2,a3,a4,a5,a6,a7,a8,a9,a10⟩
   have hr:(f (i + 1)).2≠0→f bx.length=f (i + 1):=fun h=>hst (i + 1) h (by omega)
   clear mk hst he hsu hw hstk wb
   generalize f bx.length=r at *
   generalize f (i + 1)=t1 at *
   generalize f i=t0 at *
   generalize z.getD i 0=x at *
   generalize pwI (gI bx i) x p=y at *
   generalize gI bx i=v at *
   obtain ⟨t0,et0⟩:=t0
   simp only at h2
   subst h2
   obtain ⟨⟨n3,e3,w3⟩,⟨n4,e4,w4⟩⟩:=t0
   obtain ⟨⟨n5,e5,w5⟩,⟨n6,e6,w6⟩⟩:=v
   unfold cI at *
   simp only at s8
   by_cases hx:x=0
   ·have kx:(x=0)=True:=eq_true hx
    rw [if_pos hx] at hs
    subst hs
    have ft:=And.intro g1 (And.intro g2 (And.intro g6 (And.intro g8 (And.intro g17 (And.intro g18 (And.intro g19 (And.intro q1 kx)))))))
    repeat (first|(with_reducible first|refine pv_seq fun K hK=>?_|((first|refine hK _ _ ?_|(clear hK;refine hK _ _ ?_)|(clear hK;clear hK;refine hK _ _ ?_));clear hK;try clear K))| refine W0 ?_|exact Z|with_reducible intro b)
    exact ⟨mk2 _ _ Zr Zr Zr Zr Zr Zr Zr rfl s6 s8,by simp only [intD];omega⟩
   ·have kx:(x=0)=False:=eq_false hx
    rw [if_neg hx] at hs
    obtain ⟨⟨⟨n7,e7,w7⟩,⟨n8,e8,w8⟩⟩,ey⟩:=y
    simp only at hs pM
    unfold IE IV at pW
    simp only at pW
    by_cases hy:ey=0
    ·subst hy
     rw [if_pos rfl] at hs
     rw [← hs] at pM
     obtain ⟨⟨⟨n9,e9,w9⟩,⟨na,ea,wa⟩⟩,et⟩:=t1
     unfold IE IV at pM
     simp only at pM mk2 hr hi1
     clear hs
     by_cases h1:et=0
     ·subst h1
      have ft:=And.intro g1 (And.intro g2 (And.intro g6 (And.intro g8 (And.intro g17 (And.intro g18 (And.intro g19 (And.intro q1 (And.intro q2 (And.intro kx s8)))))))))
      repeat (first|(with_reducible first|refine pv_seq fun K hK=>?_|((first|refine hK _ _ ?_|(clear hK;refine hK _ _ ?_)|(clear hK;clear hK;refine hK _ _ ?_));clear hK;try clear K))| refine W ?_|exact Z|with_reducible intro b)
      exact ⟨mk2 _ _ Zr Zr Zr Zr Zr Zr Zr rfl (by simp only [updS_apply];exact s6) (by simp only [updS_apply];rfl),by simp only [intD];omega⟩
     ·have k1:=eq_false h1
      have hr1:=hr h1
      have hr2:=hi1 h1
      subst hr1
      unfold iv0 nu0 at hr2
      injection hr2 with z1 z2
      injection z1 with z3 z4 z5
      injection z2 with z6 z7 z8
      subst z3;subst z4;subst z5;subst z6;subst z7;subst z8
      unfold V.z6 at s6
      have ft:=And.intro g1 (And.intro g2 (And.intro g6 (And.intro g8 (And.intro g17 (And.intro g18 (And.intro g19 (And.intro q1 (And.intro q2 (And.intro kx (And.intro s8 (And.intro s6 k1)))))))))))
      exact Wk
    ·rw [if_neg hy] at hs
     subst hs
     have k1:=eq_false hy
     have hr1:=hr hy
     subst hr1
     unfold z6 at s6
     have ft:=And.intro g1 (And.intro g2 (And.intro g6 (And.intro g8 (And.intro g17 (And.intro g18 (And.intro g19 (And.intro q1 (And.intro q2 (And.intro kx (And.intro s6 k1))))))))))
     exact Wk
  ·obtain rfl:i=bx.length:=by omega
   generalize f bx.length=r at *
   obtain ⟨⟨⟨n3,e3,w3⟩,⟨n4,e4,w4⟩⟩,er⟩:=r
   simp only at h2
   subst h2
   unfold cI at s8
   unfold z6 at s6
   have ft:=And.intro g6 (And.intro g8 (And.intro s6 s8))
   exact Wk
end Go.V
namespace Go.V
open Go Go.RowKit Go.Proofs
set_option maxHeartbeats 4000000 in
theorem p_pRange {q:List Mo} {bx:List Iv} {p:Int} (hq:WfM q) (hb:WfB bx):PC Tryz.prog 41 [MM q,II bx,i64 p] fun d=>d=IE (rgR q bx p):=by
 have p1:=p_pRight (n:=(bx.length:Int)) hq
 have p2:=p_ContB hb
 have hqn:=hq.n
 have hbn:=hb.n
 unfold rgR
 cases h1:polyB q bx.length with
 | false =>
   rw [h1] at p1
   unfold MM II at *
   refine PB (rs:=[.cell 6 51,.tmp 7]) Tryz.func41 ?_
   exact Wk
 | true =>
   rw [h1] at p1
   by_cases h8:p<8
   ·have k1:(p<8)=True:=eq_true h8
    have hp:okP p=false:=by unfold okP;rw [decide_eq_false (show ¬ 8≤p by omega)];rfl
    rw [hp]
    unfold MM II at *
    refine PB (rs:=[.cell 6 51,.tmp 7]) Tryz.func41 ?_
    have ft:=k1
    exact Wk
   ·have k1:(p<8)=False:=eq_false h8
    by_cases h256:256<p
    ·have k2:(256<p)=True:=eq_true h256
     have hp:okP p=false:=by unfold okP;rw [decide_eq_false (show ¬ p≤256 by omega),Bool.and_false]
     rw [hp]
     unfold MM II at *
     refine PB (rs:=[.cell 6 51,.tmp 7]) Tryz.func41 ?_
     have ft:=And.intro k1 k2
     exact Wk
    ·have k2:(256<p)=False:=eq_false h256
     have hp:okP p=true:=by unfold okP;rw [decide_eq_true (show 8≤p by omega),decide_eq_true (show p≤256 by omega)];rfl
     rw [hp]
     cases h2:allR bx with
     | false =>
       rw [h2] at p2
       unfold MM II at *
       refine PB (rs:=[.cell 6 51,.tmp 7]) Tryz.func41 ?_
       have ft:=And.intro k1 k2
       exact Wk
     | true =>
       rw [h2] at p2
       have pok:=polyB_ok h1
       have hn:=polyB_n h1
       have hlen:=polyB_len h1
       simp only [Bool.and_self,if_true]
       have hw:=rgN_wi (p:=p) (b:=bx) (q:=q)
       have he:=rgN_err (p:=p) (b:=bx) (q:=q)
       have hst:=fun i (h:(rgN p bx q i).2≠0) (hi:i≤q.length)=>rgN_stuck h hi
       have hsu:=fun i=>rgN_succ (p:=p) (b:=bx) (q:=q) (k:=i)
       have h0:rgN p bx q 0=(iv0,0):=rfl
       have hov:=fun i (hi:i<q.length)=>p_pOver (p:=p) (hq.w _ (gM_mem hi)).c hb (by have:=(pok _ (gM_mem hi)).len;omega)
       have how:=fun i (hi:i<q.length)=>ovM_wi (p:=p) (b:=bx) (hq.w _ (gM_mem hi)).c
       generalize rgN p bx q=f at *
       unfold MM II at *
       refine PB (rs:=[.cell 6 51,.tmp 7]) Tryz.func41 ?_
       have ft:=And.intro k1 k2
       repeat (first|(with_reducible first|refine pv_seq fun K hK=>?_|((first|refine hK _ _ ?_|(clear hK;refine hK _ _ ?_)|(clear hK;clear hK;refine hK _ _ ?_));clear hK;try clear K))| refine W0 ?_|exact Z|with_reducible intro b)
       refine (call_is p1 ?_)
       repeat (first|(with_reducible first|refine pv_seq fun K hK=>?_|((first|refine hK _ _ ?_|(clear hK;refine hK _ _ ?_)|(clear hK;clear hK;refine hK _ _ ?_));clear hK;try clear K))| refine W0 ?_|exact Z|with_reducible intro b)
       refine (call_is p2 ?_)
       repeat (first|with_reducible refine pv_stop 4 ?_|(with_reducible first|refine pv_seq fun K hK=>?_|((first|refine hK _ _ ?_|(clear hK;refine hK _ _ ?_)|(clear hK;clear hK;refine hK _ _ ?_));clear hK;try clear K))| refine W ?_|exact Z|with_reducible intro b)
       refine ⟨fun K4 q4 hC=>?_⟩
       repeat (first|(with_reducible first|refine pv_seq fun K hK=>?_|((first|refine hK _ _ ?_|(clear hK;refine hK _ _ ?_)|(clear hK;clear hK;refine hK _ _ ?_));clear hK;try clear K))| refine W0 ?_|exact Z|with_reducible intro b)
       refine hC _ _ (Recast.z6 (k:=.l 8) (by simp only [updS_apply];rfl) ?_)
       refine q4 _ _ ?_
       clear q4 hC
       repeat (first|(with_reducible first|refine pv_seq fun K hK=>?_|((first|refine hK _ _ ?_|(clear hK;refine hK _ _ ?_)|(clear hK;clear hK;refine hK _ _ ?_));clear hK;try clear K))| refine W0 ?_|exact Z|with_reducible intro b)
       obtain ⟨I,mk,el⟩:=hide fun e S=>∃ (i b6 b8:Nat),i≤q.length∧e 1=.g (eS eI bx)∧e 2=i64 p∧e 6=.ptr (.l 6) b6 0 0 6∧e 8=.ptr (.l 8) b8 0 0 6∧e 31=.g (eS eM q)∧e 32=i64 q.length∧e 33=i64 i∧(f i).2=0∧S (.l 6)=some ⟨b6,6,0,[z6]⟩∧S (.l 8)=some ⟨b8,6,0,[cI (f i).1]⟩
       refine pv_loop I (fun e _=>q.length - (intD (e 33)).toNat) ?_ ?_
       ·exact mk _ _ ⟨0,_,_,Nat.zero_le _,Zr,Zr,rfl,rfl,Zr,Zr,Zr,by rw [h0],by simp only [updS_apply];rfl,by rw [h0];simp only [updS_apply];rfl⟩
       ·intro e S hI
        obtain ⟨i,b6,b8,hi,g1,g2,g6,g8,g31,g32,g33,h2,s6,s8⟩:=el e S hI
        clear el hI h0
        have hm0:(intD (e 33)).toNat=i:=by rw [g33];exact Int.toNat_natCast i
        have ft:=And.intro g1 (And.intro g2 (And.intro g6 (And.intro g8 (And.intro g31 (And.intro g32 g33)))))
        repeat (first|(with_reducible first|refine pv_seq fun K hK=>?_|((first|refine hK _ _ ?_|(clear hK;refine hK _ _ ?_)|(clear hK;clear hK;refine hK _ _ ?_));clear hK;try clear K))| refine W0 ?_|exact Z|with_reducible intro b)
        refine pv_cdD (fun ht=>?_) (fun ht=>?_)
        ·have hil:i<q.length:=by omega
         have q1:=gM_at hil
         have hs:=hsu i h2
         have pO:=hov i hil
         have hpe:=ovM_err (p:=p) (b:=bx) (m:=gM q i)
         have pA:=p_iAdd (p:=p) (hw i) (how i hil)
         change PC _ _ _ fun d=>d=IE (addI p (f i).1 (ovM p bx (gM q i)).1) at pA
         have hi1:=he (i + 1)
         have mk2:∀ (e:DEnv) (S:Store),e 1=.g (eS eI bx)→e 2=i64 p→e 6=.ptr (.l 6) b6 0 0 6→e 8=.ptr (.l 8) b8 0 0 6→e 31=.g (eS eM q)→e 32=i64 q.length→e 33=i64 ((i + 1:Nat):Int)→(f (i + 1)).2=0→S (.l 6)=some ⟨b6,6,0,[z6]⟩→S (.l 8)=some ⟨b8,6,0,[cI (f (i + 1)).1]⟩→I e S :=
          fun e S a1 a2 a3 a4 a5 a6 a7 a8 a9 a10=>mk _ _ ⟨i + 1,b6,b8,by omega,a1,a2,a3,a4,a5,a6,a7,a8,a9,a10⟩
         have hr:(f (i + 1)).2≠0→f q.length=f (i + 1):=fun h=>hst (i + 1) h (by omega)
         clear mk hst he hsu hw hov how
         generalize f q.length=r at *
         generalize f (i + 1)=t1 at *
         generalize f i=t0 at *
         generalize gM q i=m at *
         generalize ovM p bx m=y at *
         obtain ⟨⟨nm,em,wm⟩,zm⟩:=m
         obtain ⟨t0,et0⟩:=t0
         simp only at h2
         subst h2
         obtain ⟨⟨n3,e3,w3⟩,⟨n4,e4,w4⟩⟩:=t0
         unfold cI at *
         simp only at s8
         obtain ⟨⟨⟨n7,e7,w7⟩,⟨n8,e8,w8⟩⟩,ey⟩:=y
         simp only at hs pA
         unfold MO IE IV at pO
         simp only at pO
         by_cases hy:ey=0
         ·subst hy
          rw [if_pos rfl] at hs
          rw [← hs] at pA
          obtain ⟨⟨⟨n9,e9,w9⟩,⟨na,ea,wa⟩⟩,et⟩:=t1
          unfold IE IV at pA
          simp only at pA mk2 hr hi1
          clear hs
          by_cases h1:et=0
          ·subst h1
           have ft:=And.intro g1 (And.intro g2 (And.intro g6 (And.intro g8 (And.intro g31 (And.intro g32 (And.intro g33 (And.intro q1 s8)))))))
           repeat (first|(with_reducible first|refine pv_seq fun K hK=>?_|((first|refine hK _ _ ?_|(clear hK;refine hK _ _ ?_)|(clear hK;clear hK;refine hK _ _ ?_));clear hK;try clear K))| refine W ?_|exact Z|with_reducible intro b)
           exact ⟨mk2 _ _ Zr Zr Zr Zr Zr Zr Zr rfl (by simp only [updS_apply];exact s6) (by simp only [updS_apply];rfl),by simp only [intD];omega⟩
          ·have k1:=eq_false h1
           have hr1:=hr h1
           have hr2:=hi1 h1
           subst hr1
           unfold iv0 nu0 at hr2
           injection hr2 with z1 z2
           injection z1 with z3 z4 z5
           injection z2 with z6 z7 z8
           subst z3;subst z4;subst z5;subst z6;subst z7;subst z8
           unfold V.z6 at s6
           have ft:=And.intro g1 (And.intro g2 (And.intro g6 (And.intro g8 (And.intro g31 (And.intro g32 (And.intro g33 (And.intro q1 (And.intro s8 (And.intro s6 k1)))))))))
           exact Wk
         ·rw [if_neg hy] at hs
          subst hs
          have k1:=eq_false hy
          have hr1:=hr hy
          subst hr1
          unfold z6 at s6
          have ft:=And.intro g1 (And.intro g2 (And.intro g6 (And.intro g8 (And.intro g31 (And.intro g32 (And.intro g33 (And.intro q1 (And.intro s6 k1))))))))
          exact Wk
        ·obtain rfl:i=q.length:=by omega
         generalize f q.length=r at *
         obtain ⟨⟨⟨n3,e3,w3⟩,⟨n4,e4,w4⟩⟩,er⟩:=r
         simp only at h2
         subst h2
         unfold cI at s8
         unfold z6 at s6
         have ft:=And.intro g6 (And.intro g8 (And.intro s6 s8))
         exact Wk
end Go.V
namespace Go.V
open Go Go.RowKit Go.Proofs
def qQ23_70_12:PT:=(.lin [(0,0),(1,0),(2,0),(3,2),(4,0),(5,0),(6,0),(7,0),(8,2),(9,0),(10,0),(11,2),(12,0)] (.fork 13 3 (.lin [(14,0),(15,0),(16,0),(17,4),(18,3),(19,0)] .nil) 17 4 (.lin [(13,3),(14,0),(15,0),(16,0),(18,3),(19,0)] .nil)))
attribute [go_sem] qQ23_70_12
theorem p_precs10 {p:Int}:PC Tryz.prog 111 [i64 p] fun d=>d=bl (okP p):=by
 unfold okP
 by_cases h1:8≤p
 ·have h1':=eq_true h1
  rw [decide_eq_true h1,Bool.true_and]
  refine PB (rs:=[.tmp 2]) Tryz.func111 ?_
  have ft:=h1'
  exact Wk
 ·have h1':=eq_false h1
  rw [decide_eq_false h1,Bool.false_and]
  refine PB (rs:=[.tmp 2]) Tryz.func111 ?_
  have ft:=h1'
  exact Wk
def boxR (l:List Iv):Bool:=decide (1≤l.length) && decide (l.length≤4) && allR (l.take 4)
set_option maxHeartbeats 1000000 in
theorem p_rBox {l:List Iv} (hb:WfB l):PC Tryz.prog 110 [II l] fun d=>d=bl (boxR l):=by
 have hl:=hb.n
 generalize hr:boxR l=r
 have hno:∀ i,i<l.length→i<4→rightI (gI l i)=false→r=false:=fun i hi h4 h=>by
  have e:gI (l.take 4) i=gI l i:=by simp [gI,List.getD,h4]
  rw [← hr]
  unfold boxR
  rw [allR_no (i:=i) (by rw [List.length_take];omega) (by rw [e];exact h),Bool.and_false]
 have hyes:(∀ i,i<l.length→i<4→rightI (gI l i)=true)→r=(decide (1≤l.length) && decide (l.length≤4)):=fun h=>by
  rw [← hr]
  unfold boxR
  rw [allR_yes fun i hi=>?_,Bool.and_true]
  rw [List.length_take] at hi
  have e:gI (l.take 4) i=gI l i:=by simp [gI,List.getD,show i<4 by omega]
  rw [e];exact h i (by omega) (by omega)
 clear hr
 unfold II
 refine PB (rs:=[.tmp 2]) Tryz.func110 ?_
 repeat (first|(with_reducible first|refine pv_seq fun K hK=>?_|((first|refine hK _ _ ?_|(clear hK;refine hK _ _ ?_)|(clear hK;clear hK;refine hK _ _ ?_));clear hK;try clear K))| refine W0 ?_|exact Z|with_reducible intro b)
 have J:∀ (e:DEnv) (S:Store),(∀ i,i<l.length→i<4→rightI (gI l i)=true)→e 0=.g (eS eI l)→K e S:=by
  intro e S hall g0
  have hy:=hyes hall
  subst hy
  by_cases h1:1≤l.length
  ·have k1:((0:Int)<(l.length:Int))=True:=eq_true (by omega)
   have k2:((l.length:Int)≤4)=(l.length≤4):=propext ⟨fun h=>by omega,fun h=>by omega⟩
   have ft:=And.intro g0 (And.intro k1 k2)
   repeat (first|(with_reducible first|refine pv_seq fun K hK=>?_|((first|refine hK _ _ ?_|(clear hK;refine hK _ _ ?_)|(clear hK;clear hK;refine hK _ _ ?_));clear hK;try clear K))| refine W0 ?_|exact Z|with_reducible intro b)
   rw [decide_eq_true h1,Bool.true_and]
  ·have k1:((0:Int)<(l.length:Int))=False:=eq_false (by omega)
   have ft:=And.intro g0 k1
   repeat (first|(with_reducible first|refine pv_seq fun K hK=>?_|((first|refine hK _ _ ?_|(clear hK;refine hK _ _ ?_)|(clear hK;clear hK;refine hK _ _ ?_));clear hK;try clear K))| refine W0 ?_|exact Z|with_reducible intro b)
   rw [decide_eq_false h1,Bool.false_and]
 clear hK hyes
 refine pv_loop (fun e S=>Hid (∃ i:Nat,i≤l.length∧i≤4∧e 0=.g (eS eI l)∧e 3=i64 i∧∀ j,j<i→rightI (gI l j)=true)) (fun e _=>l.length - (intD (e 3)).toNat) ?_ ?_
 ·exact ⟨0,Nat.zero_le _,Nat.zero_le _,Zr,Zr,fun j hj=>by omega⟩
 ·rintro e S ⟨i,hi,hi4,g0,g3,hz⟩
  by_cases h1:i<l.length
  ·have k1:((i:Int)<(l.length:Int))=True:=eq_true (by omega)
   by_cases h2:i<4
   ·have k2:((i:Int)<4)=True:=eq_true (by omega)
    have q1:=gI_at h1
    have pR:=p_rRightIv (hb.w _ (gI_mem h1))
    have hno:=hno i h1 h2
    have hzs:rightI (gI l i)=true→∀ j,j<i + 1→rightI (gI l j)=true:=fun h j hj=>by
     rcases Nat.lt_or_ge j i with h3|h3
     ·exact hz j h3
     ·obtain rfl:j=i:=by omega
      exact h
    clear hz J
    generalize gI l i=q at *
    generalize rightI q=t at *
    obtain ⟨⟨n1,e1,w1⟩,⟨n2,e2,w2⟩⟩:=q
    cases t
    ·have hr:=hno rfl
     subst hr
     have ft:=And.intro g0 (And.intro g3 (And.intro k1 (And.intro k2 q1)))
     exact Wk
    ·have ft:=And.intro g0 (And.intro g3 (And.intro k1 (And.intro q1 k2)))
     repeat (first|(with_reducible first|refine pv_seq fun K hK=>?_|((first|refine hK _ _ ?_|(clear hK;refine hK _ _ ?_)|(clear hK;clear hK;refine hK _ _ ?_));clear hK;try clear K))| refine W ?_|exact Z|with_reducible intro b)
     exact ⟨⟨i + 1,by omega,by omega,Zr,Zr,hzs rfl⟩,by simp only [intD];omega⟩
   ·have k2:((i:Int)<4)=False:=eq_false (by omega)
    have ft:=And.intro g0 (And.intro g3 (And.intro k1 k2))
    repeat (first|(with_reducible first|refine pv_seq fun K hK=>?_|((first|refine hK _ _ ?_|(clear hK;refine hK _ _ ?_)|(clear hK;clear hK;refine hK _ _ ?_));clear hK;try clear K))| refine W0 ?_|exact Z|with_reducible intro b)
    exact J _ _ (fun j hj h4=>hz j (by omega)) g0
  ·have k1:((i:Int)<(l.length:Int))=False:=eq_false (by omega)
   have ft:=And.intro g0 (And.intro g3 k1)
   repeat (first|(with_reducible first|refine pv_seq fun K hK=>?_|((first|refine hK _ _ ?_|(clear hK;refine hK _ _ ?_)|(clear hK;clear hK;refine hK _ _ ?_));clear hK;try clear K))| refine W0 ?_|exact Z|with_reducible intro b)
   exact J _ _ (fun j hj h4=>hz j (by omega)) g0
set_option maxHeartbeats 4000000 in
theorem p_rPRange {q:List Mo} {bx:List Iv} {p:Int} (hq:WfM q) (hb:WfB bx):PC Tryz.prog 70 [MM q,II bx,i64 p] fun d=>d=IE (rgR q bx p):=by
 have p1:=p_rPRight (n:=(bx.length:Int)) hq
 have p2:=p_rBox hb
 have p3:=p_precs10 (p:=p)
 have hqn:=hq.n
 have hbn:=hb.n
 have hbx:polyB q bx.length=true→boxR bx=allR bx:=fun h=>by
  have hn:=polyB_n h
  unfold boxR
  rw [decide_eq_true (show 1≤bx.length by omega),decide_eq_true (show bx.length≤4 by omega),List.take_of_length_le (by omega)];rfl
 unfold rgR
 cases h2:boxR bx with
 | false =>
   have hres:(if (polyB q bx.length && okP p && allR bx)=true then rgN p bx q q.length else (iv0,1))=(iv0,1):=by
    cases h1:polyB q bx.length with
    | false=>rfl
    | true=>rw [← hbx h1,h2,Bool.and_false];rfl
   rw [hres]
   rw [h2] at p2
   unfold MM II at *
   have d1:=@dr 12 qQ23_70_12
   refine PB (rs:=[.cell 6 51,.tmp 7]) Tryz.func70 ?_
   exact Wk
 | true =>
   rw [h2] at p2
   cases h1:polyB q bx.length with
   | false =>
     rw [h1] at p1
     unfold MM II at *
     have d1:=@dr 12 qQ23_70_12
     refine PB (rs:=[.cell 6 51,.tmp 7]) Tryz.func70 ?_
     exact Wk
   | true =>
     rw [h1] at p1
     have hall:=hbx h1
     rw [h2] at hall
     cases hp:okP p with
     | false =>
       rw [hp] at p3
       unfold MM II at *
       have d1:=@dr 12 qQ23_70_12
       refine PB (rs:=[.cell 6 51,.tmp 7]) Tryz.func70 ?_
       exact Wk
     | true =>
       rw [hp] at p3
       rw [← hall]
       have pok:=polyB_ok h1
       have hn:=polyB_n h1
       have hlen:=polyB_len h1
       simp only [Bool.and_self,if_true]
       have hw:=rgN_wi (p:=p) (b:=bx) (q:=q)
       have he:=rgN_err (p:=p) (b:=bx) (q:=q)
       have hst:=fun i (h:(rgN p bx q i).2≠0) (hi:i≤q.length)=>rgN_stuck h hi
       have hsu:=fun i=>rgN_succ (p:=p) (b:=bx) (q:=q) (k:=i)
       have h0:rgN p bx q 0=(iv0,0):=rfl
       generalize rgN p bx q=f at *
       unfold MM II at *
       have d1:=@dr 12 qQ23_70_12
       refine PB (rs:=[.cell 6 51,.tmp 7]) Tryz.func70 ?_
       repeat (first|(with_reducible first|refine pv_seq fun K hK=>?_|((first|refine hK _ _ ?_|(clear hK;refine hK _ _ ?_)|(clear hK;clear hK;refine hK _ _ ?_));clear hK;try clear K))| refine W0 ?_|exact Z|with_reducible intro b)
       refine (call_is p2 ?_)
       repeat (first|(with_reducible first|refine pv_seq fun K hK=>?_|((first|refine hK _ _ ?_|(clear hK;refine hK _ _ ?_)|(clear hK;clear hK;refine hK _ _ ?_));clear hK;try clear K))| refine W0 ?_|exact Z|with_reducible intro b)
       refine (call_is p1 ?_)
       repeat (first|(with_reducible first|refine pv_seq fun K hK=>?_|((first|refine hK _ _ ?_|(clear hK;refine hK _ _ ?_)|(clear hK;clear hK;refine hK _ _ ?_));clear hK;try clear K))| refine W0 ?_|exact Z|with_reducible intro b)
       refine (call_is p3 ?_)
       repeat (first|with_reducible refine pv_stop 4 ?_|(with_reducible first|refine pv_seq fun K hK=>?_|((first|refine hK _ _ ?_|(clear hK;refine hK _ _ ?_)|(clear hK;clear hK;refine hK _ _ ?_));clear hK;try clear K))| refine W ?_|exact Z|with_reducible intro b)
       refine ⟨fun K4 q4 hC=>?_⟩
       repeat (first|(with_reducible first|refine pv_seq fun K hK=>?_|((first|refine hK _ _ ?_|(clear hK;refine hK _ _ ?_)|(clear hK;clear hK;refine hK _ _ ?_));clear hK;try clear K))| refine W0 ?_|exact Z|with_reducible intro b)
       refine hC _ _ (Recast.z6 (k:=.l 8) (by simp only [updS_apply];rfl) ?_)
       refine q4 _ _ ?_
       clear q4 hC
       repeat (first|(with_reducible first|refine pv_seq fun K hK=>?_|((first|refine hK _ _ ?_|(clear hK;refine hK _ _ ?_)|(clear hK;clear hK;refine hK _ _ ?_));clear hK;try clear K))| refine W0 ?_|exact Z|with_reducible intro b)
       obtain ⟨I,mk,el⟩:=hide fun e S=>∃ (i b6 b8:Nat),i≤q.length∧e 0=.g (eS eM q)∧e 1=.g (eS eI bx)∧e 2=i64 p∧e 6=.ptr (.l 6) b6 0 0 6∧e 8=.ptr (.l 8) b8 0 0 6∧e 9=i64 i∧(f i).2=0∧S (.l 6)=some ⟨b6,6,0,[z6]⟩∧S (.l 8)=some ⟨b8,6,0,[cI (f i).1]⟩
       refine pv_loop I (fun e _=>q.length - (intD (e 9)).toNat) ?_ ?_
       ·exact mk _ _ ⟨0,_,_,Nat.zero_le _,Zr,Zr,Zr,rfl,rfl,Zr,by rw [h0],by simp only [updS_apply];rfl,by rw [h0];simp only [updS_apply];rfl⟩
       ·intro e S hI
        obtain ⟨i,b6,b8,hi,g0,g1,g2,g6,g8,g9,he0,s6,s8⟩:=el e S hI
        clear el hI h0
        have hm0:(intD (e 9)).toNat=i:=by rw [g9];exact Int.toNat_natCast i
        have ft:=And.intro g0 (And.intro g1 (And.intro g2 (And.intro g6 (And.intro g8 g9))))
        repeat (first|(with_reducible first|refine pv_seq fun K hK=>?_|((first|refine hK _ _ ?_|(clear hK;refine hK _ _ ?_)|(clear hK;clear hK;refine hK _ _ ?_));clear hK;try clear K))| refine W0 ?_|exact Z|with_reducible intro b)
        refine pv_cdD (fun ht=>?_) (fun ht=>?_)
        ·have hil:i<q.length:=by omega
         have q1:=gM_at hil
         have ok1:=pok _ (gM_mem hil)
         have hln:=ok1.len
         have wc:=(hq.w _ (gM_mem hil)).c
         have hs:=hsu i he0
         have wi:=hw i
         have hi1:=he (i + 1)
         have mk2:∀ (e:DEnv) (S:Store),e 0=.g (eS eM q)→e 1=.g (eS eI bx)→e 2=i64 p→e 6=.ptr (.l 6) b6 0 0 6→e 8=.ptr (.l 8) b8 0 0 6→e 9=i64 ((i + 1:Nat):Int)→(f (i + 1)).2=0→S (.l 6)=some ⟨b6,6,0,[z6]⟩→S (.l 8)=some ⟨b8,6,0,[cI (f (i + 1)).1]⟩→I e S :=
          fun e S a1 a2 a3 a4 a5 a6 a7 a8 a9=>mk _ _ ⟨i + 1,b6,b8,by omega,a1,a2,a3,a4,a5,a6,a7,a8,a9⟩
         have hr:(f (i + 1)).2≠0→f q.length=f (i + 1):=fun h=>hst (i + 1) h (by omega)
         clear mk hst he hsu hw
         generalize f q.length=r at *
         generalize f (i + 1)=t1 at *
         generalize f i=t0 at *
         have pP:=p_rPoint (x:=(gM q i).c)
         unfold ovM at hs
         have ow:=ovN_wi (p:=p) (b:=bx) (z:=(gM q i).e) (v0:=⟨(gM q i).c,(gM q i).c⟩) ⟨wc,wc⟩
         have oe:=ovN_err (p:=p) (b:=bx) (z:=(gM q i).e) (v0:=⟨(gM q i).c,(gM q i).c⟩)
         have os:=fun i2 (h:(ovN p bx (gM q i).e ⟨(gM q i).c,(gM q i).c⟩ i2).2≠0) (hi2:i2≤bx.length)=>ovN_stuck h hi2
         have ou:=fun i2=>ovN_succ (p:=p) (b:=bx) (z:=(gM q i).e) (v0:=⟨(gM q i).c,(gM q i).c⟩) (i:=i2)
         have o0:ovN p bx (gM q i).e ⟨(gM q i).c,(gM q i).c⟩ 0=(⟨(gM q i).c,(gM q i).c⟩,0):=rfl
         have oX:∀ i2,i2≤bx.length→(ovN p bx (gM q i).e ⟨(gM q i).c,(gM q i).c⟩ i2).2≠0→r=(iv0,(ovN p bx (gM q i).e ⟨(gM q i).c,(gM q i).c⟩ i2).2):=fun i2 h hne=>by
          have e1:=os i2 hne h
          rw [e1,if_neg hne] at hs
          rw [hr (by rw [hs];exact hne),hs]
         generalize ovN p bx (gM q i).e ⟨(gM q i).c,(gM q i).c⟩=o at *
         generalize gM q i=m at *
         obtain ⟨⟨nm,em,wm⟩,zm⟩:=m
         obtain ⟨t0,et0⟩:=t0
         simp only at he0
         subst he0
         obtain ⟨⟨n3,e3,w3⟩,⟨n4,e4,w4⟩⟩:=t0
         unfold cI at mk2 s8
         simp only at s8 zm hln o0
         unfold NU IV at pP
         simp only at pP
         have ft:=And.intro g0 (And.intro g1 (And.intro g2 (And.intro g6 (And.intro g8 (And.intro g9 q1)))))
         repeat (first|(with_reducible first|refine pv_seq fun K hK=>?_|((first|refine hK _ _ ?_|(clear hK;refine hK _ _ ?_)|(clear hK;clear hK;refine hK _ _ ?_));clear hK;try clear K))| refine W ?_|exact Z|with_reducible intro b)
         obtain ⟨I2,mk3,el2⟩:=hide fun e S=>∃ (j b10:Nat),j≤bx.length∧e 0=.g (eS eM q)∧e 1=.g (eS eI bx)∧e 2=i64 p∧e 6=.ptr (.l 6) b6 0 0 6∧e 8=.ptr (.l 8) b8 0 0 6∧e 9=i64 i∧e 10=.ptr (.l 10) b10 0 0 6∧e 11=i64 j∧(o j).2=0∧S (.l 6)=some ⟨b6,6,0,[z6]⟩∧S (.l 8)=some ⟨b8,6,0,[[bl n3,i64 e3,W64 w3,bl n4,i64 e4,W64 w4]]⟩∧S (.l 10)=some ⟨b10,6,0,[cI (o j).1]⟩
         refine pv_loop I2 (fun e _=>bx.length - (intD (e 11)).toNat) ?_ ?_
         ·exact mk3 _ _ ⟨0,_,Nat.zero_le _,Zr,Zr,Zr,Zr,Zr,Zr,rfl,Zr,by rw [o0],by simp only [updS_apply];exact s6,by simp only [updS_apply];exact s8,by rw [o0];simp only [updS_apply];rfl⟩
         ·clear s6 s8 o0
          intro e S hI
          obtain ⟨j,b10,hj,g0,g1,g2,g6,g8,g9,g10,g11,ho,s6,s8,s10⟩:=el2 e S hI
          clear el2 hI
          have hm2:(intD (e 11)).toNat=j:=by rw [g11];exact Int.toNat_natCast j
          have ft:=And.intro g0 (And.intro g1 (And.intro g2 (And.intro g6 (And.intro g8 (And.intro g9 (And.intro g10 g11))))))
          repeat (first|(with_reducible first|refine pv_seq fun K hK=>?_|((first|refine hK _ _ ?_|(clear hK;refine hK _ _ ?_)|(clear hK;clear hK;refine hK _ _ ?_));clear hK;try clear K))| refine W0 ?_|exact Z|with_reducible intro b)
          refine pv_cdD (fun ht=>?_) (fun ht=>?_)
          ·have hjl:j<bx.length:=by omega
           have q2:=zget (l:=zm) (i:=j) (by omega)
           have q3:=gI_at hjl
           have hsj:=ou j ho
           have wb:=hb.w _ (gI_mem hjl)
           have pW:=p_rPow (k:=zm.getD j 0) (p:=p) wb
           have pM:=p_rOpP (p:=p) (ow j) (pwI_wi (a:=gI bx j) (k:=zm.getD j 0) (p:=p))
           change PC _ _ _ fun d=>d=IE (mulI p (o j).1 (pwI (gI bx j) (zm.getD j 0) p).1) at pM
           have oe1:=oe (j + 1)
           have oX1:=oX (j + 1) (by omega)
           have mk4:∀ (e:DEnv) (S:Store),e 0=.g (eS eM q)→e 1=.g (eS eI bx)→e 2=i64 p→e 6=.ptr (.l 6) b6 0 0 6→e 8=.ptr (.l 8) b8 0 0 6→e 9=i64 i→e 10=.ptr (.l 10) b10 0 0 6→e 11=i64 ((j + 1:Nat):Int)→(o (j + 1)).2=0→S (.l 6)=some ⟨b6,6,0,[z6]⟩→S (.l 8)=some ⟨b8,6,0,[[bl n3,i64 e3,W64 w3,bl n4,i64 e4,W64 w4]]⟩→S (.l 10)=some ⟨b10,6,0,[cI (o (j + 1)).1]⟩→I2 e S :=
            fun e S a1 a2 a3 a4 a5 a6 a7 a8 a9 a10 a11 a12=>mk3 _ _ ⟨j + 1,b10,by omega,a1,a2,a3,a4,a5,a6,a7,a8,a9,a10,a11,a12⟩
           clear mk3 oe ow os ou oX mk2 hs hr hi1
           generalize o (j + 1)=o1 at *
           generalize o j=o0 at *
           generalize zm.getD j 0=x at *
           generalize pwI (gI bx j) x p=y at *
           generalize gI bx j=v at *
           obtain ⟨o0,eo0⟩:=o0
           simp only at ho
           subst ho
           obtain ⟨⟨n7,e7,w7⟩,⟨n8,e8,w8⟩⟩:=o0
           obtain ⟨⟨n5,e5,w5⟩,⟨n6,e6,w6⟩⟩:=v
           unfold cI at *
           simp only at s10
           by_cases hx:x=0
           ·have kx:(x=0)=True:=eq_true hx
            rw [if_pos hx] at hsj
            subst hsj
            have ft:=And.intro g0 (And.intro g1 (And.intro g2 (And.intro g6 (And.intro g8 (And.intro g9 (And.intro g10 (And.intro g11 (And.intro q1 (And.intro q2 kx)))))))))
            repeat (first|(with_reducible first|refine pv_seq fun K hK=>?_|((first|refine hK _ _ ?_|(clear hK;refine hK _ _ ?_)|(clear hK;clear hK;refine hK _ _ ?_));clear hK;try clear K))| refine W0 ?_|exact Z|with_reducible intro b)
            exact ⟨mk4 _ _ Zr Zr Zr Zr Zr Zr Zr Zr rfl s6 s8 s10,by simp only [intD];omega⟩
           ·have kx:(x=0)=False:=eq_false hx
            rw [if_neg hx] at hsj
            obtain ⟨⟨⟨na,ea,wa⟩,⟨nb,eb,wb2⟩⟩,ey⟩:=y
            simp only at hsj pM
            unfold IE IV at pW
            simp only at pW
            by_cases hy:ey=0
            ·subst hy
             rw [if_pos rfl] at hsj
             rw [← hsj] at pM
             obtain ⟨⟨⟨nc,ec,wc2⟩,⟨nd,ed,wd⟩⟩,et⟩:=o1
             unfold IE IV at pM
             simp only at pM mk4 oX1 oe1
             clear hsj
             by_cases h1:et=0
             ·subst h1
              have ft:=And.intro g0 (And.intro g1 (And.intro g2 (And.intro g6 (And.intro g8 (And.intro g9 (And.intro g10 (And.intro g11 (And.intro q1 (And.intro q2 (And.intro q3 (And.intro kx s10)))))))))))
              repeat (first|with_reducible refine pv_stop 12 ?_|(with_reducible first|refine pv_seq fun K hK=>?_|((first|refine hK _ _ ?_|(clear hK;refine hK _ _ ?_)|(clear hK;clear hK;refine hK _ _ ?_));clear hK;try clear K))| refine W ?_|exact Z|with_reducible intro b)
              refine ⟨fun K12 q12 _=>?_⟩
              have J12:∀ (f2:DEnv) (S2:Store) (b12:Nat),f2 0=.g (eS eM q)→f2 1=.g (eS eI bx)→f2 2=i64 p→f2 6=.ptr (.l 6) b6 0 0 6→f2 8=.ptr (.l 8) b8 0 0 6→f2 9=i64 i→f2 10=.ptr (.l 10) b10 0 0 6→f2 11=i64 j→f2 12=.ptr (.l 12) b12 0 0 6→f2 13=i64 0→S2 (.l 6)=some ⟨b6,6,0,[z6]⟩→S2 (.l 8)=some ⟨b8,6,0,[[bl n3,i64 e3,W64 w3,bl n4,i64 e4,W64 w4]]⟩→S2 (.l 10)=some ⟨b10,6,0,[[bl n7,i64 e7,W64 w7,bl n8,i64 e8,W64 w8]]⟩→S2 (.l 12)=some ⟨b12,6,0,[[bl na,i64 ea,W64 wa,bl nb,i64 eb,W64 wb2]]⟩→K12 f2 S2:=by
               intro f2 S2 b12 g0 g1 g2 g6 g8 g9 g10 g11 g12 g13 s6 s8 s10 s12
               refine q12 _ _ ?_
               clear q12
               have ft:=And.intro g0 (And.intro g1 (And.intro g2 (And.intro g6 (And.intro g8 (And.intro g9 (And.intro g10 (And.intro g11 (And.intro g12 (And.intro g13 (And.intro s10 s12))))))))))
               repeat (first|(with_reducible first|refine pv_seq fun K hK=>?_|((first|refine hK _ _ ?_|(clear hK;refine hK _ _ ?_)|(clear hK;clear hK;refine hK _ _ ?_));clear hK;try clear K))| refine W ?_|exact Z|with_reducible intro b)
               exact ⟨mk4 _ _ Zr Zr Zr Zr Zr Zr Zr Zr rfl (by simp only [updS_apply];exact s6) (by simp only [updS_apply];exact s8) (by simp only [updS_apply];rfl),by rw [hm2];simp only [intD];omega⟩
              clear q12
              have ft:=And.intro g0 (And.intro g1 (And.intro g2 (And.intro g6 (And.intro g8 (And.intro g9 (And.intro g10 (And.intro g11 (And.intro q1 (And.intro q2 (And.intro q3 s10))))))))))
              repeat (first|(with_reducible first|refine pv_seq fun K hK=>?_|((first|refine hK _ _ ?_|(clear hK;refine hK _ _ ?_)|(clear hK;clear hK;refine hK _ _ ?_));clear hK;try clear K))| refine W0 ?_|exact Z|with_reducible intro b)
              repeat' (first|(with_reducible first|refine pv_seq fun K hK=>?_|((first|refine hK _ _ ?_|(clear hK;refine hK _ _ ?_)|(clear hK;clear hK;refine hK _ _ ?_));clear hK;try clear K))| refine W ?_|exact Z|with_reducible intro b|with_reducible refine And.intro ?_ ?_|exact J12 _ _ _ Zr Zr Zr Zr Zr Zr Zr Zr Zr Zr (by simp only [updS_apply];exact s6) (by simp only [updS_apply];exact s8) (by simp only [updS_apply];exact s10) (by simp only [updS_apply];rfl))
             ·have k1:=eq_false h1
              have hr1:=oX1 h1
              subst hr1
              unfold z6 at s6
              have ft:=And.intro g0 (And.intro g1 (And.intro g2 (And.intro g6 (And.intro g8 (And.intro g9 (And.intro g10 (And.intro g11 (And.intro q1 (And.intro q2 (And.intro q3 (And.intro kx (And.intro s10 (And.intro s6 k1)))))))))))))
              exact Wk
            ·rw [if_neg hy] at hsj
             subst hsj
             have k1:=eq_false hy
             have hr1:=oX1 hy
             subst hr1
             unfold z6 at s6
             have ft:=And.intro g0 (And.intro g1 (And.intro g2 (And.intro g6 (And.intro g8 (And.intro g9 (And.intro g10 (And.intro g11 (And.intro q1 (And.intro q2 (And.intro q3 (And.intro kx (And.intro s6 k1))))))))))))
             exact Wk
          ·obtain rfl:j=bx.length:=by omega
           rw [if_pos ho] at hs
           have pA:=p_rOpS (p:=p) wi (ow bx.length)
           change PC _ _ _ fun d=>d=IE (addI p _ (o bx.length).1) at pA
           rw [← hs] at pA
           clear hs ow oe os ou oX mk3
           generalize o bx.length=o0 at *
           obtain ⟨o0,eo0⟩:=o0
           simp only at ho
           subst ho
           obtain ⟨⟨n7,e7,w7⟩,⟨n8,e8,w8⟩⟩:=o0
           obtain ⟨⟨⟨n9,e9,w9⟩,⟨na,ea,wa⟩⟩,et⟩:=t1
           unfold IE IV at pA
           unfold cI at s10
           simp only at pA mk2 hr hi1 s10
           by_cases h1:et=0
           ·subst h1
            have ft:=And.intro g0 (And.intro g1 (And.intro g2 (And.intro g6 (And.intro g8 (And.intro g9 (And.intro g10 (And.intro g11 (And.intro s8 s10))))))))
            repeat (first|(with_reducible first|refine pv_seq fun K hK=>?_|((first|refine hK _ _ ?_|(clear hK;refine hK _ _ ?_)|(clear hK;clear hK;refine hK _ _ ?_));clear hK;try clear K))| refine W ?_|exact Z|with_reducible intro b)
            exact ⟨mk2 _ _ Zr Zr Zr Zr Zr Zr rfl (by simp only [updS_apply];exact s6) (by simp only [updS_apply];rfl),by rw [hm0];simp only [intD];omega⟩
           ·have k1:=eq_false h1
            have hr1:=hr h1
            have hr2:=hi1 h1
            subst hr1
            unfold iv0 nu0 at hr2
            injection hr2 with z1 z2
            injection z1 with z3 z4 z5
            injection z2 with z6 z7 z8
            subst z3;subst z4;subst z5;subst z6;subst z7;subst z8
            unfold V.z6 at s6
            have ft:=And.intro g0 (And.intro g1 (And.intro g2 (And.intro g6 (And.intro g8 (And.intro g9 (And.intro g10 (And.intro g11 (And.intro s8 (And.intro s10 (And.intro s6 k1))))))))))
            exact Wk
        ·obtain rfl:i=q.length:=by omega
         generalize f q.length=r at *
         obtain ⟨⟨⟨n3,e3,w3⟩,⟨n4,e4,w4⟩⟩,er⟩:=r
         simp only at he0
         subst he0
         unfold cI at s8
         unfold z6 at s6
         have ft:=And.intro g6 (And.intro g8 (And.intro s6 s8))
         exact Wk
end Go.V
