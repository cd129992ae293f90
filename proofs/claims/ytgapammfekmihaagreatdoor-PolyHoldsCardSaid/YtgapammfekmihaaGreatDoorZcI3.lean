/- Package poly's Make over values as data. Package poly's Same and Degree, and the document's. Package poly's Degree, and the document's. slices.Grow and slices.Concat at monomials. slices.Concat at monomials; package poly's Add, and the document's. Package poly's product of two monomials. Products of polynomials, plain. Package poly's Mul. The document's Mul. Derivatives of polynomials, plain. -/
import Derived.Test.YtgapammfekmihaaGreatDoorZcI2
set_option linter.unusedSimpArgs false
set_option linter.unusedVariables false
set_option maxRecDepth 100000
namespace Go.V
open Go Go.RowKit Go.Proofs
def qQ5_19_13:List (Nat × Nat):=[(0,0),(1,0),(2,0),(3,0),(4,0),(5,0),(6,1),(7,0),(8,1),(9,3),(10,0),(11,0),(12,3)]
attribute [go_sem] qQ5_19_13
theorem pmkR_no {q:List Mo} {n:Int} (h:¬ (1≤n∧n≤4∧allM q n=true)):pmkR q n=([],1):=by
 unfold pmkR
 by_cases h1:1≤n
 ·by_cases h4:n≤4
  ·rw [decide_eq_true h1,decide_eq_true h4]
   cases ha:allM q n
   ·rfl
   ·exact absurd ⟨h1,h4,ha⟩ h
  ·rw [decide_eq_false h4,Bool.and_false];rfl
 ·rw [decide_eq_false h1];rfl
theorem RowZ.cast {N:DEnv→Store→Prop} {e:DEnv} {S:Store} {k:Nm} {s:Nat} {d:D} {els:List (List D)} {es:List D} {x y:D} (j:Nat) (h:RowZ S k s d (els ++ [es])) (hj:es[j]? = some x) (hs:∀ I H v,RdD I H x v→RdD I H y v)
 (hN:∀ S',RowZ S' k s d (els ++ [es.set j y])→Keep k S S'→N e S'):Recast N e S:=by
 rcases h with ⟨_,h2⟩|⟨b,cap,h1,h2⟩
 ·simp at h2
 ·refine Recast.cell h2 (i:=els.length) (by simp) hj hs (hN _ (.inr ⟨b,cap,?_,?_⟩) .upd)
  ·rw [h1];simp
  ·rw [updS_at];simp
set_option maxHeartbeats 8000000 in
theorem p_pMake {q:List Mo} {n:Int} (hq:WfM q) (hl:q.length≤10000):PC Tryz.prog 19 [MM q,i64 n] fun d=>d=LM (pmkR q n):=by
 unfold MM LM
 by_cases h1:1≤n
 ·have k1:(n<1)=False:=eq_false (by omega)
  by_cases h4:n≤4
  ·have k2:(4<n)=False:=eq_false (by omega)
   cases ha:allM q n with
   | false =>
     rw [pmkR_no (fun h=>by rw [ha] at h;cases h.2.2)]
     have d1:=@dl 13 qQ5_19_13
     refine PB (rs:=[.tmp 4,.tmp 5]) Tryz.func19 ?_
     have ft:=And.intro k1 k2
     repeat (first|(with_reducible first|refine pv_seq fun K hK=>?_|((first|refine hK _ _ ?_|(clear hK;refine hK _ _ ?_)|(clear hK;clear hK;refine hK _ _ ?_));clear hK;try clear K))| refine W0 ?_|exact Z|with_reducible intro b)
     refine p_ContM (k:=.l 3) (by simp only [updS_apply];rfl) hq ?_
     rw [ha]
     exact Wk
   | true =>
     obtain ⟨N,rfl⟩:∃ N:Nat,n=N:=⟨n.toNat,by omega⟩
     have hall:∀ m ∈ q,monoB m N=true:=of_decide_eq_true ha
     have hlen:∀ m ∈ q,m.e.length=N:=fun m hm=>by
      have:=hall m hm
      unfold monoB at this
      simp only [Bool.and_eq_true,decide_eq_true_eq] at this
      omega
     have hpw:∀ m ∈ q,(∀ x ∈ m.e,0≤x)∧(∀ x ∈ m.e,0≤x∧x≤8)∧m.e.length=N:=fun m hm=>by
      have:=hall m hm
      unfold monoB at this
      simp only [Bool.and_eq_true,decide_eq_true_eq] at this
      refine ⟨this.1.1.2,fun x hx=>⟨this.1.1.2 x hx,?_⟩,hlen m hm⟩
      have h8:=this.1.2
      obtain ⟨i,hi⟩:=List.getElem?_of_mem hx
      have:=le_sum this.1.1.2 i (List.getElem?_eq_some_iff.1 hi).1
      rw [List.getD,hi] at this
      simp only [Option.getD_some] at this
      omega
     have hr:pmkR q N=gathR (q.map teM):=by
      unfold pmkR
      rw [decide_eq_true h1,decide_eq_true h4,ha];rfl
     rw [hr]
     clear hr
     have d1:=@dl 13 qQ5_19_13
     refine PB (rs:=[.tmp 4,.tmp 5]) Tryz.func19 ?_
     have ft:=And.intro k1 k2
     repeat (first|(with_reducible first|refine pv_seq fun K hK=>?_|((first|refine hK _ _ ?_|(clear hK;refine hK _ _ ?_)|(clear hK;clear hK;refine hK _ _ ?_));clear hK;try clear K))| refine W0 ?_|exact Z|with_reducible intro b)
     refine p_ContM (k:=.l 3) (by simp only [updS_apply];rfl) hq ?_
     rw [ha]
     repeat (first|(with_reducible first|refine pv_seq fun K hK=>?_|((first|refine hK _ _ ?_|(clear hK;refine hK _ _ ?_)|(clear hK;clear hK;refine hK _ _ ?_));clear hK;try clear K))| refine W0 ?_|exact Z|with_reducible intro b)
     refine ⟨rfl,fun l o ho=>?_⟩
     repeat (first|(with_reducible first|refine pv_seq fun K hK=>?_|((first|refine hK _ _ ?_|(clear hK;refine hK _ _ ?_)|(clear hK;clear hK;refine hK _ _ ?_));clear hK;try clear K))| refine W0 ?_|exact Z|with_reducible intro b)
     have J:∀ (e:DEnv) (S:Store) (ms:List Mo),Acc q N q.length ms→RowZ S (.l 56) 4 (e 7) (rS eM ms)→K e S:=by
      as_aux_lemma =>
      intro e S ms hacc hw
      have hle:∀ t ∈ q.map teM,t.e.length=N:=fun t ht=>by obtain ⟨m,hm,rfl⟩:=List.mem_map.1 ht;exact hlen m hm
      have hpf:=hacc.perm
      have hql:(q.map teM).length=q.length:=List.length_map _
      rw [← hql] at hpf
      have hsy:=hacc.sy
      have hml:=hacc.len
      have hme:=hacc.all (P:=fun e=>(∀ x ∈ e,0≤x)∧(∀ x ∈ e,0≤x∧x≤8)∧e.length=N) hpw (by omega)
      have hbad:=fun (y:Te)=>gathR_bad (l:=q.map teM) (all:=ms.map teM) (y:=y) hpf
      have hlong:=gathR_long (l:=q.map teM) (all:=ms.map teM) hpf
      have hsort:=fun ys=>gathR_sorted (n:=N) (l:=q.map teM) (all:=ms.map teM) (ys:=ys) hle hpf
      clear hacc hpf hle hall hpw hlen
      generalize gathR (q.map teM)=r at *
      have JF:∀ (e:DEnv) (S:Store),True:=fun _ _=>trivial
      rcases hw with ⟨g7,h7⟩|⟨b7,cap,g7,s7⟩
      ·obtain rfl:ms=[]:=by have:=congrArg List.length h7;rw [rS_len] at this;exact List.eq_nil_of_length_eq_zero this
       have hr:=hsort [] (fun y hy=>by cases hy) (by decide) (List.Perm.refl _) List.Pairwise.nil
       subst hr
       have ft:=g7
       repeat (first|(with_reducible first|refine pv_seq fun K hK=>?_|((first|refine hK _ _ ?_|(clear hK;refine hK _ _ ?_)|(clear hK;clear hK;refine hK _ _ ?_));clear hK;try clear K))| refine W0 ?_|exact Z|with_reducible intro b)
       refine pv_loop (fun e T=>Hid (e 12=.nil∧e 71=i64 0∧e 72=i64 0)) (fun _ _=>0) ?_ ?_
       ·exact ⟨Zr,Zr,Zr⟩
       ·rintro e2 T ⟨g12,g71,g72⟩
        have ft:=And.intro g12 (And.intro g71 g72)
        repeat (first|(with_reducible first|refine pv_seq fun K hK=>?_|((first|refine hK _ _ ?_|(clear hK;refine hK _ _ ?_)|(clear hK;clear hK;refine hK _ _ ?_));clear hK;try clear K))| refine W0 ?_|exact Z|with_reducible intro b)
        refine call_is p_SortNil ?_
        exact Wk
      ·rw [rS_len] at g7
       have q4:∀ i,i<ms.length→(rS eM ms)[i]? = some ((eM (gM ms i)).map D.g):=fun i hi=>by rw [rS_get,gM_at hi];rfl
       have ft:=g7
       repeat (first|(with_reducible first|refine pv_seq fun K hK=>?_|((first|refine hK _ _ ?_|(clear hK;refine hK _ _ ?_)|(clear hK;clear hK;refine hK _ _ ?_));clear hK;try clear K))| refine W0 ?_|exact Z|with_reducible intro b)
       have JF:∀ (e:DEnv) (S:Store),(∀ y ∈ ms.map teM,OkD y.v)→RowZ S (.l 102) 4 (e 12) (rS eM (outM (ms.map teM)))→(outM (ms.map teM)=[]→e 12=.nil)→K e S:=by
        intro e S hok hw2 hne
        have hol:=outM_len (ms.map teM)
        rw [List.length_map] at hol
        have hoe:∀ m ∈ outM (ms.map teM),m.e.length≤100000:=fun m hm=>by
         unfold outM at hm
         obtain ⟨t,ht,rfl⟩:=List.mem_map.1 hm
         obtain ⟨m2,hm2,rfl⟩:=List.mem_map.1 (List.mem_filter.1 ht).1
         show m2.e.length≤100000
         rw [(hme m2 hm2).2.2];omega
        have hlg:=hlong hok
        have hst:=fun ys=>hsort ys hok
        generalize outM (ms.map teM)=out at *
        by_cases h24:24<out.length
        ·have hr:=hlg h24
         subst hr
         have k24:((24:Int)<(out.length:Int))=True:=eq_true (by omega)
         have ft:=k24
         repeat (first|(with_reducible first|refine pv_seq fun K hK=>?_|((first|refine hK _ _ ?_|(clear hK;refine hK _ _ ?_)|(clear hK;clear hK;refine hK _ _ ?_));clear hK;try clear K))| refine W0 ?_|exact Z|with_reducible intro b)
         refine hw2.toD.len ?_
         rw [rS_len]
         exact Wk
        ·have k24:((24:Int)<(out.length:Int))=False:=eq_false (by omega)
         have hst2:=fun ys=>hst ys (by omega)
         rcases Nat.eq_zero_or_pos out.length with h0|h0
         ·obtain rfl:=List.eq_nil_of_length_eq_zero h0
          have g12:=hne rfl
          have hr:=hst2 [] (List.Perm.refl _) List.Pairwise.nil
          subst hr
          have k24:((24:Int)<((0:Nat):Int))=False:=eq_false (by omega)
          have ft:=And.intro g12 k24
          repeat (first|(with_reducible first|refine pv_seq fun K hK=>?_|((first|refine hK _ _ ?_|(clear hK;refine hK _ _ ?_)|(clear hK;clear hK;refine hK _ _ ?_));clear hK;try clear K))| refine W0 ?_|exact Z|with_reducible intro b)
          refine call_is p_SortNil ?_
          exact Wk
         ·rcases hw2 with ⟨_,h1⟩|⟨b12,cap2,g12,s12⟩
          ·have:=congrArg List.length h1;rw [rS_len,List.length_nil] at this;omega
          ·rw [rS_len] at g12
           have ft:=And.intro g12 k24
           repeat (first|(with_reducible first|refine pv_seq fun K hK=>?_|((first|refine hK _ _ ?_|(clear hK;refine hK _ _ ?_)|(clear hK;clear hK;refine hK _ _ ?_));clear hK;try clear K))| refine W0 ?_|exact Z|with_reducible intro b)
           refine p_SortRow s12 h0 (by omega) hoe fun ys hp hs=>?_
           have hr:=hst2 ys hp hs
           subst hr
           repeat (first|(with_reducible first|refine pv_seq fun K hK=>?_|((first|refine hK _ _ ?_|(clear hK;refine hK _ _ ?_)|(clear hK;clear hK;refine hK _ _ ?_));clear hK;try clear K))| refine W0 ?_|exact Z|with_reducible intro b)
           refine ⟨by rw [rS_len,hp.length_eq];exact Nat.le_refl _,?_⟩
           rw [List.take_of_length_le (by rw [rS_len,hp.length_eq];exact Nat.le_refl _),pureLL_rS]
           rfl
       clear hK
       obtain ⟨I,mk,el⟩:=hide fun e S=>∃ i:Nat,i≤ms.length∧e 70=.own (.l 56) b7 0 ms.length cap 4∧e 71=i64 ms.length∧e 72=i64 i∧S (.l 56)=some ⟨b7,4,0,rS eM ms⟩∧RowZ S (.l 102) 4 (e 12) (rS eM (outM ((ms.take i).map teM)))∧(outM ((ms.take i).map teM)=[]→e 12=.nil)∧∀ j,j<i→OkD (gM ms j).c.val
       refine pv_loop I (fun e _=>ms.length - (intD (e 72)).toNat) ?_ ?_
       ·exact mk _ _ ⟨0,Nat.zero_le _,Zr,Zr,Zr,s7,.inl ⟨Zr,rfl⟩,fun _=>Zr,fun j hj=>by omega⟩
       ·intro e S hI
        obtain ⟨i,hi,g70,g71,g72,s7,hw,hne,hz⟩:=el e S hI
        clear el hI
        have hm0:(intD (e 72)).toNat=i:=by rw [g72];exact Int.toNat_natCast i
        have ft:=And.intro g70 (And.intro g71 g72)
        repeat (first|(with_reducible first|refine pv_seq fun K hK=>?_|((first|refine hK _ _ ?_|(clear hK;refine hK _ _ ?_)|(clear hK;clear hK;refine hK _ _ ?_));clear hK;try clear K))| refine W0 ?_|exact Z|with_reducible intro b)
        refine pv_cdD (fun ht=>?_) (fun ht=>?_)
        ·have hil:i<ms.length:=by omega
         have q1:=q4 i hil
         have hx:=hsy _ (gM_mem hil)
         have hxs:=hx.sz (K:=300000) (by omega) (by omega)
         have pM:=p_nMake (neg:=(gM ms i).c.neg) (w:=(gM ms i).c.w) (e:=(gM ms i).c.exp) hxs.b (by have:=hxs.len;omega) (by have:=hx.lo;have:=hx.hi;unfold R64;omega)
         have hv:dy (gM ms i).c.neg (N64 (gM ms i).c.w) (gM ms i).c.exp=(gM ms i).c.val:=rfl
         rw [hv] at pM
         have hb:=hbad (teM (gM ms i)) (List.mem_map_of_mem (gM_mem hil))
         have htk:(ms.take (i + 1)).map teM=(ms.take i).map teM ++ [teM (gM ms i)]:=by rw [List.take_add_one,gM_at hil,List.map_append];rfl
         have hout:outM ((ms.take (i + 1)).map teM)=if (gM ms i).c.val=0 then outM ((ms.take i).map teM) else outM ((ms.take i).map teM) ++ [⟨nuOf (gM ms i).c.val,(gM ms i).e⟩]:=by rw [htk,outM_app];rfl
         have hol:=outM_len ((ms.take i).map teM)
         rw [List.length_map,List.length_take] at hol
         have hzs:OkD (gM ms i).c.val→∀ j,j<i + 1→OkD (gM ms j).c.val:=fun h j hj=>by
          rcases Nat.lt_or_ge j i with h3|h3
          ·exact hz j h3
          ·obtain rfl:j=i:=by omega
           exact h
         have mk2:∀ (e:DEnv) (S:Store),e 70=.own (.l 56) b7 0 ms.length cap 4→e 71=i64 ms.length→e 72=i64 ((i + 1:Nat):Int)→S (.l 56)=some ⟨b7,4,0,rS eM ms⟩→RowZ S (.l 102) 4 (e 12) (rS eM (outM ((ms.take (i + 1)).map teM)))→(outM ((ms.take (i + 1)).map teM)=[]→e 12=.nil)→OkD (gM ms i).c.val→I e S:=fun e S a1 a2 a3 a4 a5 a6 a7=>mk _ _ ⟨i + 1,by omega,a1,a2,a3,a4,a5,a6,hzs a7⟩
         clear mk JF hlong hsort hbad hz hzs htk q4
         generalize outM ((ms.take (i + 1)).map teM)=out2 at *
         generalize outM ((ms.take i).map teM)=out at *
         have hte:(teM (gM ms i)).v=(gM ms i).c.val:=rfl
         rw [hte] at hb
         generalize (gM ms i).c.val=v at *
         generalize gM ms i=x at *
         obtain ⟨⟨n1,e1,w1⟩,z⟩:=x
         simp only at *
         by_cases hod:OkD v
         ·rw [numR_ok hod] at pM
          by_cases hv0:v=0
          ·rw [if_pos hv0] at hout
           subst hout
           rw [hv0,nuOf_zero] at pM
           unfold nu0 NE at pM
           have ft:=And.intro g70 (And.intro g71 (And.intro g72 (And.intro s7 q1)))
           repeat (first|(with_reducible first|refine pv_seq fun K hK=>?_|((first|refine hK _ _ ?_|(clear hK;refine hK _ _ ?_)|(clear hK;clear hK;refine hK _ _ ?_));clear hK;try clear K))| refine W ?_|exact Z|with_reducible intro b)
           exact ⟨mk2 _ _ Zr Zr Zr Zr (hw.up (by simp only [updS_apply];rfl)) hne hod,by simp only [intD];omega⟩
          ·rw [if_neg hv0] at hout
           subst hout
           have hw0:=nuOf_w hv0
           generalize nuOf v=y at *
           obtain ⟨n2,e2,w2⟩:=y
           simp only at hw0
           have hwl:0<w2.length:=List.length_pos_iff.2 hw0
           have k0:((0:Int)<(w2.length:Int))=True:=eq_true (by omega)
           unfold NE at pM
           have hnew:=rS_m (l:=out) (m:=⟨⟨n2,e2,w2⟩,z⟩)
           simp only at hnew
           have ft:=And.intro g70 (And.intro g71 (And.intro g72 (And.intro s7 (And.intro q1 k0))))
           repeat (first|(with_reducible first|refine pv_seq fun K hK=>?_|((first|refine hK _ _ ?_|(clear hK;refine hK _ _ ?_)|(clear hK;clear hK;refine hK _ _ ?_));clear hK;try clear K))| refine W ?_|exact Z|with_reducible intro b)
           refine RowZ.appL (hw.up (by simp only [updS_apply];rfl)) (by decide) rfl (by simp [D.one,W64]) ?_ ?_ fun d' S' hr' hS'=>?_
           ·rw [rS_len];simp;omega
           ·rw [rS_len];simp;omega
           repeat (first|(with_reducible first|refine pv_seq fun K hK=>?_|((first|refine hK _ _ ?_|(clear hK;refine hK _ _ ?_)|(clear hK;clear hK;refine hK _ _ ?_));clear hK;try clear K))| refine W0 ?_|exact Z|with_reducible intro b)
           exact ⟨mk2 _ _ Zr Zr Zr ((hS' _ (by decide)).trans (by simp only [updS_apply];exact s7)) (by rw [← hnew];exact hr') (fun h=>by simp at h) hod,by simp only [intD];omega⟩
         ·have hr:=hb hod
          subst hr
          have hnn:numR v=(nu0,2):=by unfold numR;rw [if_neg (show ¬ (nuOf v).Ok from hod)]
          rw [hnn] at pM
          unfold nu0 NE at pM
          have ft:=And.intro g70 (And.intro g71 (And.intro g72 (And.intro s7 q1)))
          exact Wk
        ·obtain rfl:i=ms.length:=by omega
         rw [List.take_length] at hw hne
         repeat (first|(with_reducible first|refine pv_seq fun K hK=>?_|((first|refine hK _ _ ?_|(clear hK;refine hK _ _ ?_)|(clear hK;clear hK;refine hK _ _ ?_));clear hK;try clear K))| refine W0 ?_|exact Z|with_reducible intro b)
         refine JF _ _ (fun y hy=>?_) hw hne
         obtain ⟨m,hm,rfl⟩:=List.mem_map.1 hy
         obtain ⟨j,hj⟩:=List.getElem?_of_mem hm
         have hjl:j<ms.length:=(List.getElem?_eq_some_iff.1 hj).1
         have:=hz j hjl
         rw [gM_at hjl] at hj
         injection hj with hj
         rw [hj] at this
         exact this
     clear hK
     obtain ⟨I,mk,el⟩:=hide fun e S=>∃ (i:Nat) (ms:List Mo),i≤q.length∧Acc q N i ms∧e 6=.g (.lit (.map (some l)))∧e 29=.g (eS eM q)∧e 30=i64 q.length∧e 31=i64 i∧mpS S l (mapM ms)∧RowZ S (.l 56) 4 (e 7) (rS eM ms)
     refine pv_loop I (fun e _=>q.length - (intD (e 31)).toNat) ?_ ?_
     ·have ft:=true_and
      exact mk _ _ ⟨0,[],Nat.zero_le _,Acc.zero,Zr,Zr,Zr,Zr,⟨o,rfl,ho⟩,.inl ⟨Zr,rfl⟩⟩
     ·intro e S hI
      obtain ⟨i,ms,hi,hacc,g6,g29,g30,g31,hmp,hw⟩:=el e S hI
      clear el hI
      have hm0:(intD (e 31)).toNat=i:=by rw [g31];exact Int.toNat_natCast i
      have ft:=And.intro g6 (And.intro g29 (And.intro g30 g31))
      repeat (first|(with_reducible first|refine pv_seq fun K hK=>?_|((first|refine hK _ _ ?_|(clear hK;refine hK _ _ ?_)|(clear hK;clear hK;refine hK _ _ ?_));clear hK;try clear K))| refine W0 ?_|exact Z|with_reducible intro b)
      refine pv_cdD (fun ht=>?_) (fun ht=>?_)
      ·have hil:i<q.length:=by omega
       have q1:=gM_at hil
       have wm:=hq.w _ (gM_mem hil)
       have hp:=hpw _ (gM_mem hil)
       have hpm:=hacc.all (P:=fun e=>(∀ x ∈ e,0≤x)∧(∀ x ∈ e,0≤x∧x≤8)∧e.length=N) hpw (by omega)
       have hml:=hacc.len
       obtain ⟨dm,hdm,hdc⟩:=right_is wm.c.b (monoB_right (hall _ (gM_mem hil)))
       have hsm:Sy (135168 + i) 65536 (gM q i).c:=by rw [hdc];exact hdm.sy.mono (by omega)
       have hhit:=fun j z=>hacc.hit (j:=j) (z:=z) hlen hil
       have hmiss:=fun z=>hacc.miss (z:=z) hlen hil
       have hsy:=hacc.sy
       have pO:=p_polyOf (m:=gM q i) (by rw [hp.2.2];omega)
       have mk2:∀ (e2:DEnv) (S2:Store) (ms2:List Mo),Acc q N (i + 1) ms2→e2 6=.g (.lit (.map (some l)))→e2 29=.g (eS eM q)→e2 30=i64 q.length→e2 31=i64 ((i + 1:Nat):Int)→mpS S2 l (mapM ms2)→RowZ S2 (.l 56) 4 (e2 7) (rS eM ms2)→I e2 S2:=fun e2 S2 ms2 a1 a2 a3 a4 a5 a6 a7=>mk _ _ ⟨i + 1,ms2,by omega,a1,a2,a3,a4,a5,a6,a7⟩
       clear mk J hacc
       generalize gM q i=m at *
       obtain ⟨⟨n1,e1,w1⟩,z⟩:=m
       simp only at *
       have hkd:=keyD_kv z
       have hko:=keyOk hp.2.1
       have pCl:=p_Clone hp.1 (by omega)
       unfold ZI at pCl
       generalize hk4:(key4 z).map i64=kz at *
       have ft:=And.intro g6 (And.intro g29 (And.intro g30 (And.intro g31 q1)))
       repeat (first|with_reducible refine pv_stop 8 ?_|(with_reducible first|refine pv_seq fun K hK=>?_|((first|refine hK _ _ ?_|(clear hK;refine hK _ _ ?_)|(clear hK;clear hK;refine hK _ _ ?_));clear hK;try clear K))| refine W ?_|exact Z|with_reducible intro b)
       refine ⟨fun K8 q8 _=>?_⟩
       have J8:∀ (e2:DEnv) (S2:Store) (fd:Bool) (j b9:Nat),e2 6=.g (.lit (.map (some l)))→e2 29=.g (eS eM q)→e2 30=i64 q.length→e2 31=i64 i→e2 9=.ptr (.l 9) b9 0 0 4→e2 10=i64 j→e2 11=bl fd→S2 (.l 9)=some ⟨b9,4,0,[[bl n1,i64 e1,W64 w1,.g (eS eZ z)]]⟩ →
        mpS S2 l (mapM ms)→RowZ S2 (.l 56) 4 (e2 7) (rS eM ms)→(fd=true→j<ms.length∧(gM ms j).e=z)→(fd=false→∀ m ∈ ms,m.e≠z)→K8 e2 S2:=by
        intro e2 S2 fd j b9 g6 g29 g30 g31 g9 g10 g11 s9 hmp hw hf1 hf2
        refine q8 _ _ ?_
        clear q8
        have ft:=And.intro g6 (And.intro g29 (And.intro g30 (And.intro g31 (And.intro g9 (And.intro g10 (And.intro g11 s9))))))
        repeat (first|with_reducible refine pv_stopQ 9 ?_|(with_reducible first|refine pv_seq fun K hK=>?_|((first|refine hK _ _ ?_|(clear hK;refine hK _ _ ?_)|(clear hK;clear hK;refine hK _ _ ?_));clear hK;try clear K))| refine W ?_|exact Z|with_reducible intro b)
        refine ⟨fun K1 q2 hC=>?_⟩
        have J13:∀ (e3:DEnv) (S3:Store) (ms2:List Mo) (j:Nat),e3 6=.g (.lit (.map (some l)))→e3 29=.g (eS eM q)→e3 30=i64 q.length→e3 31=i64 i→e3 9=.ptr (.l 9) b9 0 0 4→e3 10=i64 j→S3 (.l 9)=some ⟨b9,4,0,[[bl n1,i64 e1,W64 w1,.g (eS eZ z)]]⟩ →
         mpS S3 l (mapM ms2)→RowZ S3 (.l 56) 4 (e3 7) (rS eM ms2)→j<ms2.length→Sy (135168 + i) 65536 (gM ms2 j).c→(∀ y,Sy (135168 + i + 1) 65536 y→y.val=(gM ms2 j).c.val + Nu.val ⟨n1,e1,w1⟩→Acc q N (i + 1) (ms2.set j ⟨y,(gM ms2 j).e⟩))→K1 e3 S3:=by
         intro e3 S3 ms2 j g6 g29 g30 g31 g9 g10 s9 hmp hw hj hsx hacc
         refine q2 _ _ ?_
         clear q2 hC
         rcases hw with ⟨_,h0⟩|⟨b7,cap,g7,s7⟩
         ·have:=congrArg List.length h0;rw [rS_len,List.length_nil] at this;omega
         ·rw [rS_len] at g7
          have qx:(rS eM ms2)[j]? = some ((eM (gM ms2 j)).map D.g):=by rw [rS_get,gM_at hj];rfl
          have hset:∀ y:Nu,(rS eM ms2).set j [bl y.neg,i64 y.exp,W64 y.w,.g (eS eZ (gM ms2 j).e)]=rS eM (ms2.set j ⟨y,(gM ms2 j).e⟩):=fun y=>rS_set rfl
          have hms:=fun y=>mapM_set (ms:=ms2) (j:=j) (m:=⟨y,(gM ms2 j).e⟩) rfl
          have pA:=p_eAddS hsx hsm (by omega) (by decide)
          generalize gM ms2 j=x at *
          obtain ⟨⟨n2,e2,w2⟩,zx⟩:=x
          simp only at *
          have ft:=And.intro g6 (And.intro g7 (And.intro g29 (And.intro g30 (And.intro g31 (And.intro g9 (And.intro g10 (And.intro s9 (And.intro s7 qx))))))))
          repeat (first|(with_reducible first|refine pv_seq fun K hK=>?_|((first|refine hK _ _ ?_|(clear hK;refine hK _ _ ?_)|(clear hK;clear hK;refine hK _ _ ?_));clear hK;try clear K))| refine W0 ?_|exact Z|with_reducible intro b)
          refine call_pc pA ?_
          rintro dd ⟨y,rfl,hy,hv⟩
          have hacc2:=hacc y hy hv
          have hset2:=hset y
          have hms2:=hms y
          obtain ⟨n3,e4,w3⟩:=y
          simp only at hset2
          repeat (first|(with_reducible first|refine pv_seq fun K hK=>?_|((first|refine hK _ _ ?_|(clear hK;refine hK _ _ ?_)|(clear hK;clear hK;refine hK _ _ ?_));clear hK;try clear K))| refine W0 ?_|exact Z|with_reducible intro b)
          exact ⟨mk2 _ _ (ms2.set j ⟨⟨n3,e4,w3⟩,zx⟩) hacc2 Zr Zr Zr Zr (by rw [hms2];exact hmp) (.inr ⟨b7,cap,by rw [rS_len,List.length_set];exact Zr,by rw [← hset2];simp only [updS_apply];rfl⟩),by rw [hm0];simp only [intD];omega⟩
        cases fd with
        | true =>
          obtain ⟨hj,hz⟩:=hf1 rfl
          repeat (first|(with_reducible first|refine pv_seq fun K hK=>?_|((first|refine hK _ _ ?_|(clear hK;refine hK _ _ ?_)|(clear hK;clear hK;refine hK _ _ ?_));clear hK;try clear K))| refine W0 ?_|exact Z|with_reducible intro b)
          exact J13 _ _ ms j Zr Zr Zr Zr Zr Zr s9 hmp hw hj (hsy _ (gM_mem hj)) fun y hy hv=>hhit j y hj hz hy hv
        | false =>
          have hz:=hf2 rfl
          have ft:=And.intro g6 (And.intro g29 (And.intro g30 (And.intro g31 (And.intro g9 (And.intro g11 s9)))))
          repeat (first|(with_reducible first|refine pv_seq fun K hK=>?_|((first|refine hK _ _ ?_|(clear hK;refine hK _ _ ?_)|(clear hK;clear hK;refine hK _ _ ?_));clear hK;try clear K))| refine W0 ?_|exact Z|with_reducible intro b)
          refine hw.toD.len ?_
          rw [rS_len]
          repeat (first|(with_reducible first|refine pv_seq fun K hK=>?_|((first|refine hK _ _ ?_|(clear hK;refine hK _ _ ?_)|(clear hK;clear hK;refine hK _ _ ?_));clear hK;try clear K))| refine W ?_|exact Z|with_reducible intro b)
          refine ⟨l,mapM ms,kv z,.int .i64 (ms.length:Int),_,_,_,rfl,hmp,hkd,rfl,mapIs,hko,fun p hp2=>?_,fun o2 ho2=>?_⟩
          ·obtain ⟨j,hj,rfl⟩:=mapM_mem hp2
           exact ⟨keyOk (hpm _ (gM_mem hj)).2.1,fun h=>hz _ (gM_mem hj) (kv_inj (by rw [(hpm _ (gM_mem hj)).2.2,hp.2.2]) (by rw [(hpm _ (gM_mem hj)).2.2];omega) h)⟩
          ·repeat (first|(with_reducible first|refine pv_seq fun K hK=>?_|((first|refine hK _ _ ?_|(clear hK;refine hK _ _ ?_)|(clear hK;clear hK;refine hK _ _ ?_));clear hK;try clear K))| refine W ?_|exact Z|with_reducible intro b)
           have hg:gM (ms ++ [⟨nu0,z⟩]) ms.length=⟨nu0,z⟩:=by simp [gM,List.getD]
           have hse:∀ y:Mo,(ms ++ [(⟨nu0,z⟩:Mo)]).set ms.length y=ms ++ [y]:=fun y=>by rw [List.set_append_right _ _ (Nat.le_refl _),Nat.sub_self];rfl
           have h0v:Nu.val nu0=0:=dy0 _ _
           refine RowZ.appL (hw.up rfl) (by decide) rfl (by simp [D.one]) ?_ ?_ fun d' S' hr' hS'=>?_
           ·rw [rS_len];simp;omega
           ·rw [rS_len];simp;omega
           repeat (first|(with_reducible first|refine pv_seq fun K hK=>?_|((first|refine hK _ _ ?_|(clear hK;refine hK _ _ ?_)|(clear hK;clear hK;refine hK _ _ ?_));clear hK;try clear K))| refine W0 ?_|exact Z|with_reducible intro b)
           refine hC _ _ (RowZ.cast 2 hr' rfl (fun I H v hv=>nil_row hv) fun S3 hr3 hS3=>?_)
           refine J13 _ _ (ms ++ [⟨nu0,z⟩]) ms.length Zr Zr Zr Zr Zr Zr ((hS3 _ (by decide)).trans ((hS' _ (by decide)).trans (by simp only [updS_apply];exact s9))) ⟨o2,hS3.g.trans (hS'.g.trans rfl),by rw [mapM_app];exact ho2⟩ (by rw [← rS_m];exact hr3) (by simp) (by rw [hg];exact Sy.zero) fun y hy hv=>?_
           rw [hg] at hv ⊢
           rw [hse]
           exact hmiss y hz hy (by rw [hv];show Nu.val nu0 + _=_;rw [h0v,Dyadic.zero_add])
       clear q8
       repeat (first|(with_reducible first|refine pv_seq fun K hK=>?_|((first|refine hK _ _ ?_|(clear hK;refine hK _ _ ?_)|(clear hK;clear hK;refine hK _ _ ?_));clear hK;try clear K))| refine W ?_|exact Z|with_reducible intro b)
       refine ⟨l,mapM ms,kv z,_,_,_,rfl,hmp,hkd,mapIs,hko,fun p hp2=>?_,fun p hp2 he=>?_,fun hno=>?_⟩
       ·obtain ⟨j,hj,rfl⟩:=mapM_mem hp2
        exact ⟨keyOk (hpm _ (gM_mem hj)).2.1,rfl⟩
       ·obtain ⟨j,hj,rfl⟩:=mapM_mem hp2
        have hz:=kv_inj (by rw [(hpm _ (gM_mem hj)).2.2,hp.2.2]) (by rw [(hpm _ (gM_mem hj)).2.2];omega) he
        repeat (first|(with_reducible first|refine pv_seq fun K hK=>?_|((first|refine hK _ _ ?_|(clear hK;refine hK _ _ ?_)|(clear hK;clear hK;refine hK _ _ ?_));clear hK;try clear K))| refine W0 ?_|exact Z|with_reducible intro b)
        exact J8 _ _ true j _ Zr Zr Zr Zr Zr Zr Zr (by simp only [updS_apply];rfl) hmp (hw.up (by simp only [updS_apply];rfl)) (fun _=>⟨hj,hz⟩) (fun h=>by cases h)
       ·have hz:∀ m ∈ ms,m.e≠z:=fun m hm h=>by
         obtain ⟨j,hj⟩:=List.getElem?_of_mem hm
         have hjl:j<ms.length:=(List.getElem?_eq_some_iff.1 hj).1
         have e:=gM_at hjl
         rw [hj] at e
         injection e with e
         refine hno _ (mapM_of hjl) ?_
         simp only
         rw [← e,h]
        repeat (first|(with_reducible first|refine pv_seq fun K hK=>?_|((first|refine hK _ _ ?_|(clear hK;refine hK _ _ ?_)|(clear hK;clear hK;refine hK _ _ ?_));clear hK;try clear K))| refine W0 ?_|exact Z|with_reducible intro b)
        exact J8 _ _ false 0 _ Zr Zr Zr Zr Zr Zr Zr (by simp only [updS_apply];rfl) hmp (hw.up (by simp only [updS_apply];rfl)) (fun h=>by cases h) (fun _=>hz)
      ·obtain rfl:i=q.length:=by omega
       repeat (first|(with_reducible first|refine pv_seq fun K hK=>?_|((first|refine hK _ _ ?_|(clear hK;refine hK _ _ ?_)|(clear hK;clear hK;refine hK _ _ ?_));clear hK;try clear K))| refine W0 ?_|exact Z|with_reducible intro b)
       exact J _ _ ms hacc hw
  ·have k2:(4<n)=True:=eq_true (by omega)
   rw [pmkR_no (fun h=>h4 h.2.1)]
   have d1:=@dl 13 qQ5_19_13
   refine PB (rs:=[.tmp 4,.tmp 5]) Tryz.func19 ?_
   have ft:=And.intro k1 k2
   exact Wk
 ·have k1:(n<1)=True:=eq_true (by omega)
  rw [pmkR_no (fun h=>h1 h.1)]
  have d1:=@dl 13 qQ5_19_13
  refine PB (rs:=[.tmp 4,.tmp 5]) Tryz.func19 ?_
  have ft:=k1
  exact Wk
end Go.V
namespace Go.V
open Go Go.RowKit Go.Proofs
def qQ7_51_6:List (Nat × Nat):=[(0,0),(1,0),(2,0),(3,1),(4,0),(5,0),(6,0),(7,1),(8,0)]
attribute [go_sem] qQ7_51_6
set_option maxHeartbeats 1000000 in
theorem p_EqualI {a b:List Int} (ha:a.length≤100000) (hb:b.length≤100000):PC Tryz.prog 51 [ZI a,ZI b] fun d=>d=bl (decide (a=b)):=by
 unfold ZI
 by_cases hl:a.length=b.length
 ·have k0:((a.length:Int)=(b.length:Int))=True:=eq_true (by omega)
  have hno:∀ i,i<a.length→a.getD i 0≠b.getD i 0→decide (a=b)=false:=fun i hi h=>decide_eq_false fun e=>h (by rw [e])
  have hyes:(∀ j,j<a.length→a.getD j 0=b.getD j 0)→decide (a=b)=true:=fun h=>decide_eq_true (by
   apply List.ext_getElem? ;intro i
   by_cases hi:i<a.length
   ·rw [zget hi,zget (by omega),h i hi]
   ·rw [List.getElem?_eq_none (by omega),List.getElem?_eq_none (by omega)])
  generalize decide (a=b)=r at *
  have d1:=@dl 6 qQ7_51_6
  refine PB (rs:=[.tmp 4]) Tryz.func51 ?_
  have ft:=k0
  repeat (first|(with_reducible first|refine pv_seq fun K hK=>?_|((first|refine hK _ _ ?_|(clear hK;refine hK _ _ ?_)|(clear hK;clear hK;refine hK _ _ ?_));clear hK;try clear K))| refine W0 ?_|exact Z|with_reducible intro b)
  refine pv_loop (fun e S=>Hid (∃ i:Nat,i≤a.length∧e 0=.g (eS eZ a)∧e 1=.g (eS eZ b)∧e 12=i64 a.length∧e 13=i64 i∧∀ j,j<i→a.getD j 0=b.getD j 0)) (fun e _=>a.length - (intD (e 13)).toNat) ?_ ?_
  ·exact ⟨0,Nat.zero_le _,Zr,Zr,Zr,Zr,fun j hj=>by omega⟩
  ·rintro e S ⟨i,hi,g0,g1,g12,g13,hz⟩
   have ft:=And.intro g0 (And.intro g1 (And.intro g12 g13))
   repeat (first|(with_reducible first|refine pv_seq fun K hK=>?_|((first|refine hK _ _ ?_|(clear hK;refine hK _ _ ?_)|(clear hK;clear hK;refine hK _ _ ?_));clear hK;try clear K))| refine W0 ?_|exact Z|with_reducible intro b)
   refine pv_cdD (fun ht=>?_) (fun ht=>?_)
   ·have hil:i<a.length:=by omega
    have q1:=zget hil
    have q2:=zget (l:=b) (i:=i) (by omega)
    have hn:=hno i hil
    have hzs:a.getD i 0=b.getD i 0→∀ j,j<i + 1→a.getD j 0=b.getD j 0:=fun h j hj=>by
     rcases Nat.lt_or_ge j i with h3|h3
     ·exact hz j h3
     ·obtain rfl:j=i:=by omega
      exact h
    clear hno hyes
    generalize a.getD i 0=x at *
    generalize b.getD i 0=y at *
    by_cases hxy:x=y
    ·have k1:=eq_true hxy
     have ft:=And.intro g0 (And.intro g1 (And.intro g12 (And.intro g13 (And.intro q1 (And.intro q2 k1)))))
     repeat (first|(with_reducible first|refine pv_seq fun K hK=>?_|((first|refine hK _ _ ?_|(clear hK;refine hK _ _ ?_)|(clear hK;clear hK;refine hK _ _ ?_));clear hK;try clear K))| refine W0 ?_|exact Z|with_reducible intro b)
     exact ⟨⟨i + 1,by omega,Zr,Zr,Zr,Zr,hzs hxy⟩,by simp only [intD];omega⟩
    ·have k1:=eq_false hxy
     have hr:=hn hxy
     subst hr
     have ft:=And.intro g0 (And.intro g1 (And.intro g12 (And.intro g13 (And.intro q1 (And.intro q2 k1)))))
     exact Wk
   ·obtain rfl:i=a.length:=by omega
    have hr:=hyes hz
    subst hr
    exact Wk
 ·have k0:((a.length:Int)=(b.length:Int))=False:=eq_false (by omega)
  rw [decide_eq_false (p:=a=b) (fun h=>hl (by rw [h]))]
  have d1:=@dl 6 qQ7_51_6
  refine PB (rs:=[.tmp 4]) Tryz.func51 ?_
  have ft:=k0
  exact Wk
def sameMo (x y:Mo):Bool:=decide (x.c=y.c) && decide (x.e=y.e)
theorem sameMo_iff {x y:Mo}:sameMo x y=true ↔ x=y:=by
 unfold sameMo
 simp only [Bool.and_eq_true,decide_eq_true_eq]
 constructor
 ·rintro ⟨h1,h2⟩;cases x;cases y;simp only at h1 h2;rw [h1,h2]
 ·rintro rfl;exact ⟨rfl,rfl⟩
def sameP (p q:List Mo):Bool:=decide (p.length=q.length) && decide (∀ i,i<p.length→sameMo (gM p i) (gM q i)=true)
theorem sameP_iff {p q:List Mo}:sameP p q=true ↔ p=q:=by
 unfold sameP
 simp only [Bool.and_eq_true,decide_eq_true_eq]
 constructor
 ·rintro ⟨h1,h2⟩
  apply List.ext_getElem?;intro i
  by_cases hi:i<p.length
  ·rw [gM_at hi,gM_at (by omega),sameMo_iff.1 (h2 i hi)]
  ·rw [List.getElem?_eq_none (by omega),List.getElem?_eq_none (by omega)]
 ·rintro rfl;exact ⟨rfl,fun i _=>sameMo_iff.2 rfl⟩
theorem sameP_len {p q:List Mo} (h:p.length≠q.length):sameP p q=false:=by unfold sameP;rw [decide_eq_false h];rfl
theorem sameP_at {p q:List Mo} {i:Nat} (hi:i<p.length) (h:sameMo (gM p i) (gM q i)=false):sameP p q=false:=by
 unfold sameP
 rw [decide_eq_false (p:=∀ i,i<p.length→sameMo (gM p i) (gM q i)=true) (fun h2=>by rw [h2 i hi] at h;cases h),Bool.and_false]
theorem sameP_all {p q:List Mo} (hl:p.length=q.length) (h:∀ j,j<p.length→sameMo (gM p j) (gM q j)=true):sameP p q=true:=by
 unfold sameP;rw [decide_eq_true hl,decide_eq_true h];rfl
theorem p_pSame1 {x y:Mo} (hx:Wm x) (hy:Wm y):PC Tryz.prog 50 [MO x,MO y] fun d=>d=bl (sameMo x y):=by
 have pN:=p_nSame (x:=x.c) (y:=y.c) (by have:=hx.c.len;omega)
 have pE:=p_EqualI hx.n hy.n
 unfold sameMo
 obtain ⟨⟨n1,e1,w1⟩,z1⟩:=x
 obtain ⟨⟨n2,e2,w2⟩,z2⟩:=y
 unfold ZI at pE
 simp only at *
 generalize decide ((⟨n1,e1,w1⟩:Nu)=⟨n2,e2,w2⟩)=r1 at *
 generalize decide (z1=z2)=r2 at *
 cases r1
 ·refine PB (rs:=[.tmp 4]) Tryz.func50 ?_
  exact Wk
 ·refine PB (rs:=[.tmp 4]) Tryz.func50 ?_
  exact Wk
set_option maxHeartbeats 1000000 in
theorem p_EqFunc {p q:List Mo} (hp:WfM p) (hq:WfM q):PC Tryz.prog 49 [MM p,MM q,.fn 50 [] []] fun d=>d=bl (sameP p q):=by
 have hpn:=hp.n
 unfold MM
 by_cases hl:p.length=q.length
 ·have k0:((p.length:Int)=(q.length:Int))=True:=eq_true (by omega)
  have hno:=fun i=>sameP_at (p:=p) (q:=q) (i:=i)
  have hyes:=sameP_all hl
  generalize sameP p q=r at *
  refine PB (rs:=[.tmp 6]) Tryz.func49 ?_
  have ft:=k0
  repeat (first|(with_reducible first|refine pv_seq fun K hK=>?_|((first|refine hK _ _ ?_|(clear hK;refine hK _ _ ?_)|(clear hK;clear hK;refine hK _ _ ?_));clear hK;try clear K))| refine W0 ?_|exact Z|with_reducible intro b)
  refine pv_loop (fun e S=>Hid (∃ i:Nat,i≤p.length∧e 1=.g (eS eM q)∧e 2=.fn 50 [] []∧e 15=.g (eS eM p)∧e 16=i64 p.length∧e 17=i64 i∧∀ j,j<i→sameMo (gM p j) (gM q j)=true)) (fun e _=>p.length - (intD (e 17)).toNat) ?_ ?_
  ·exact ⟨0,Nat.zero_le _,Zr,Zr,Zr,Zr,Zr,fun j hj=>by omega⟩
  ·rintro e S ⟨i,hi,g1,g2,g15,g16,g17,hz⟩
   have ft:=And.intro g1 (And.intro g2 (And.intro g15 (And.intro g16 g17)))
   repeat (first|(with_reducible first|refine pv_seq fun K hK=>?_|((first|refine hK _ _ ?_|(clear hK;refine hK _ _ ?_)|(clear hK;clear hK;refine hK _ _ ?_));clear hK;try clear K))| refine W0 ?_|exact Z|with_reducible intro b)
   refine pv_cdD (fun ht=>?_) (fun ht=>?_)
   ·have hil:i<p.length:=by omega
    have q1:=gM_at hil
    have q2:=gM_at (l:=q) (i:=i) (by omega)
    have pS:=p_pSame1 (hp.w _ (gM_mem hil)) (hq.w _ (gM_mem (l:=q) (i:=i) (by omega)))
    have hn:=hno i hil
    have hzs:sameMo (gM p i) (gM q i)=true→∀ j,j<i + 1→sameMo (gM p j) (gM q j)=true:=fun h j hj=>by
     rcases Nat.lt_or_ge j i with h3|h3
     ·exact hz j h3
     ·obtain rfl:j=i:=by omega
      exact h
    clear hno hyes hz
    generalize sameMo (gM p i) (gM q i)=t at *
    generalize gM p i=x at *
    generalize gM q i=y at *
    obtain ⟨⟨n1,e1,w1⟩,z1⟩:=x
    obtain ⟨⟨n2,e2,w2⟩,z2⟩:=y
    cases t
    ·have hr:=hn rfl
     subst hr
     have ft:=And.intro g1 (And.intro g2 (And.intro g15 (And.intro g16 (And.intro g17 (And.intro q1 q2)))))
     exact Wk
    ·have ft:=And.intro g1 (And.intro g2 (And.intro g15 (And.intro g16 (And.intro g17 (And.intro q1 q2)))))
     repeat (first|(with_reducible first|refine pv_seq fun K hK=>?_|((first|refine hK _ _ ?_|(clear hK;refine hK _ _ ?_)|(clear hK;clear hK;refine hK _ _ ?_));clear hK;try clear K))| refine W ?_|exact Z|with_reducible intro b)
     exact ⟨⟨i + 1,by omega,Zr,Zr,Zr,Zr,Zr,hzs rfl⟩,by simp only [intD];omega⟩
   ·obtain rfl:i=p.length:=by omega
    have hr:=hyes hz
    subst hr
    exact Wk
 ·have k0:((p.length:Int)=(q.length:Int))=False:=eq_false (by omega)
  rw [sameP_len hl]
  refine PB (rs:=[.tmp 6]) Tryz.func49 ?_
  have ft:=k0
  exact Wk
theorem p_pSame {p q:List Mo} (hp:WfM p) (hq:WfM q):PC Tryz.prog 15 [MM p,MM q] fun d=>d=bl (sameP p q):=by
 have pE:=p_EqFunc hp hq
 unfold MM at *
 generalize sameP p q=r at *
 refine PB (rs:=[.tmp 4]) Tryz.func15 ?_
 exact Wk
end Go.V
namespace Go.V
open Go Go.RowKit Go.Proofs
theorem polyB_mono {q:List Mo} {n:Int} (h:polyB q n=true):∀ m ∈ q,monoB m n=true:=fun m hm=>by
 unfold polyB at h
 simp only [Bool.and_eq_true] at h
 have h2:=of_decide_eq_true h.2
 obtain ⟨i,hi⟩:=List.getElem?_of_mem hm
 have hil:i<q.length:=(List.getElem?_eq_some_iff.1 hi).1
 have:=(h2 i hil).1
 rw [gM_at hil] at hi
 injection hi with hi
 rwa [hi] at this
structure MoOk (m:Mo) (n:Int):Prop where
 len:(m.e.length:Int)=n
 nn:∀ x ∈ m.e,0≤x
 sum:m.e.sum≤8
 right:rightB m.c=true
theorem monoB_ok {m:Mo} {n:Int} (h:monoB m n=true):MoOk m n:=by
 unfold monoB at h
 simp only [Bool.and_eq_true,decide_eq_true_eq] at h
 exact ⟨h.1.1.1,h.1.1.2,h.1.2,h.2⟩
theorem polyB_ok {q:List Mo} {n:Int} (h:polyB q n=true):∀ m ∈ q,MoOk m n:=fun m hm=>monoB_ok (polyB_mono h m hm)
def maxI (a b:Int):Int:=if a<b then b else a
def degN (q:List Mo):Nat→Int
 | 0=>0
 | i + 1=>maxI (degN q i) (gM q i).e.sum
def degR (q:List Mo):Int:=if q.length=0 then 0 else if polyB q (gM q 0).e.length=true then degN q q.length else 0
theorem degN_nn {q:List Mo}:∀ i,0≤degN q i
 | 0=>Int.le_refl _
 | i + 1=>by
   have:=degN_nn (q:=q) i
   unfold degN maxI
   split<;>omega
theorem degN_le {q:List Mo} {n:Int} (h:∀ m ∈ q,MoOk m n):∀ i,i≤q.length→degN q i≤8
 | 0,_=>by show (0:Int)≤8;decide
 | i + 1,hi=>by
   have h1:=degN_le h i (by omega)
   have h2:=(h _ (gM_mem (l:=q) (i:=i) (by omega))).sum
   unfold degN maxI
   split<;>omega
theorem degR_le (q:List Mo):0≤degR q∧degR q≤8:=by
 unfold degR
 split
 ·omega
 ·split
  ·rename_i h;exact ⟨degN_nn _,degN_le (polyB_ok h) _ (Nat.le_refl _)⟩
  ·omega
set_option maxHeartbeats 1000000 in
theorem p_size {m:Mo} (hm:Wm m) (h0:∀ x ∈ m.e,0≤x) (h8:m.e.sum≤8):PC Tryz.prog 53 [MO m] fun d=>d=i64 m.e.sum:=by
 have hn:=hm.n
 obtain ⟨⟨n1,e1,w1⟩,z⟩:=m
 simp only at *
 have hle:=fun i=>sum_take_le (l:=z) i h0
 have hge:∀ i,0≤(z.take i).sum:=fun i=>by
  have:=sum_take_le (l:=z.take i) 0 (fun x hx=>h0 x (List.mem_of_mem_take hx))
  simpa using this
 generalize hs:z.sum=s at *
 refine PB (rs:=[.tmp 2]) Tryz.func53 ?_
 repeat (first|(with_reducible first|refine pv_seq fun K hK=>?_|((first|refine hK _ _ ?_|(clear hK;refine hK _ _ ?_)|(clear hK;clear hK;refine hK _ _ ?_));clear hK;try clear K))| refine W0 ?_|exact Z|with_reducible intro b)
 refine pv_loop (fun e S=>Hid (∃ i:Nat,i≤z.length∧e 3=i64 (z.take i).sum∧e 7=.g (eS eZ z)∧e 8=i64 z.length∧e 9=i64 i)) (fun e _=>z.length - (intD (e 9)).toNat) ?_ ?_
 ·exact ⟨0,Nat.zero_le _,Zr,Zr,Zr,Zr⟩
 ·rintro e S ⟨i,hi,g3,g7,g8,g9⟩
  have ft:=And.intro g3 (And.intro g7 (And.intro g8 g9))
  repeat (first|(with_reducible first|refine pv_seq fun K hK=>?_|((first|refine hK _ _ ?_|(clear hK;refine hK _ _ ?_)|(clear hK;clear hK;refine hK _ _ ?_));clear hK;try clear K))| refine W0 ?_|exact Z|with_reducible intro b)
  refine pv_cdD (fun ht=>?_) (fun ht=>?_)
  ·have hil:i<z.length:=by omega
   have q1:=zget hil
   have hsum:=sum_take_succ q1
   have a1:=hle i
   have a2:=hle (i + 1)
   have a3:=hge i
   have a4:=hge (i + 1)
   generalize z.getD i 0=x at *
   generalize (z.take i).sum=t at *
   have ft:=And.intro g3 (And.intro g7 (And.intro g8 (And.intro g9 q1)))
   repeat (first|(with_reducible first|refine pv_seq fun K hK=>?_|((first|refine hK _ _ ?_|(clear hK;refine hK _ _ ?_)|(clear hK;clear hK;refine hK _ _ ?_));clear hK;try clear K))| refine W0 ?_|exact Z|with_reducible intro b)
   exact ⟨⟨i + 1,by omega,by rw [hsum],Zr,Zr,Zr⟩,by simp only [intD];omega⟩
  ·obtain rfl:i=z.length:=by omega
   rw [List.take_length,hs] at g3
   have ft:=And.intro g7 (And.intro g3 (And.intro g8 g9))
   exact Wk
set_option maxHeartbeats 1000000 in
theorem p_pDegree {q:List Mo} (hq:WfM q):PC Tryz.prog 17 [MM q] fun d=>d=i64 (degR q):=by
 have hqn:=hq.n
 unfold MM degR
 by_cases h0:q.length=0
 ·obtain rfl:=List.eq_nil_of_length_eq_zero h0
  have k0:(((0:Nat):Int)=0)=True:=eq_true rfl
  refine PB (rs:=[.tmp 2]) Tryz.func17 ?_
  have ft:=k0
  exact Wk
 ·rw [if_neg h0]
  have k0:((q.length:Int)=0)=False:=eq_false (by omega)
  have q0:=gM_at (l:=q) (i:=0) (by omega)
  have pR:=p_pRight (n:=((gM q 0).e.length:Int)) hq
  have hok:=fun h=>polyB_ok (q:=q) (n:=((gM q 0).e.length:Int)) h
  have hln:=(hq.w _ (gM_mem (l:=q) (i:=0) (by omega))).n
  unfold MM at pR
  generalize polyB q ((gM q 0).e.length:Int)=r at *
  generalize hm0:gM q 0=m0 at *
  obtain ⟨⟨n0,e0,w0⟩,z0⟩:=m0
  simp only at *
  cases r
  ·rw [if_neg (by decide)]
   refine PB (rs:=[.tmp 2]) Tryz.func17 ?_
   have ft:=And.intro k0 q0
   exact Wk
  ·rw [if_pos rfl]
   have hok:=hok rfl
   have hdl:=degN_le hok
   have hdn:=fun i=>degN_nn (q:=q) i
   generalize hd:degN q q.length=d0 at *
   refine PB (rs:=[.tmp 2]) Tryz.func17 ?_
   have ft:=And.intro k0 q0
   repeat (first|(with_reducible first|refine pv_seq fun K hK=>?_|((first|refine hK _ _ ?_|(clear hK;refine hK _ _ ?_)|(clear hK;clear hK;refine hK _ _ ?_));clear hK;try clear K))| refine W ?_|exact Z|with_reducible intro b)
   refine pv_loop (fun e S=>Hid (∃ i:Nat,i≤q.length∧e 3=i64 (degN q i)∧e 19=.g (eS eM q)∧e 20=i64 q.length∧e 21=i64 i)) (fun e _=>q.length - (intD (e 21)).toNat) ?_ ?_
   ·exact ⟨0,Nat.zero_le _,Zr,Zr,Zr,Zr⟩
   ·rintro e S ⟨i,hi,g3,g19,g20,g21⟩
    have ft:=And.intro g3 (And.intro g19 (And.intro g20 g21))
    repeat (first|(with_reducible first|refine pv_seq fun K hK=>?_|((first|refine hK _ _ ?_|(clear hK;refine hK _ _ ?_)|(clear hK;clear hK;refine hK _ _ ?_));clear hK;try clear K))| refine W0 ?_|exact Z|with_reducible intro b)
    refine pv_cdD (fun ht=>?_) (fun ht=>?_)
    ·have hil:i<q.length:=by omega
     have q1:=gM_at hil
     have ok1:=hok _ (gM_mem hil)
     have pS:=p_size (hq.w _ (gM_mem hil)) ok1.nn ok1.sum
     have hst:degN q (i + 1)=maxI (degN q i) (gM q i).e.sum:=rfl
     clear ok1
     generalize degN q i=t at *
     generalize gM q i=m at *
     obtain ⟨⟨n1,e1,w1⟩,z⟩:=m
     simp only at *
     generalize z.sum=s at *
     unfold maxI at hst
     have ft:=And.intro g3 (And.intro g19 (And.intro g20 (And.intro g21 q1)))
     repeat (first|(with_reducible first|refine pv_seq fun K hK=>?_|((first|refine hK _ _ ?_|(clear hK;refine hK _ _ ?_)|(clear hK;clear hK;refine hK _ _ ?_));clear hK;try clear K))| refine W ?_|exact Z|with_reducible intro b)
     exact ⟨⟨i + 1,by omega,by rw [hst],Zr,Zr,Zr⟩,by simp only [intD];omega⟩
    ·obtain rfl:i=q.length:=by omega
     rw [hd] at g3
     have ft:=And.intro g19 (And.intro g3 (And.intro g20 g21))
     exact Wk
end Go.V
namespace Go.V
open Go Go.RowKit Go.Proofs
theorem run_append_made {P:Program} {w:World} {t ti ty e:TypeId} {i:TypeInfo} {z:Value} (ht:P.underlying t=some (.slice e)) (hti:P.underlying ti=some (.int .i64)) (hi:P.info? e=some i) (hz:i.zero=some z) (hsz:i.size=z.cells.size) {n:Nat} (h0:0<n) (h63:n≤1000000) (h48:n * i.bytes≤281474976710656) :
 (Builtin.append_ #[t,ti] ty #[.slice none 0 0,.int .i64 (n:Int)]).run P w =
   .ok (.slice (some ⟨w.heap.size,0,none⟩) n (grownCap w n 0 e)) (w.drew.alloc (.cells ((if n * i.size=0 then #[] else Builtin.zeroCells z.cells n) ++ Builtin.zeroCells z.cells (grownCap w n 0 e - n)) e)):=by
 have hn:n≠0:=by omega
 have h63':¬ (9223372036854775807<(n:Int)):=by omega
 have h48':¬ (281474976710656<Builtin.nextslicecap n 0 * i.bytes):=by rw [nextslicecap_zero h0];omega
 have hw:IntKind.i64.wrap (n:Int)=n:=by simp [IntKind.wrap,IntKind.bits,IntKind.signed];omega
 have hneg:¬ ((n:Int)<0):=by omega
 have h48i:¬ ((281474976710656:Int)<(n:Int) * (i.bytes:Int)):=by rw [← Int.natCast_mul];omega
 by_cases hzz:n * i.size=0
 ·simp [Builtin.append_,run_underlying ht,run_underlying hti,sizeOf,typeInfo,zeroValue,hi,hz,Builtin.lenOf,hn,h63',h48',Question.forced,run_firstCells_none,newRow,grownCap,asInt,asIntOf,hw,hneg,h48i,hzz]
 ·simp [Builtin.append_,run_underlying ht,run_underlying hti,sizeOf,typeInfo,zeroValue,hi,hz,Builtin.lenOf,hn,h63',h48',Question.forced,run_firstCells_none,newRow,grownCap,asInt,asIntOf,hw,hneg,h48i,hzz]
theorem cap_nil {P:Program} {w:World} {ρ:Operand→Value} {x:Operand} {t e ty:TypeId} {K:Value→World→Prop} (ht:P.underlying t=some (.slice e)) (hx:ρ x=.slice none 0 0) (h:K (.int .i64 0) w) :
 After P K ((do let d ← resolve ρ { callee:=.builtin .cap,args:=#[x],argTypes:=#[t] } ty;invoke d.target d.args:Sem Next).run P w):=by
 have:((do let d ← resolve ρ { callee:=.builtin .cap,args:=#[x],argTypes:=#[t] } ty;invoke d.target d.args:Sem Next).run P w)=.ok (.value (.int .i64 0)) w:=by
  simp [resolve,invoke,builtin,Builtin.cap_,run_underlying ht,hx,goInt]
 rw [this]
 exact h
theorem slA_none {P:Program} {t el:TypeId} {k:IntKind} {i:TypeInfo} (hT:P.underlying t=some (.slice el)) (hi:P.info? el=some i):SlA P t (.slice none 0 0) none (some (.int k 0)) none (.slice none 0 0):=by
 intro w
 unfold Does Instr.sliceAt Instr.slice
 simp [run_underlying hT,Instr.sliceBounds,Instr.sliceBound,asIntOf,sizeOf,typeInfo,hi]
theorem slA_zero {P:Program} {t el:TypeId} {k:IntKind} {i:TypeInfo} {g n cap:Nat} (hT:P.underlying t=some (.slice el)) (hi:P.info? el=some i):SlA P t (.slice (some ⟨g,0,none⟩) n cap) none (some (.int k 0)) none (.slice (some ⟨g,0,none⟩) 0 cap):=by
 intro w
 unfold Does Instr.sliceAt Instr.slice
 simp [run_underlying hT,Instr.sliceBounds,Instr.sliceBound,asIntOf,sizeOf,typeInfo,hi,Addr.add]
theorem sl_info {P:Program} {t el s bytes:Nat} {z:Value} (T:SlT P t el s bytes z) (hs:z.cells.size=s:=by rfl):∃ i:TypeInfo,P.info? el=some i∧i.zero=some z∧i.size=z.cells.size∧i.bytes=bytes:=by
 have h:=T.info
 cases hp:P.info? el with
 | none=>rw [hp] at h;cases h
 | some i =>
   rw [hp] at h
   simp only [Option.map_some,Option.some.injEq,Prod.mk.injEq] at h
   exact ⟨i,rfl,h.1,by rw [h.2.1,hs],h.2.2⟩
theorem TMo:SlT Tryz.prog 22 45 4 64 (.agg #[.bool false,.int .i64 0,.slice none 0 0,.slice none 0 0]):=⟨Tryz.underlying22,by kernel_rfl⟩
def GrowN (w:World) (r:Value) (w':World):Prop:=Ext w w'∧(r=.slice none 0 0∨∃ g cap cur el,r=.slice (some ⟨g,0,none⟩) 0 cap∧w.heap.size≤g∧w'.heap[g]? = some (.cells cur el (0,0))∧cap≤maxLen∧cap * 4≤cur.size)
theorem grow_fc {w:World} {n:Nat} (hn:n≤100000):FC Tryz.prog 115 #[.slice none 0 0,.int .i64 (n:Int)] w fun r w'=>GrowN w r w':=by
 have kn:decide ((n:Int)<0)=false:=decide_eq_false (by omega)
 refine FC.body (l:=[.slice none 0 0,.int .i64 (n:Int)]) (rs:=[.tmp 4]) mixed Tryz.func115 rfl (by kernel_rfl) (by kernel_rfl) (Nat.le_of_ble_eq_true rfl) rfl ?_
 repeat (first
  | (with_reducible refine vc_seq fun K hK=>?_)
  | (with_reducible refine vc_reg ?_)
  | (with_reducible refine vc_skip ?_)
  | (with_reducible refine vc_block ?_)
  | (with_reducible refine vc_scope ?_)
  | (with_reducible refine vc_label ?_)
  | (with_reducible refine vc_condT ?_ ?_;· simp only [opsV,dV,modeV,pureV,guardV,undef,opV,callV,intV,arith,ne_eq,Nat.min_def,vsB,seval,kn]<;>rfl)
  | (with_reducible refine vc_condF ?_ ?_;· simp only [opsV,dV,modeV,pureV,guardV,undef,opV,callV,intV,arith,ne_eq,Nat.min_def,vsB,seval,kn]<;>rfl)
  | (with_reducible refine vc_exit ?_;simp only [↓reduceIte,Nat.reduceEqDiff])
  | (with_reducible refine vc_ret ?_;simp only [retV,resL,one])
  | (with_reducible refine hK _ _ ?_;clear hK)
  | (clear hK;with_reducible refine hK _ _ ?_;clear hK)
  | (clear hK;clear hK;with_reducible refine hK _ _ ?_;clear hK)
  | (simp only [opsV,dV,modeV,pureV,guardV,undef,opV,callV,intV,arith,ne_eq,Nat.min_def,vsB,seval,kn]))
 refine cap_nil Tryz.underlying22 rfl ?_
 repeat (first
  | (with_reducible refine vc_seq fun K hK=>?_)
  | (with_reducible refine vc_reg ?_)
  | (with_reducible refine vc_skip ?_)
  | (with_reducible refine vc_block ?_)
  | (with_reducible refine vc_scope ?_)
  | (with_reducible refine vc_label ?_)
  | (with_reducible refine vc_condT ?_ ?_;· simp only [opsV,dV,modeV,pureV,guardV,undef,opV,callV,intV,arith,ne_eq,Nat.min_def,vsB,seval,kn,Tryz.underlying22]<;>rfl)
  | (with_reducible refine vc_condF ?_ ?_;· simp only [opsV,dV,modeV,pureV,guardV,undef,opV,callV,intV,arith,ne_eq,Nat.min_def,vsB,seval,kn,Tryz.underlying22]<;>rfl)
  | (with_reducible refine vc_exit ?_;simp only [↓reduceIte,Nat.reduceEqDiff])
  | (with_reducible refine vc_ret ?_;simp only [retV,resL,one])
  | (with_reducible refine hK _ _ ?_;clear hK)
  | (clear hK;with_reducible refine hK _ _ ?_;clear hK)
  | (clear hK;clear hK;with_reducible refine hK _ _ ?_;clear hK)
  | (simp only [opsV,dV,modeV,pureV,guardV,undef,opV,callV,intV,arith,ne_eq,Nat.min_def,vsB,seval,kn,Tryz.underlying22]))
 have e0:(n:Int) - (0 - ((0:Nat):Int))=n:=by omega
 refine ⟨0,?_,(by unfold R64;omega),(by unfold R64;omega),?_⟩
 ·exact ⟨none,0,rfl⟩
 rw [e0]
 by_cases h0:n=0
 ·subst h0
  repeat (first
   | (with_reducible refine vc_seq fun K hK=>?_)
   | (with_reducible refine vc_reg ?_)
   | (with_reducible refine vc_skip ?_)
   | (with_reducible refine vc_block ?_)
   | (with_reducible refine vc_scope ?_)
   | (with_reducible refine vc_label ?_)
   | (with_reducible refine vc_condT ?_ ?_;· simp only [opsV,dV,modeV,pureV,guardV,undef,opV,callV,intV,arith,ne_eq,Nat.min_def,vsB,seval,kn,Tryz.underlying22]<;>rfl)
   | (with_reducible refine vc_condF ?_ ?_;· simp only [opsV,dV,modeV,pureV,guardV,undef,opV,callV,intV,arith,ne_eq,Nat.min_def,vsB,seval,kn,Tryz.underlying22]<;>rfl)
   | (with_reducible refine vc_exit ?_;simp only [↓reduceIte,Nat.reduceEqDiff])
   | (with_reducible refine vc_ret ?_;simp only [retV,resL,one])
   | (with_reducible refine hK _ _ ?_;clear hK)
   | (clear hK;with_reducible refine hK _ _ ?_;clear hK)
   | (clear hK;clear hK;with_reducible refine hK _ _ ?_;clear hK)
   | (simp only [opsV,dV,modeV,pureV,guardV,undef,opV,callV,intV,arith,ne_eq,Nat.min_def,vsB,seval,kn,Tryz.underlying22]))
  exact ⟨Ext.refl _,.inl rfl⟩
 ·have k0:decide ((0:Int)<(n:Int))=true:=decide_eq_true (by omega)
  repeat (first
   | (with_reducible refine vc_seq fun K hK=>?_)
   | (with_reducible refine vc_reg ?_)
   | (with_reducible refine vc_skip ?_)
   | (with_reducible refine vc_block ?_)
   | (with_reducible refine vc_scope ?_)
   | (with_reducible refine vc_label ?_)
   | (with_reducible refine vc_condT ?_ ?_;· simp only [opsV,dV,modeV,pureV,guardV,undef,opV,callV,intV,arith,ne_eq,Nat.min_def,vsB,seval,kn,Tryz.underlying22,k0]<;>rfl)
   | (with_reducible refine vc_condF ?_ ?_;· simp only [opsV,dV,modeV,pureV,guardV,undef,opV,callV,intV,arith,ne_eq,Nat.min_def,vsB,seval,kn,Tryz.underlying22,k0]<;>rfl)
   | (with_reducible refine vc_exit ?_;simp only [↓reduceIte,Nat.reduceEqDiff])
   | (with_reducible refine vc_ret ?_;simp only [retV,resL,one])
   | (with_reducible refine hK _ _ ?_;clear hK)
   | (clear hK;with_reducible refine hK _ _ ?_;clear hK)
   | (clear hK;clear hK;with_reducible refine hK _ _ ?_;clear hK)
   | (simp only [opsV,dV,modeV,pureV,guardV,undef,opV,callV,intV,arith,ne_eq,Nat.min_def,vsB,seval,kn,Tryz.underlying22,k0]))
  have k0:decide ((0:Int)<(n:Int))=true:=decide_eq_true (by omega)
  repeat (first
   | (with_reducible refine vc_seq fun K hK=>?_)
   | (with_reducible refine vc_reg ?_)
   | (with_reducible refine vc_skip ?_)
   | (with_reducible refine vc_block ?_)
   | (with_reducible refine vc_scope ?_)
   | (with_reducible refine vc_label ?_)
   | (with_reducible refine vc_condT ?_ ?_;· simp only [opsV,dV,modeV,pureV,guardV,undef,opV,callV,intV,arith,ne_eq,Nat.min_def,vsB,seval,kn,Tryz.underlying22,k0]<;>rfl)
   | (with_reducible refine vc_condF ?_ ?_;· simp only [opsV,dV,modeV,pureV,guardV,undef,opV,callV,intV,arith,ne_eq,Nat.min_def,vsB,seval,kn,Tryz.underlying22,k0]<;>rfl)
   | (with_reducible refine vc_exit ?_;simp only [↓reduceIte,Nat.reduceEqDiff])
   | (with_reducible refine vc_ret ?_;simp only [retV,resL,one])
   | (with_reducible refine hK _ _ ?_;clear hK)
   | (clear hK;with_reducible refine hK _ _ ?_;clear hK)
   | (clear hK;clear hK;with_reducible refine hK _ _ ?_;clear hK)
   | (simp only [opsV,dV,modeV,pureV,guardV,undef,opV,callV,intV,arith,ne_eq,Nat.min_def,vsB,seval,kn,Tryz.underlying22,k0]))
  refine vc_condT ?_ ?_
  ·simp only [opsV,dV,modeV,pureV,guardV,undef,opV,callV,intV,arith,ne_eq,Nat.min_def,vsB,seval,kn,Tryz.underlying22,k0]
   exact congrArg Value.bool (decide_eq_true (by omega))
  repeat (first
   | (with_reducible refine vc_seq fun K hK=>?_)
   | (with_reducible refine vc_reg ?_)
   | (with_reducible refine vc_skip ?_)
   | (with_reducible refine vc_block ?_)
   | (with_reducible refine vc_scope ?_)
   | (with_reducible refine vc_label ?_)
   | (with_reducible refine vc_condT ?_ ?_;· simp only [opsV,dV,modeV,pureV,guardV,undef,opV,callV,intV,arith,ne_eq,Nat.min_def,vsB,seval,kn,Tryz.underlying22,k0]<;>rfl)
   | (with_reducible refine vc_condF ?_ ?_;· simp only [opsV,dV,modeV,pureV,guardV,undef,opV,callV,intV,arith,ne_eq,Nat.min_def,vsB,seval,kn,Tryz.underlying22,k0]<;>rfl)
   | (with_reducible refine vc_exit ?_;simp only [↓reduceIte,Nat.reduceEqDiff])
   | (with_reducible refine vc_ret ?_;simp only [retV,resL,one])
   | (with_reducible refine hK _ _ ?_;clear hK)
   | (clear hK;with_reducible refine hK _ _ ?_;clear hK)
   | (clear hK;clear hK;with_reducible refine hK _ _ ?_;clear hK)
   | (simp only [opsV,dV,modeV,pureV,guardV,undef,opV,callV,intV,arith,ne_eq,Nat.min_def,vsB,seval,kn,Tryz.underlying22,k0]))
  refine cap_nil Tryz.underlying22 rfl ?_
  obtain ⟨ti,hi,hz,hsz,hby⟩:=sl_info TMo
  refine ⟨_,slA_none Tryz.underlying22 hi,_,_,run_append_made Tryz.underlying22 Tryz.underlying3 hi hz hsz (by omega) (by omega) (by rw [hby];omega),0,?_,_,slA_zero Tryz.underlying22 hi,?_⟩
  ·exact ⟨none,0,rfl⟩
  repeat (first
   | (with_reducible refine vc_seq fun K hK=>?_)
   | (with_reducible refine vc_reg ?_)
   | (with_reducible refine vc_skip ?_)
   | (with_reducible refine vc_block ?_)
   | (with_reducible refine vc_scope ?_)
   | (with_reducible refine vc_label ?_)
   | (with_reducible refine vc_condT ?_ ?_;· simp only [opsV,dV,modeV,pureV,guardV,undef,opV,callV,intV,arith,ne_eq,Nat.min_def,vsB,seval,kn,Tryz.underlying22,k0]<;>rfl)
   | (with_reducible refine vc_condF ?_ ?_;· simp only [opsV,dV,modeV,pureV,guardV,undef,opV,callV,intV,arith,ne_eq,Nat.min_def,vsB,seval,kn,Tryz.underlying22,k0]<;>rfl)
   | (with_reducible refine vc_exit ?_;simp only [↓reduceIte,Nat.reduceEqDiff])
   | (with_reducible refine vc_ret ?_;simp only [retV,resL,one])
   | (with_reducible refine hK _ _ ?_;clear hK)
   | (clear hK;with_reducible refine hK _ _ ?_;clear hK)
   | (clear hK;clear hK;with_reducible refine hK _ _ ?_;clear hK)
   | (simp only [opsV,dV,modeV,pureV,guardV,undef,opV,callV,intV,arith,ne_eq,Nat.min_def,vsB,seval,kn,Tryz.underlying22,k0]))
  have hge:=grownCap_ge w n 0 45
  have h4:ti.size=4:=by rw [hsz];rfl
  refine ⟨(ext_drew w).alloc' _,.inr ⟨w.drew.heap.size,_,_,_,rfl,Nat.le_refl _,heap_alloc_new w.drew _,grownCap_le_maxLen w _ _ _ (by unfold maxLen;omega),?_⟩⟩
  have h5:(Value.agg #[Value.bool false,Value.int IntKind.i64 0,Value.slice none 0 0,Value.slice none 0 0]).cells.size=4:=rfl
  rw [if_neg (by rw [h4];omega),Array.size_append,size_zeroCells,size_zeroCells,h5]
  omega
theorem p_GrowM {n:Nat} (hn:n≤100000) {S:Store} {K:D→Store→Prop} (nm:Nm) (hK:∀ d S',RowZ S' nm 4 d []→Keep nm S S'→K d S'):PFC Tryz.prog 115 [.nil,i64 n] S K:=by
 intro w I vs hR hv
 obtain ⟨v,r,rfl,h1,hr⟩:=hv.uncons
 obtain ⟨u,rfl,h2⟩:=hr.one
 cases h1
 have e2:u=.int .i64 n:=by
  cases h2 with
  | g h=>cases h;rfl
 subst e2
 refine (grow_fc (w:=w) hn).mono ?_
 rintro r w' ⟨hE,h⟩
 have hIs:∀ b j,I b j→I b j:=fun _ _ h=>h
 have r1:=hR.ext hE hIs (fun _ _ h=>.inl h) (fun b j hj=>Nat.lt_of_lt_of_le (hR.old b j hj) hE.size)
 have s1:=Stp.of_ext (S:=S) hE hIs (fun _ _ h=>.inl h) hR.old
 rcases h with rfl|⟨g,cap,cur,el,rfl,hgb,hb,hcm,hcs⟩
 ·exact ⟨I,S,.nil,s1,r1,.nil,hK _ _ .nil .rfl⟩
 ·have hlt:∀ q B,S q=some B→B.b≠g:=fun q B hq e=>by have:=hR.lt hq;omega
  refine ⟨I,updS S nm (some ⟨g,4,0,[]⟩),.own nm g 0 0 cap 4,⟨s1.os,s1.tape,s1.output,s1.size,s1.dr,s1.sub,s1.new,s1.ev,s1.frame,fun q C hq=>?_,s1.liveG⟩,⟨r1.gi,fun q C hq=>?_,fun q q' C C' hq hq' hbb=>?_,r1.gho⟩,?_,hK _ _ (.inr ⟨g,cap,by simp,updS_at⟩) .upd⟩
  ·rw [updS_apply] at hq
   split at hq
   ·injection hq with hq;subst hq;exact .inl hgb
   ·exact s1.live q C hq
  ·rw [updS_apply] at hq
   split at hq
   ·injection hq with hq;subst hq
    refine ⟨cur,el,hb,by simp,fun i es he=>by simp at he,fun i es j d he hd=>by simp at he,fun j hj=>?_,Nat.zero_le _⟩
    have:=hR.old g j hj;omega
   ·exact r1.has q C hq
  ·rw [updS_apply] at hq hq'
   split at hq<;>split at hq'
   ·rename_i e1 e2;rw [e1,e2]
   ·rename_i e1 _;injection hq with hq;subst hq;exact (hlt q' C' hq' hbb.symm).elim
   ·rename_i _ e2;injection hq' with hq';subst hq';exact (hlt q C hq hbb).elim
   ·exact r1.inj q q' C C' hq hq' hbb
  ·have:=RdD.own (I:=I) (H:=w'.heap) nm g 0 0 cap 4 cur el (0,0) (Nat.zero_le _) hcm (by omega) hb (by omega)
   simpa using this
end Go.V
namespace Go.V
open Go Go.RowKit Go.Proofs
theorem RowZ.app {S:Store} {K:D→Store→Prop} {q:SlZ} {k:Nm} {dd src:D} {els new:List (List D)} (h:RowZ S k q.s dd els) (hs:∀ K,K new→srcD S q.s src K) (hl:els.length + new.length≤140737488355328)
 (hb:(els.length + new.length) * q.bytes≤140737488355328) (hK:∀ d' S',RowZ S' k q.s d' (els ++ new)→Keep k S S'→K d' S'):appD q S k dd src K:=by
 rcases h with ⟨rfl,rfl⟩|⟨b0,cap0,rfl,hS⟩
 ·rw [appD_nil]
  refine hs _ ⟨by simpa using hl,by simpa using hb,fun h0=>?_,fun h0 b' cap'=>?_⟩
  ·subst h0;exact hK _ _ .nil .rfl
  ·exact hK _ _ (.inr ⟨b',cap',rfl,updS_at⟩) .upd
 ·rw [appD_own,hS]
  refine ⟨rfl,rfl,rfl,rfl,rfl,hs _ ⟨hl,hb,fun b' cap'=>?_⟩⟩
  exact hK _ _ (.inr ⟨b',cap',by simp,updS_at⟩) .upd
theorem srcD_MM {S:Store} {q:List Mo} {K:List (List D)→Prop}:srcD S 4 (.g (eS eM q)) K=K (rS eM q):=srcD_eS fun _ _=>rfl
set_option maxHeartbeats 1000000 in
theorem p_ConcatM {a b:List Mo} (ha:a.length≤10000) (hb:b.length≤10000):PC Tryz.prog 72 [.g (.sl [[eS eM a],[eS eM b]])] fun d=>d=MM (a ++ b):=by
 refine PB (rs:=[.tmp 2]) Tryz.func72 ?_
 repeat (first|(with_reducible first|refine pv_seq fun K hK=>?_|((first|refine hK _ _ ?_|(clear hK;refine hK _ _ ?_)|(clear hK;clear hK;refine hK _ _ ?_));clear hK;try clear K))| refine W0 ?_|exact Z|with_reducible intro b)
 refine pv_loop (fun e S=>Hid (e 0=.g (.sl [[eS eM a],[eS eM b]])∧e 9=.g (.sl [[eS eM a],[eS eM b]])∧e 10=i64 2∧((e 3=i64 0∧e 11=i64 0)∨(e 3=i64 a.length∧e 11=i64 1)∨(e 3=i64 ((a.length + b.length:Nat):Int)∧e 11=i64 2)))) (fun e _=>2 - (intD (e 11)).toNat) ?_ ?_
 ·exact ⟨Zr,Zr,Zr,.inl ⟨Zr,Zr⟩⟩
 ·rintro e S ⟨g0,g9,g10,⟨g3,g11⟩|⟨g3,g11⟩|⟨g3,g11⟩⟩
  ·have k0:decide ((a.length:Int)<0)=false:=decide_eq_false (by omega)
   have z0:(0:Int) + (a.length:Int)=(a.length:Int):=Int.zero_add _
   have ft:=And.intro g0 (And.intro g3 (And.intro g9 (And.intro g10 (And.intro g11 (And.intro z0 k0)))))
   repeat (first|(with_reducible first|refine pv_seq fun K hK=>?_|((first|refine hK _ _ ?_|(clear hK;refine hK _ _ ?_)|(clear hK;clear hK;refine hK _ _ ?_));clear hK;try clear K))| refine W0 ?_|exact Z|with_reducible intro b)
   exact ⟨⟨Zr,Zr,Zr,.inr (.inl ⟨Zr,Zr⟩)⟩,by simp only [intD];omega⟩
  ·have k0:decide (((a.length + b.length:Nat):Int)<0)=false:=decide_eq_false (by omega)
   have ft:=And.intro g0 (And.intro g3 (And.intro g9 (And.intro g11 (And.intro g10 k0))))
   repeat (first|(with_reducible first|refine pv_seq fun K hK=>?_|((first|refine hK _ _ ?_|(clear hK;refine hK _ _ ?_)|(clear hK;clear hK;refine hK _ _ ?_));clear hK;try clear K))| refine W0 ?_|exact Z|with_reducible intro b)
   exact ⟨⟨Zr,Zr,Zr,.inr (.inr ⟨Zr,Zr⟩)⟩,by simp only [intD];decide⟩
  ·have ft:=And.intro g0 (And.intro g9 (And.intro g3 (And.intro g10 g11)))
   repeat (first|(with_reducible first|refine pv_seq fun K hK=>?_|((first|refine hK _ _ ?_|(clear hK;refine hK _ _ ?_)|(clear hK;clear hK;refine hK _ _ ?_));clear hK;try clear K))| refine W0 ?_|exact Z|with_reducible intro b)
   refine p_GrowM (by omega) (.l 33) fun d S2 hr hS=>?_
   repeat (first|(with_reducible first|refine pv_seq fun K hK=>?_|((first|refine hK _ _ ?_|(clear hK;refine hK _ _ ?_)|(clear hK;clear hK;refine hK _ _ ?_));clear hK;try clear K))| refine W0 ?_|exact Z|with_reducible intro b)
   refine pv_loop (fun e S=>Hid (e 25=.g (.sl [[eS eM a],[eS eM b]])∧e 26=i64 2∧((RowZ S (.l 33) 4 (e 6) []∧e 27=i64 0)∨(RowZ S (.l 33) 4 (e 6) (rS eM a)∧e 27=i64 1)∨(RowZ S (.l 33) 4 (e 6) (rS eM (a ++ b))∧e 27=i64 2)))) (fun e _=>2 - (intD (e 27)).toNat) ?_ ?_
   ·exact ⟨Zr,Zr,.inl ⟨hr,Zr⟩⟩
   ·rintro e S ⟨g25,g26,⟨hr,g27⟩|⟨hr,g27⟩|⟨hr,g27⟩⟩
    ·have ft:=And.intro g25 (And.intro g26 g27)
     repeat (first|(with_reducible first|refine pv_seq fun K hK=>?_|((first|refine hK _ _ ?_|(clear hK;refine hK _ _ ?_)|(clear hK;clear hK;refine hK _ _ ?_));clear hK;try clear K))| refine W0 ?_|exact Z|with_reducible intro b)
     refine RowZ.app hr (fun K hK=>by rw [srcD_MM];exact hK) (by rw [rS_len];simp;omega) (by rw [rS_len];simp;omega) fun d' S' hr' hS'=>?_
     repeat (first|(with_reducible first|refine pv_seq fun K hK=>?_|((first|refine hK _ _ ?_|(clear hK;refine hK _ _ ?_)|(clear hK;clear hK;refine hK _ _ ?_));clear hK;try clear K))| refine W0 ?_|exact Z|with_reducible intro b)
     exact ⟨⟨Zr,Zr,.inr (.inl ⟨hr',Zr⟩)⟩,by simp only [intD];decide⟩
    ·have ft:=And.intro g25 (And.intro g27 g26)
     repeat (first|(with_reducible first|refine pv_seq fun K hK=>?_|((first|refine hK _ _ ?_|(clear hK;refine hK _ _ ?_)|(clear hK;clear hK;refine hK _ _ ?_));clear hK;try clear K))| refine W0 ?_|exact Z|with_reducible intro b)
     refine RowZ.app hr (fun K hK=>by rw [srcD_MM];exact hK) (by rw [rS_len,rS_len];omega) (by rw [rS_len,rS_len];simp;omega) fun d' S' hr' hS'=>?_
     rw [rS_app] at hr'
     repeat (first|(with_reducible first|refine pv_seq fun K hK=>?_|((first|refine hK _ _ ?_|(clear hK;refine hK _ _ ?_)|(clear hK;clear hK;refine hK _ _ ?_));clear hK;try clear K))| refine W0 ?_|exact Z|with_reducible intro b)
     exact ⟨⟨Zr,Zr,.inr (.inr ⟨hr',Zr⟩)⟩,by simp only [intD];decide⟩
    ·have ft:=And.intro g27 (And.intro g25 g26)
     repeat (first|(with_reducible first|refine pv_seq fun K hK=>?_|((first|refine hK _ _ ?_|(clear hK;refine hK _ _ ?_)|(clear hK;clear hK;refine hK _ _ ?_));clear hK;try clear K))| refine W0 ?_|exact Z|with_reducible intro b)
     exact hr.toD.coeD fun S' _ _=>rfl
theorem WfM.app {a b:List Mo} (ha:WfM a) (hb:WfM b) (hl:a.length + b.length≤100000):WfM (a ++ b):=by
 refine ⟨by rw [List.length_append];exact hl,fun m hm=>?_⟩
 rcases List.mem_append.1 hm with h|h
 ·exact ha.w m h
 ·exact hb.w m h
theorem polyB_len {q:List Mo} {n:Int} (h:polyB q n=true):q.length≤24:=by
 unfold polyB at h
 simp only [Bool.and_eq_true,decide_eq_true_eq] at h
 omega
def addR (a b:List Mo) (n:Int):List Mo × Int:=if polyB a n && polyB b n then pmkR (a ++ b) n else ([],1)
set_option maxHeartbeats 1000000 in
theorem p_pAdd {a b:List Mo} {n:Int} (ha:WfM a) (hb:WfM b):PC Tryz.prog 29 [MM a,MM b,i64 n] fun d=>d=LM (addR a b n):=by
 have p1:=p_pRight (n:=n) ha
 have p2:=p_pRight (n:=n) hb
 have l1:=polyB_len (q:=a) (n:=n)
 have l2:=polyB_len (q:=b) (n:=n)
 unfold addR
 cases h1:polyB a n with
 | false =>
   rw [h1] at p1
   unfold MM at *
   refine PB (rs:=[.tmp 6,.tmp 7]) Tryz.func29 ?_
   exact Wk
 | true =>
   cases h2:polyB b n with
   | false =>
     rw [h1] at p1
     rw [h2] at p2
     unfold MM at *
     refine PB (rs:=[.tmp 6,.tmp 7]) Tryz.func29 ?_
     exact Wk
   | true =>
     have l1:=l1 h1
     have l2:=l2 h2
     have pC:=p_ConcatM (a:=a) (b:=b) (by omega) (by omega)
     have pM:=p_pMake (q:=a ++ b) (n:=n) (ha.app hb (by omega)) (by rw [List.length_append];omega)
     rw [h1] at p1
     rw [h2] at p2
     simp only [Bool.and_self,if_true]
     generalize pmkR (a ++ b) n=r at *
     obtain ⟨r,e⟩:=r
     unfold MM LM at *
     refine PB (rs:=[.tmp 6,.tmp 7]) Tryz.func29 ?_
     exact Wk
end Go.V
namespace Go.V
open Go Go.RowKit Go.Proofs
def qQ11_73_2:PT:=(.lin [(1,0),(2,2)] (.fork3 0 4 (.lin [] (.fork 3 3 (.lin [(4,0),(5,4),(6,3)] .nil) 5 4 (.lin [(3,3),(4,0),(6,3)] .nil))) 3 3 (.lin [] (.fork 0 4 (.lin [(4,0),(5,4),(6,3)] .nil) 5 4 (.lin [(0,4),(4,0),(6,3)] .nil))) 5 4 (.lin [] (.fork 0 4 (.lin [(3,3),(4,0),(6,3)] .nil) 3 3 (.lin [(0,4),(4,0),(6,3)] .nil)))))
attribute [go_sem] qQ11_73_2
def pz (a b:List Int):Nat→List Int
 | 0=>a
 | i + 1=>(pz a b i).set i (a.getD i 0 + b.getD i 0)
theorem pz_len {a b:List Int}:∀ i,(pz a b i).length=a.length
 | 0=>rfl
 | i + 1=>by unfold pz;rw [List.length_set,pz_len i]
theorem pz_get {a b:List Int}:∀ i j,i≤a.length→(pz a b i)[j]? = if j<i then some (a.getD j 0 + b.getD j 0) else a[j]?
 | 0,j,_=>by rw [if_neg (Nat.not_lt_zero _)];rfl
 | i + 1,j,h=>by
   unfold pz
   by_cases hij:i=j
   ·subst hij
    rw [List.getElem?_set_self (by rw [pz_len];omega),if_pos (by omega)]
   ·rw [List.getElem?_set_ne hij,pz_get i j (by omega)]
    by_cases h1:j<i
    ·rw [if_pos h1,if_pos (by omega)]
    ·rw [if_neg h1,if_neg (by omega)]
def zs (a b:List Int):List Int:=List.zipWith (· + ·) a b
theorem pz_all {a b:List Int} (h:a.length=b.length):pz a b a.length=zs a b:=by
 refine List.ext_getElem? fun j=>?_
 rw [pz_get _ j (Nat.le_refl _)]
 unfold zs
 rw [List.getElem?_zipWith]
 by_cases hj:j<a.length
 ·rw [if_pos hj,List.getElem?_eq_getElem hj,List.getElem?_eq_getElem (h ▸ hj),show a.getD j 0=a[j] from by simp [List.getD,hj],show b.getD j 0=b[j]'(h ▸ hj) from by simp [List.getD,h ▸ hj]]
 ·rw [if_neg hj,List.getElem?_eq_none (by omega)]
theorem RowZ.upd {S S':Store} {k:Nm} {s:Nat} {d:D} {els:List (List D)} (h:RowZ S' k s d els) (hS:Keep k S S') (h0:0<els.length):∃ b cap,d=.own k b 0 els.length cap s∧S'=updS S k (some ⟨b,s,0,els⟩):=by
 rcases h with ⟨_,rfl⟩|⟨b,cap,h1,h2⟩
 ·exact absurd h0 (Nat.lt_irrefl _)
 ·refine ⟨b,cap,h1,Store.ext2 (fun q=>?_) hS.g⟩
  rw [updS_apply]
  split
  ·rename_i e;rw [e,h2]
  ·rename_i e;exact hS q e
theorem p_CloneX {z:List Int} (hz:∀ x ∈ z,0≤x) (hl:z.length≤100000) (h0:0<z.length) {S:Store} {K:D→Store→Prop} (nm:Nm) (hK:∀ b cap,K (.own nm b 0 z.length cap 1) (updS S nm (some ⟨b,1,0,rS eZ z⟩))):PFC Tryz.prog 57 [.g (eS eZ z)] S K:=by
 refine p_CloneO hz hl nm fun d S' hr hS=>?_
 obtain ⟨b,cap,rfl,rfl⟩:=hr.upd hS (by rw [rS_len];exact h0)
 rw [rS_len]
 exact hK b cap
set_option maxHeartbeats 1000000 in
theorem p_product {a b:Dyadic} {x y:List Int} (ha:OkD a) (hb:OkD b) (hx:∀ k ∈ x,0≤k∧k≤8) (hy:∀ k ∈ y,0≤k∧k≤8) (hl:x.length=y.length) (h1:1≤x.length) (h4:x.length≤4) :
 PC Tryz.prog 73 [MO ⟨nuOf a,x⟩,MO ⟨nuOf b,y⟩] fun d=>d=.tup [MO ⟨(numR (a * b)).1,zs x y⟩,i64 (numR (a * b)).2]:=by
 have pM:=p_nMulD ha hb
 generalize numR (a * b)=r at *
 obtain ⟨⟨n3,e3,w3⟩,e⟩:=r
 generalize nuOf a=u at *
 generalize nuOf b=v at *
 obtain ⟨n1,e1,w1⟩:=u
 obtain ⟨n2,e2',w2⟩:=v
 have hx0:∀ k ∈ x,0≤k:=fun k hk=>(hx k hk).1
 have hpos:0<x.length:=h1
 rw [← pz_all hl]
 unfold NE NU at pM
 have d1:=@dr 2 qQ11_73_2
 refine PB (rs:=[.cell 4 45,.tmp 5]) Tryz.func73 ?_
 repeat (first|(with_reducible first|refine pv_seq fun K hK=>?_|((first|refine hK _ _ ?_|(clear hK;refine hK _ _ ?_)|(clear hK;clear hK;refine hK _ _ ?_));clear hK;try clear K))| refine W0 ?_|exact Z|with_reducible intro b)
 refine call_is pM ?_
 repeat (first|with_reducible refine pv_stop 2 ?_|(with_reducible first|refine pv_seq fun K hK=>?_|((first|refine hK _ _ ?_|(clear hK;refine hK _ _ ?_)|(clear hK;clear hK;refine hK _ _ ?_));clear hK;try clear K))| refine W ?_|exact Z|with_reducible intro b)
 refine ⟨fun K2 q2 hC=>?_⟩
 have J2:∀ (e2:DEnv) (S2:Store) (b3 b4 b8 b9 cap:Nat),e2 3=.ptr (.l 3) b3 0 0 4→e2 4=.ptr (.l 4) b4 0 0 4→e2 7=i64 e→e2 8=.ptr (.l 8) b8 0 0 4→S2 (.l 3)=some ⟨b3,4,0,[[bl n2,i64 e2',W64 w2,.g (eS eZ y)]]⟩→S2 (.l 4)=some ⟨b4,4,0,[[bl false,i64 0,.nil,.nil]]⟩ →
  S2 (.l 8)=some ⟨b8,4,0,[[bl n3,i64 e3,W64 w3,.own (.l 22) b9 0 x.length cap 1]]⟩→S2 (.l 22)=some ⟨b9,1,0,rS eZ x⟩→K2 e2 S2:=by
  intro f S2 b3 b4 b8 b9 cap g3 g4 g7 g8 s3 s4 s8 s22
  refine q2 _ _ ?_
  clear q2 hC
  have ft:=And.intro g3 (And.intro g4 (And.intro g7 (And.intro g8 (And.intro s3 (And.intro s4 (And.intro s8 s22))))))
  repeat (first|(with_reducible first|refine pv_seq fun K hK=>?_|((first|refine hK _ _ ?_|(clear hK;refine hK _ _ ?_)|(clear hK;clear hK;refine hK _ _ ?_));clear hK;try clear K))| refine W0 ?_|exact Z|with_reducible intro b)
  refine pv_loop (fun e2 S=>Hid (∃ i:Nat,i≤x.length∧e2 4=.ptr (.l 4) b4 0 0 4∧e2 7=i64 e∧e2 8=.ptr (.l 8) b8 0 0 4∧e2 25=.g (eS eZ y)∧e2 26=i64 y.length∧e2 27=i64 i∧S (.l 4)=some ⟨b4,4,0,[[bl false,i64 0,.nil,.nil]]⟩∧S (.l 8)=some ⟨b8,4,0,[[bl n3,i64 e3,W64 w3,.own (.l 22) b9 0 x.length cap 1]]⟩∧S (.l 22)=some ⟨b9,1,0,rS eZ (pz x y i)⟩)) (fun e _=>x.length - (intD (e 27)).toNat) ?_ ?_
  ·exact ⟨0,Nat.zero_le _,Zr,Zr,Zr,Zr,Zr,Zr,s4,s8,s22⟩
  ·rintro e2 S ⟨i,hi,g4,g7,g8,g25,g26,g27,s4,s8,s22⟩
   have ft:=And.intro g4 (And.intro g7 (And.intro g8 (And.intro g25 (And.intro g26 (And.intro g27 (And.intro s4 (And.intro s8 s22)))))))
   repeat (first|(with_reducible first|refine pv_seq fun K hK=>?_|((first|refine hK _ _ ?_|(clear hK;refine hK _ _ ?_)|(clear hK;clear hK;refine hK _ _ ?_));clear hK;try clear K))| refine W0 ?_|exact Z|with_reducible intro b)
   refine pv_cdD (fun ht=>?_) (fun ht=>?_)
   ·have hil:i<x.length:=by omega
    have qy:=zget (l:=y) (i:=i) (by omega)
    have qx:(rS eZ (pz x y i))[i]? = some [i64 (x.getD i 0)]:=by
     rw [rS_get,pz_get _ _ hi,if_neg (Nat.lt_irrefl _),zget hil];rfl
    have hset:(rS eZ (pz x y i)).set i [i64 (x.getD i 0 + y.getD i 0)]=rS eZ (pz x y (i + 1)):=rS_set rfl
    have bx:=hx _ (List.mem_of_getElem? (zget hil))
    have byy:=hy _ (List.mem_of_getElem? qy)
    have hpl:=pz_len (a:=x) (b:=y) i
    generalize pz x y i=P at *
    generalize x.getD i 0=xi at *
    generalize y.getD i 0=yi at *
    have ft:=And.intro g4 (And.intro g7 (And.intro g8 (And.intro g25 (And.intro g26 (And.intro g27 (And.intro s4 (And.intro s8 (And.intro s22 (And.intro qx qy)))))))))
    repeat (first|(with_reducible first|refine pv_seq fun K hK=>?_|((first|refine hK _ _ ?_|(clear hK;refine hK _ _ ?_)|(clear hK;clear hK;refine hK _ _ ?_));clear hK;try clear K))| refine W0 ?_|exact Z|with_reducible intro b)
    exact ⟨⟨i + 1,by omega,Zr,Zr,Zr,Zr,Zr,Zr,s4,s8,by rw [← hset];rfl⟩,by simp only [intD];omega⟩
   ·obtain rfl:i=x.length:=by omega
    have ft:=And.intro g4 (And.intro g7 (And.intro g8 (And.intro s4 (And.intro s8 s22))))
    repeat (first|(with_reducible first|refine pv_seq fun K hK=>?_|((first|refine hK _ _ ?_|(clear hK;refine hK _ _ ?_)|(clear hK;clear hK;refine hK _ _ ?_));clear hK;try clear K))| refine W0 ?_|exact Z|with_reducible intro b)
    refine ⟨by rw [rS_len,pz_len];exact Nat.le_refl _,?_⟩
    rw [List.take_of_length_le (by rw [rS_len,pz_len];exact Nat.le_refl _),pureLL_rS]
    rfl
 clear q2 hC
 repeat (first|(with_reducible first|refine pv_seq fun K hK=>?_|((first|refine hK _ _ ?_|(clear hK;refine hK _ _ ?_)|(clear hK;clear hK;refine hK _ _ ?_));clear hK;try clear K))| refine W0 ?_|exact Z|with_reducible intro b)
 repeat' (first|(with_reducible first|refine pv_seq fun K hK=>?_|((first|refine hK _ _ ?_|(clear hK;refine hK _ _ ?_)|(clear hK;clear hK;refine hK _ _ ?_));clear hK;try clear K))| refine W ?_|exact Z|with_reducible intro b|with_reducible refine And.intro ?_ ?_|refine p_CloneX hx0 (by omega) hpos (.l 22) fun b9 cap=>?_|exact J2 _ _ _ _ _ _ _ Zr Zr Zr Zr (by simp only [updS_apply];rfl) (by simp only [updS_apply];rfl) (by simp only [updS_apply];rfl) (by simp only [updS_apply];rfl))
end Go.V
namespace Go.V
open Go Go.RowKit Go.Proofs
def tm (x y:Mo):Te:=⟨x.c.val * y.c.val,zs x.e y.e⟩
def mulP (a b:List Mo) (i j:Nat):List Te:=((a.take i).flatMap fun x=>b.map (tm x)) ++ (b.take j).map (tm (gM a i))
def mulT (a b:List Mo):List Te:=a.flatMap fun x=>b.map (tm x)
theorem mulP_step {a b:List Mo} {i j:Nat} (hj:j<b.length):mulP a b i (j + 1)=mulP a b i j ++ [tm (gM a i) (gM b j)]:=by
 unfold mulP
 rw [List.take_add_one,gM_at hj,List.map_append,← List.append_assoc];rfl
theorem mulP_row {a b:List Mo} {i:Nat} (hi:i<a.length):mulP a b (i + 1) 0=mulP a b i b.length:=by
 unfold mulP
 rw [List.take_add_one,gM_at hi,List.take_length]
 simp
theorem mulP_all {a b:List Mo}:mulP a b a.length 0=mulT a b:=by
 unfold mulP mulT
 rw [List.take_length];simp
theorem mulT_mem {a b:List Mo} {t:Te} (h:t ∈ mulT a b):∃ x ∈ a,∃ y ∈ b,t=tm x y:=by
 unfold mulT at h
 obtain ⟨x,hx,h⟩:=List.mem_flatMap.1 h
 obtain ⟨y,hy,rfl⟩:=List.mem_map.1 h
 exact ⟨x,hx,y,hy,rfl⟩
theorem mulT_of {a b:List Mo} {x y:Mo} (hx:x ∈ a) (hy:y ∈ b):tm x y ∈ mulT a b:=List.mem_flatMap.2 ⟨x,hx,List.mem_map.2 ⟨y,hy,rfl⟩⟩
theorem mulT_len {a b:List Mo}:(mulT a b).length=a.length * b.length:=by
 unfold mulT
 induction a with
 | nil=>simp
 | cons x a ih=>rw [List.flatMap_cons,List.length_append,ih,List.length_map,List.length_cons,Nat.add_mul];omega
theorem mulP_len {a b:List Mo} {i j:Nat} (hi:i≤a.length) (hj:j≤b.length):(mulP a b i j).length=i * b.length + j:=by
 unfold mulP
 have:=mulT_len (a:=a.take i) (b:=b)
 unfold mulT at this
 rw [List.length_append,this,List.length_map,List.length_take,List.length_take,Nat.min_eq_left hi,Nat.min_eq_left hj]
def okT (l:List Te):Bool:=decide (∀ t ∈ l,OkD t.v)
def mulR (a b:List Mo) (n:Int):List Mo × Int :=
 if polyB a n && polyB b n then (if decide (0<a.length) && decide (0<b.length) && decide (8<degR a + degR b) then ([],6) else if okT (mulT a b) then gathR (mulT a b) else ([],2)) else ([],1)
theorem okT_no {l:List Te} {t:Te} (ht:t ∈ l) (h:¬ OkD t.v):okT l=false:=decide_eq_false fun h2=>h (h2 t ht)
theorem degN_ge {q:List Mo}:∀ i j,j<i→(gM q j).e.sum≤degN q i
 | 0,j,h=>by omega
 | i + 1,j,h=>by
   show _≤maxI (degN q i) (gM q i).e.sum
   unfold maxI
   rcases Nat.lt_or_ge j i with h1|h1
   ·have:=degN_ge (q:=q) i j h1
    split<;>omega
   ·obtain rfl:j=i:=by omega
    split<;>omega
theorem degR_ge {q:List Mo} {n:Int} (h:polyB q n=true) {m:Mo} (hm:m ∈ q):m.e.sum≤degR q:=by
 have h0:¬ q.length=0:=fun h=>by rw [List.eq_nil_of_length_eq_zero h] at hm;cases hm
 have hl:=(polyB_ok h _ (gM_mem (l:=q) (i:=0) (by omega))).len
 unfold degR
 rw [if_neg h0,hl,if_pos h]
 obtain ⟨i,hi⟩:=List.getElem?_of_mem hm
 have hil:i<q.length:=(List.getElem?_eq_some_iff.1 hi).1
 have:=degN_ge (q:=q) q.length i hil
 rw [gM_at hil] at hi
 injection hi with hi
 rwa [hi] at this
theorem zs_len {a b:List Int} (h:a.length=b.length):(zs a b).length=a.length:=by unfold zs;rw [List.length_zipWith];omega
theorem zs_sum:∀ {a b:List Int},a.length=b.length→(zs a b).sum=a.sum + b.sum
 | [],[],_=>rfl
 | x :: a,y :: b,h=>by
   have ih:=zs_sum (a:=a) (b:=b) (by simpa using h)
   unfold zs at ih ⊢
   simp only [List.zipWith_cons_cons,List.sum_cons,ih];omega
 | [],_ :: _,h=>by simp at h
 | _ :: _,[],h=>by simp at h
theorem zs_nn {a b:List Int} (ha:∀ x ∈ a,0≤x) (hb:∀ x ∈ b,0≤x):∀ x ∈ zs a b,0≤x:=fun x hx=>by
 unfold zs at hx
 obtain ⟨i,hi⟩:=List.getElem?_of_mem hx
 rw [List.getElem?_zipWith] at hi
 cases h1:a[i]? with
 | none=>rw [h1] at hi;simp at hi
 | some u =>
   cases h2:b[i]? with
   | none=>rw [h1,h2] at hi;simp at hi
   | some v =>
     rw [h1,h2] at hi
     simp only [Option.some.injEq] at hi
     have:=ha u (List.mem_of_getElem? h1)
     have:=hb v (List.mem_of_getElem? h2)
     omega
def moN (t:Te):Mo:=⟨nuOf t.v,t.e⟩
theorem teM_moN {t:Te}:teM (moN t)=t:=by unfold teM moN;simp only [val_nuOf]
theorem mulT_ok {a b:List Mo} {n:Int} (ha:polyB a n=true) (hb:polyB b n=true) (h8:0<a.length→0<b.length→degR a + degR b≤8) {t:Te} (ht:t ∈ mulT a b):(t.e.length:Int)=n∧(∀ x ∈ t.e,0≤x)∧t.e.sum≤8:=by
 obtain ⟨x,hx,y,hy,rfl⟩:=mulT_mem ht
 have h1:=polyB_ok ha x hx
 have h2:=polyB_ok hb y hy
 have h8:=h8 (List.length_pos_of_mem hx) (List.length_pos_of_mem hy)
 have hl:x.e.length=y.e.length:=by have:=h1.len;have:=h2.len;omega
 have g1:=degR_ge ha hx
 have g2:=degR_ge hb hy
 refine ⟨?_,zs_nn h1.nn h2.nn,?_⟩
 ·show ((zs x.e y.e).length:Int)=n
  rw [zs_len hl];exact h1.len
 ·show (zs x.e y.e).sum≤8
  rw [zs_sum hl];omega
theorem polyB_n {q:List Mo} {n:Int} (h:polyB q n=true):1≤n∧n≤4:=by
 unfold polyB at h
 simp only [Bool.and_eq_true,decide_eq_true_eq] at h
 exact ⟨h.1.1.1,h.1.1.2⟩
theorem pmkR_mul {a b:List Mo} {n:Int} (ha:polyB a n=true) (hb:polyB b n=true) (h8:0<a.length→0<b.length→degR a + degR b≤8) (hok:okT (mulT a b)=true):pmkR ((mulT a b).map moN) n=gathR (mulT a b):=by
 have hn:=polyB_n ha
 have hall:allM ((mulT a b).map moN) n=true:=decide_eq_true fun m hm=>by
  obtain ⟨t,ht,rfl⟩:=List.mem_map.1 hm
  have h:=mulT_ok ha hb h8 ht
  have ho:=of_decide_eq_true hok t ht
  unfold monoB
  rw [decide_eq_true (show (((moN t).e.length:Nat):Int)=n from h.1),decide_eq_true (show ∀ x ∈ (moN t).e,0≤x from h.2.1),decide_eq_true (show (moN t).e.sum≤8 from h.2.2),show (moN t).c=nuOf t.v from rfl,rightB_nuOf,decide_eq_true ho];rfl
 unfold pmkR
 rw [hall,decide_eq_true hn.1,decide_eq_true hn.2,List.map_map,show teM ∘ moN=id from funext fun t=>teM_moN,List.map_id];rfl
theorem wf_mul {a b:List Mo} {n:Int} (ha:polyB a n=true) (hb:polyB b n=true) (h8:0<a.length→0<b.length→degR a + degR b≤8) (hok:okT (mulT a b)=true):WfM ((mulT a b).map moN):=by
 have l1:=polyB_len ha
 have l2:=polyB_len hb
 have hn:=polyB_n ha
 have h3:a.length * b.length≤24 * 24:=Nat.mul_le_mul l1 l2
 refine ⟨by rw [List.length_map,mulT_len];omega,fun m hm=>?_⟩
 obtain ⟨t,ht,rfl⟩:=List.mem_map.1 hm
 have h:=mulT_ok ha hb h8 ht
 have ho:=of_decide_eq_true hok t ht
 exact ⟨ho.sz.wl,by show t.e.length≤100000;have:=h.1;omega⟩
end Go.V
namespace Go.V
open Go Go.RowKit Go.Proofs
theorem sum8_le {l:List Int} (h:∀ x ∈ l,0≤x) (h8:l.sum≤8):∀ k ∈ l,0≤k∧k≤8:=fun k hk=>by
 refine ⟨h k hk,?_⟩
 obtain ⟨i,hi⟩:=List.getElem?_of_mem hk
 have:=le_sum h i (List.getElem?_eq_some_iff.1 hi).1
 rw [List.getD,hi] at this
 simp only [Option.getD_some] at this
 omega
theorem RowD.coe2 {α:Type} {f:α→List G} {xs:List α} {k:Nm} {s:Nat} {S:Store} {dd:D} {x:G} {K:List D→Store→Prop} (h:RowD S k s dd (rS f xs)) (hk:∀ S',RowD S' k s dd (rS f xs)→Keep k S S'→K [.g (eS f xs),.g x] S'):coeDs [dd,.g x] S K:=by
 rw [coeDs_cons]
 exact h.coeD hk
set_option maxHeartbeats 4000000 in
theorem p_pMul {a c:List Mo} {n:Int} (ha:WfM a) (hc:WfM c):PC Tryz.prog 30 [MM a,MM c,i64 n] fun d=>d=LM (mulR a c n):=by
 have p1:=p_pRight (n:=n) ha
 have p2:=p_pRight (n:=n) hc
 unfold mulR
 cases h1:polyB a n with
 | false =>
   rw [h1] at p1
   unfold MM at *
   refine PB (rs:=[.tmp 6,.tmp 7]) Tryz.func30 ?_
   exact Wk
 | true =>
   cases h2:polyB c n with
   | false =>
     rw [h1] at p1
     rw [h2] at p2
     unfold MM at *
     refine PB (rs:=[.tmp 6,.tmp 7]) Tryz.func30 ?_
     exact Wk
   | true =>
     rw [h1] at p1
     rw [h2] at p2
     have pd1:=p_pDegree ha
     have pd2:=p_pDegree hc
     have hd1:=degR_le a
     have hd2:=degR_le c
     have pok1:=polyB_ok h1
     have pok2:=polyB_ok h2
     have han:=ha.n
     have hcn:=hc.n
     have hn:=polyB_n h1
     have l1:=polyB_len h1
     have l2:=polyB_len h2
     have hno:=fun (t:Te) (ht:t ∈ mulT a c)=>okT_no ht
     have hpm:=fun h8 hok=>p_pMake (q:=(mulT a c).map moN) (n:=n) (wf_mul h1 h2 h8 hok) (by rw [List.length_map,mulT_len];have h3:a.length * c.length≤24 * 24:=Nat.mul_le_mul l1 l2;omega)
     have hpr:=fun h8 hok=>pmkR_mul h1 h2 h8 hok
     simp only [Bool.and_self,if_true]
     generalize hres:(if (decide (0<a.length) && decide (0<c.length) && decide (8<degR a + degR c))=true then ([],6) else if okT (mulT a c)=true then gathR (mulT a c) else ([],2))=res
     have r6:0<a.length→0<c.length→8<degR a + degR c→res=([],6):=fun u v w=>by
      rw [← hres,decide_eq_true u,decide_eq_true v,decide_eq_true w];rfl
     have rn:(0<a.length→0<c.length→degR a + degR c≤8)→res=if okT (mulT a c)=true then gathR (mulT a c) else ([],2):=fun h8=>by
      have hif:(decide (0<a.length) && decide (0<c.length) && decide (8<degR a + degR c))=false:=by
       rcases Nat.eq_zero_or_pos a.length with h0|h0
       ·rw [h0];rfl
       ·rcases Nat.eq_zero_or_pos c.length with h3|h3
        ·rw [h3];simp
        ·rw [decide_eq_false (show ¬ 8<degR a + degR c by have:=h8 h0 h3;omega),Bool.and_false]
      rw [← hres,hif];rfl
     clear hres
     unfold MM at *
     refine PB (rs:=[.tmp 6,.tmp 7]) Tryz.func30 ?_
     repeat (first|with_reducible refine pv_stopB 0 ?_|(with_reducible first|refine pv_seq fun K hK=>?_|((first|refine hK _ _ ?_|(clear hK;refine hK _ _ ?_)|(clear hK;clear hK;refine hK _ _ ?_));clear hK;try clear K))| refine W ?_|exact Z|with_reducible intro b)
     refine ⟨fun K0 q0 hC=>?_⟩
     have J0:∀ (e:DEnv) (S:Store),e 0=.g (eS eM a)→e 1=.g (eS eM c)→e 2=i64 n→(0<a.length→0<c.length→degR a + degR c≤8)→K0 e S:=by
      intro e S g0 g1 g2 h8
      refine q0 _ _ ?_
      clear q0 hC
      have hpm:=hpm h8
      have hpr:=hpr h8
      have rn:=rn h8
      have ft:=And.intro g0 (And.intro g1 g2)
      repeat (first|(with_reducible first|refine pv_seq fun K hK=>?_|((first|refine hK _ _ ?_|(clear hK;refine hK _ _ ?_)|(clear hK;clear hK;refine hK _ _ ?_));clear hK;try clear K))| refine W0 ?_|exact Z|with_reducible intro b)
      have JF:∀ (e:DEnv) (S:Store),e 2=i64 n→okT (mulT a c)=true→RowZ S (.l 67) 4 (e 8) (rS eM ((mulT a c).map moN))→K e S:=by
       intro e S g2 hok hw
       have hpm:=hpm hok
       rw [hpr hok] at hpm
       rw [if_pos hok] at rn
       rw [← rn] at hpm
       clear rn hpr
       generalize (mulT a c).map moN=l at *
       obtain ⟨r,er⟩:=res
       unfold LM at *
       have ft:=g2
       repeat (first|(with_reducible first|refine pv_seq fun K hK=>?_|((first|refine hK _ _ ?_|(clear hK;refine hK _ _ ?_)|(clear hK;clear hK;refine hK _ _ ?_));clear hK;try clear K))| refine W0 ?_|exact Z|with_reducible intro b)
       refine PFC.coe (hw.toD.coe2 fun S' _ _=>?_)
       exact Wk
      have rno:∀ t ∈ mulT a c,¬ OkD t.v→res=([],2):=fun t ht hc=>by rw [rn,hno t ht hc];rfl
      clear rn hpm hpr hno hK
      obtain ⟨I,mk,el⟩:=hide fun e S=>∃ i:Nat,i≤a.length∧e 1=.g (eS eM c)∧e 2=i64 n∧e 43=.g (eS eM a)∧e 44=i64 a.length∧e 45=i64 i∧RowZ S (.l 67) 4 (e 8) (rS eM ((mulP a c i 0).map moN))∧∀ t ∈ mulP a c i 0,OkD t.v
      refine pv_loop I (fun e _=>a.length - (intD (e 45)).toNat) ?_ ?_
      ·have ft:=And.intro g0 (And.intro g2 g1)
       exact mk _ _ ⟨0,Nat.zero_le _,Zr,Zr,Zr,Zr,Zr,.inl ⟨Zr,rfl⟩,fun t ht=>by cases ht⟩
      ·intro e S hI
       obtain ⟨i,hi,g1,g2,g43,g44,g45,hw,hz⟩:=el e S hI
       clear el hI
       have hm0:(intD (e 45)).toNat=i:=by rw [g45];exact Int.toNat_natCast i
       have ft:=And.intro g1 (And.intro g2 (And.intro g43 (And.intro g44 g45)))
       repeat (first|(with_reducible first|refine pv_seq fun K hK=>?_|((first|refine hK _ _ ?_|(clear hK;refine hK _ _ ?_)|(clear hK;clear hK;refine hK _ _ ?_));clear hK;try clear K))| refine W0 ?_|exact Z|with_reducible intro b)
       refine pv_cdD (fun ht=>?_) (fun ht=>?_)
       ·have hil:i<a.length:=by omega
        have q1:=gM_at hil
        have ok1:=pok1 _ (gM_mem hil)
        have wa:=ha.w _ (gM_mem hil)
        have hma:=gM_mem hil
        have hrow:=mulP_row (b:=c) hil
        have mk2:∀ (e:DEnv) (S:Store),e 1=.g (eS eM c)→e 2=i64 n→e 43=.g (eS eM a)→e 44=i64 a.length→e 45=i64 ((i + 1:Nat):Int)→RowZ S (.l 67) 4 (e 8) (rS eM ((mulP a c i c.length).map moN))→(∀ t ∈ mulP a c i c.length,OkD t.v)→I e S:=fun e S a1 a2 a3 a4 a5 a6 a7=>mk _ _ ⟨i + 1,by omega,a1,a2,a3,a4,a5,by rw [hrow];exact a6,by rw [hrow];exact a7⟩
        have hmi:a.length - (i + 1)<a.length - i:=by omega
        clear mk JF hrow
        have htm:∀ y,tm (gM a i) y=⟨(gM a i).c.val * y.c.val,zs (gM a i).e y.e⟩:=fun y=>rfl
        obtain ⟨da,hda,hdc⟩:=right_is wa.c.b ok1.right
        have hva:(gM a i).c.val=da:=by rw [hdc,val_nuOf]
        have hs:=sum8_le ok1.nn ok1.sum
        have hlx:=ok1.len
        have hmul:=fun j (hj:j<c.length)=>mulP_step (a:=a) (i:=i) hj
        have hpl:=fun j (hj:j≤c.length)=>mulP_len (a:=a) (b:=c) (i:=i) hi hj
        have hib:i * c.length≤24 * 24:=Nat.mul_le_mul (by omega) l2
        generalize gM a i=m at *
        obtain ⟨⟨n1,e1,w1⟩,z⟩:=m
        simp only at *
        have ft:=And.intro g1 (And.intro g2 (And.intro g43 (And.intro g44 (And.intro g45 q1))))
        repeat (first|(with_reducible first|refine pv_seq fun K hK=>?_|((first|refine hK _ _ ?_|(clear hK;refine hK _ _ ?_)|(clear hK;clear hK;refine hK _ _ ?_));clear hK;try clear K))| refine W0 ?_|exact Z|with_reducible intro b)
        obtain ⟨I2,mk3,el2⟩:=hide fun e S=>∃ j:Nat,j≤c.length∧e 1=.g (eS eM c)∧e 2=i64 n∧e 10=.ptr (.l 10) b 0 0 4∧e 43=.g (eS eM a)∧e 44=i64 a.length∧e 45=i64 i∧e 49=.g (eS eM c)∧e 50=i64 c.length∧e 51=i64 j∧S (.l 10)=some ⟨b,4,0,[[bl n1,i64 e1,W64 w1,.g (eS eZ z)]]⟩∧RowZ S (.l 67) 4 (e 8) (rS eM ((mulP a c i j).map moN))∧∀ t ∈ mulP a c i j,OkD t.v
        refine pv_loop I2 (fun e _=>c.length - (intD (e 51)).toNat) ?_ ?_
        ·have hw:=hw.up (S':=updS S (.l 10) (some ⟨b,4,0,[[bl n1,i64 e1,W64 w1,.g (eS eZ z)]]⟩)) rfl
         exact mk3 _ _ ⟨0,Nat.zero_le _,Zr,Zr,Zr,Zr,Zr,Zr,Zr,Zr,Zr,rfl,hw,hz⟩
        ·clear hw hz
         intro e S hI
         obtain ⟨j,hj,g1,g2,g10,g43,g44,g45,g49,g50,g51,s10,hw,hz⟩:=el2 e S hI
         clear el2 hI
         have hm1:(intD (e 51)).toNat=j:=by rw [g51];exact Int.toNat_natCast j
         have ft:=And.intro g1 (And.intro g2 (And.intro g10 (And.intro g43 (And.intro g44 (And.intro g45 (And.intro g49 (And.intro g50 (And.intro g51 s10))))))))
         repeat (first|(with_reducible first|refine pv_seq fun K hK=>?_|((first|refine hK _ _ ?_|(clear hK;refine hK _ _ ?_)|(clear hK;clear hK;refine hK _ _ ?_));clear hK;try clear K))| refine W0 ?_|exact Z|with_reducible intro b)
         refine pv_cdD (fun ht=>?_) (fun ht=>?_)
         ·have hjl:j<c.length:=by omega
          have q2:=gM_at hjl
          have ok2:=pok2 _ (gM_mem hjl)
          have wc2:=hc.w _ (gM_mem hjl)
          have hmul:=hmul j hjl
          have hpl:=hpl j hj
          have hmc:=gM_mem hjl
          have mk4:∀ (e:DEnv) (S:Store),e 1=.g (eS eM c)→e 2=i64 n→e 10=.ptr (.l 10) b 0 0 4→e 43=.g (eS eM a)→e 44=i64 a.length→e 45=i64 i→e 49=.g (eS eM c)→e 50=i64 c.length→e 51=i64 ((j + 1:Nat):Int)→S (.l 10)=some ⟨b,4,0,[[bl n1,i64 e1,W64 w1,.g (eS eZ z)]]⟩ →
           RowZ S (.l 67) 4 (e 8) (rS eM ((mulP a c i (j + 1)).map moN))→(∀ t ∈ mulP a c i (j + 1),OkD t.v)→I2 e S:=fun e S a1 a2 a3 a4 a5 a6 a7 a8 a9 a10 a11 a12=>mk3 _ _ ⟨j + 1,by omega,a1,a2,a3,a4,a5,a6,a7,a8,a9,a10,a11,a12⟩
          clear mk3
          have hin:=rno _ (mulT_of hma hmc)
          rw [htm] at hmul hin
          obtain ⟨dc,hdd,hdc2⟩:=right_is wc2.c.b ok2.right
          have hvc:(gM c j).c.val=dc:=by rw [hdc2,val_nuOf]
          rw [hva,hvc] at hmul hin
          have hs2:=sum8_le ok2.nn ok2.sum
          have hly:=ok2.len
          have pP:=p_product (x:=z) (y:=(gM c j).e) hda hdd hs hs2 (by omega) (by omega) (by omega)
          rw [← hdc,← hdc2] at pP
          have hlen:((mulP a c i j).map moN).length=i * c.length + j:=by rw [List.length_map,hpl]
          have hap:(mulP a c i (j + 1)).map moN=(mulP a c i j).map moN ++ [⟨nuOf (da * dc),zs z (gM c j).e⟩]:=by rw [hmul,List.map_append];rfl
          have hzn:OkD (da * dc)→∀ t ∈ mulP a c i (j + 1),OkD t.v:=fun h t ht=>by
           rw [hmul] at ht
           rcases List.mem_append.1 ht with h1|h1
           ·exact hz t h1
           ·rw [List.mem_singleton.1 h1];exact h
          have hzs:=zs_len (a:=z) (b:=(gM c j).e) (by omega)
          clear hmul ok2 wc2 hmc
          generalize (mulP a c i (j + 1)).map moN=L2 at *
          generalize (mulP a c i j).map moN=L at *
          generalize zs z (gM c j).e=zz at *
          generalize gM c j=m2 at *
          obtain ⟨⟨n2,e2,w2⟩,z2⟩:=m2
          simp only at *
          by_cases hod:OkD (da * dc)
          ·rw [numR_ok hod] at pP
           have hzn:=hzn hod
           generalize nuOf (da * dc)=u at *
           obtain ⟨n3,e3,w3⟩:=u
           have hnew:=rS_m (l:=L) (m:=⟨⟨n3,e3,w3⟩,zz⟩)
           rw [← hap] at hnew
           simp only at hnew
           unfold MO at pP
           simp only at pP
           have ft:=And.intro g1 (And.intro g2 (And.intro g10 (And.intro g43 (And.intro g44 (And.intro g45 (And.intro g49 (And.intro g50 (And.intro g51 (And.intro s10 q2)))))))))
           repeat (first|(with_reducible first|refine pv_seq fun K hK=>?_|((first|refine hK _ _ ?_|(clear hK;refine hK _ _ ?_)|(clear hK;clear hK;refine hK _ _ ?_));clear hK;try clear K))| refine W ?_|exact Z|with_reducible intro b)
           refine RowZ.appL (hw.up (by simp only [updS_apply];rfl)) (by decide) rfl (by simp [D.one,W64]) ?_ ?_ fun d' S' hr' hS'=>?_
           ·rw [rS_len,hlen];simp;omega
           ·rw [rS_len,hlen];simp;omega
           repeat (first|(with_reducible first|refine pv_seq fun K hK=>?_|((first|refine hK _ _ ?_|(clear hK;refine hK _ _ ?_)|(clear hK;clear hK;refine hK _ _ ?_));clear hK;try clear K))| refine W0 ?_|exact Z|with_reducible intro b)
           exact ⟨mk4 _ _ Zr Zr Zr Zr Zr Zr Zr Zr Zr ((hS' _ (by decide)).trans (by simp only [updS_apply];exact s10)) (by rw [← hnew];exact hr') hzn,by simp only [intD];omega⟩
          ·have hr:=hin hod
           subst hr
           have hnn:numR (da * dc)=(nu0,2):=by unfold numR;rw [if_neg (show ¬ (nuOf (da * dc)).Ok from hod)]
           rw [hnn] at pP
           unfold MO nu0 at pP
           simp only at pP
           have ft:=And.intro g1 (And.intro g2 (And.intro g10 (And.intro g43 (And.intro g44 (And.intro g45 (And.intro g49 (And.intro g50 (And.intro g51 (And.intro q2 s10)))))))))
           exact Wk
         ·obtain rfl:j=c.length:=by omega
          have ft:=And.intro g1 (And.intro g2 (And.intro g43 (And.intro g44 (And.intro g45 (And.intro g49 (And.intro g50 (And.intro g51 (And.intro g10 s10))))))))
          repeat (first|(with_reducible first|refine pv_seq fun K hK=>?_|((first|refine hK _ _ ?_|(clear hK;refine hK _ _ ?_)|(clear hK;clear hK;refine hK _ _ ?_));clear hK;try clear K))| refine W0 ?_|exact Z|with_reducible intro b)
          exact ⟨mk2 _ _ Zr Zr Zr Zr Zr hw hz,by rw [hm0];simp only [intD];omega⟩
       ·obtain rfl:i=a.length:=by omega
        rw [mulP_all] at hw hz
        have ft:=And.intro g2 (And.intro g1 (And.intro g43 (And.intro g44 g45)))
        repeat (first|(with_reducible first|refine pv_seq fun K hK=>?_|((first|refine hK _ _ ?_|(clear hK;refine hK _ _ ?_)|(clear hK;clear hK;refine hK _ _ ?_));clear hK;try clear K))| refine W0 ?_|exact Z|with_reducible intro b)
        exact JF _ _ g2 (decide_eq_true hz) hw
     clear q0
     by_cases ha0:0<a.length
     ·have k1:((0:Int)<(a.length:Int))=True:=eq_true (by omega)
      by_cases hc0:0<c.length
      ·have k2:((0:Int)<(c.length:Int))=True:=eq_true (by omega)
       generalize degR a=da at *
       generalize degR c=dc at *
       by_cases h8:8<da + dc
       ·have k8:(8<da + dc)=True:=eq_true h8
        have hr:=r6 ha0 hc0 h8
        subst hr
        have ft:=And.intro k1 (And.intro k2 k8)
        exact Wk
       ·have k8:(8<da + dc)=False:=eq_false h8
        have ft:=And.intro k1 (And.intro k8 k2)
        repeat (first|(with_reducible first|refine pv_seq fun K hK=>?_|((first|refine hK _ _ ?_|(clear hK;refine hK _ _ ?_)|(clear hK;clear hK;refine hK _ _ ?_));clear hK;try clear K))| refine W ?_|exact Z|with_reducible intro b)
        exact J0 _ _ Zr Zr Zr (fun _ _=>by omega)
      ·have k2:((0:Int)<(c.length:Int))=False:=eq_false (by omega)
       have ft:=And.intro k1 k2
       repeat (first|(with_reducible first|refine pv_seq fun K hK=>?_|((first|refine hK _ _ ?_|(clear hK;refine hK _ _ ?_)|(clear hK;clear hK;refine hK _ _ ?_));clear hK;try clear K))| refine W ?_|exact Z|with_reducible intro b)
       exact J0 _ _ Zr Zr Zr (fun _ h=>absurd h hc0)
     ·have k1:((0:Int)<(a.length:Int))=False:=eq_false (by omega)
      have ft:=k1
      repeat (first|(with_reducible first|refine pv_seq fun K hK=>?_|((first|refine hK _ _ ?_|(clear hK;refine hK _ _ ?_)|(clear hK;clear hK;refine hK _ _ ?_));clear hK;try clear K))| refine W ?_|exact Z|with_reducible intro b)
      exact J0 _ _ Zr Zr Zr (fun h=>absurd h ha0)
end Go.V
namespace Go.V
open Go Go.RowKit Go.Proofs
end Go.V
namespace Go.V
open Go Go.RowKit Go.Proofs
def wD (k:Int):Dyadic:=dy (decide (k<0)) k.natAbs 0
def dec (e:List Int) (i:Nat):List Int:=e.set i (e.getD i 0 - 1)
def td (i:Nat) (m:Mo):Te:=⟨m.c.val * wD (m.e.getD i 0),dec m.e i⟩
def difP (q:List Mo) (i k:Nat):List Te:=((q.take k).filter fun m=>decide (m.e.getD i 0≠0)).map (td i)
def difT (q:List Mo) (i:Nat):List Te:=(q.filter fun m=>decide (m.e.getD i 0≠0)).map (td i)
theorem difP_all {q:List Mo} {i:Nat}:difP q i q.length=difT q i:=by unfold difP difT;rw [List.take_length]
theorem difP_step {q:List Mo} {i k:Nat} (hk:k<q.length):difP q i (k + 1)=if (gM q k).e.getD i 0=0 then difP q i k else difP q i k ++ [td i (gM q k)]:=by
 unfold difP
 rw [List.take_add_one,gM_at hk,List.filter_append,List.map_append]
 by_cases h:(gM q k).e.getD i 0=0
 ·rw [if_pos h];simp only [Option.toList_some,List.filter_cons,List.filter_nil,h,ne_eq,not_true_eq_false,decide_false,Bool.false_eq_true,if_false,List.map_nil,List.append_nil]
 ·rw [if_neg h];simp only [Option.toList_some,List.filter_cons,List.filter_nil,h,ne_eq,not_false_eq_true,decide_true,if_true,List.map_cons,List.map_nil]
theorem difP_len {q:List Mo} {i k:Nat}:(difP q i k).length≤k:=by
 unfold difP
 rw [List.length_map]
 exact Nat.le_trans (List.length_filter_le _ _) (by rw [List.length_take];omega)
theorem difT_len {q:List Mo} {i:Nat}:(difT q i).length≤q.length:=by rw [← difP_all];exact difP_len
def difR (q:List Mo) (i n:Int):List Mo × Int:=if polyB q n && decide (0≤i) && decide (i<n) then gathR (difT q i.toNat) else ([],1)
theorem cmpE_dec:∀ (a b:List Int) (i:Nat),i<a.length→i<b.length→cmpE (dec a i) (dec b i)=cmpE a b
 | [],b,i,h,_=>by simp at h
 | x :: a,[],i,_,h=>by simp at h
 | x :: a,y :: b,0,_,_=>by
   show cmpE ((x - 1) :: a) ((y - 1) :: b)=_
   unfold cmpE
   by_cases h1:x<y
   ·rw [if_pos h1,if_pos (by omega)]
   ·rw [if_neg h1,if_neg (by omega)]
    by_cases h2:y<x
    ·rw [if_pos h2,if_pos (by omega)]
    ·rw [if_neg h2,if_neg (by omega)]
 | x :: a,y :: b,i + 1,ha,hb=>by
   have ih:=cmpE_dec a b i (by simpa using ha) (by simpa using hb)
   show cmpE (x :: dec a i) (y :: dec b i)=_
   unfold cmpE
   rw [ih]
theorem polyB_ord {q:List Mo} {n:Int} (h:polyB q n=true):q.Pairwise fun a b=>cmpE b.e a.e<0:=by
 unfold polyB at h
 simp only [Bool.and_eq_true] at h
 have h2:=of_decide_eq_true h.2
 have step:∀ j,j + 1<q.length→cmpE (gM q (j + 1)).e (gM q j).e<0:=fun j hj=>(h2 (j + 1) hj).2.2 (by omega)
 have all:∀ d i,i + (d + 1)<q.length→cmpE (gM q (i + (d + 1))).e (gM q i).e<0:=by
  intro d
  induction d with
  | zero=>exact fun i hi=>step i hi
  | succ d ih=>exact fun i hi=>cmpE_trans (step (i + (d + 1)) hi) (ih i (by omega))
 refine List.pairwise_iff_getElem.2 fun i j hi hj hij=>?_
 have:=all (j - i - 1) i (by omega)
 rw [show i + (j - i - 1 + 1)=j by omega] at this
 have e1:=gM_at hi
 have e2:=gM_at hj
 rw [List.getElem?_eq_getElem hi] at e1
 rw [List.getElem?_eq_getElem hj] at e2
 injection e1 with e1
 injection e2 with e2
 rw [e1,e2];exact this
theorem polyB_w {q:List Mo} {n:Int} (h:polyB q n=true):∀ m ∈ q,m.c.w≠[]:=fun m hm=>by
 unfold polyB at h
 simp only [Bool.and_eq_true] at h
 have h2:=of_decide_eq_true h.2
 obtain ⟨i,hi⟩:=List.getElem?_of_mem hm
 have hil:i<q.length:=(List.getElem?_eq_some_iff.1 hi).1
 have:=(h2 i hil).2.1
 rw [gM_at hil] at hi
 injection hi with hi
 rwa [hi] at this
theorem gathN_one {n:Nat} {l:List Te} (hl:∀ t ∈ l,t.e.length=n) (hd:l.Pairwise fun a b=>a.e≠b.e):∀ i,i≤l.length→(l.take i).Perm (gathN l i)
 | 0,_=>by rw [List.take_zero];exact List.Perm.refl _
 | i + 1,hi=>by
   have ih:=gathN_one hl hd i (by omega)
   have hil:i<l.length:=by omega
   rw [List.take_add_one,gT_at hil]
   refine acc_miss ih (gathN_sort hl i (by omega)) (hl _ (gT_mem hil)) fun x hx he=>?_
   obtain ⟨j,hj⟩:=List.getElem?_of_mem hx
   have hj2:j<i:=by
    have:=(List.getElem?_eq_some_iff.1 hj).1
    rw [List.length_take] at this;omega
   rw [List.getElem?_take,if_pos hj2,List.getElem?_eq_getElem (by omega)] at hj
   injection hj with hj
   have e:=gT_at hil
   rw [List.getElem?_eq_getElem hil] at e
   injection e with e
   have:=List.pairwise_iff_getElem.1 hd j i (by omega) hil hj2
   rw [hj,e] at this
   exact this he
theorem gathR_one {n:Nat} {l:List Te} (hl:∀ t ∈ l,t.e.length=n) (hd:l.Pairwise fun a b=>cmpE b.e a.e<0) (h0:∀ t ∈ l,t.v≠0) (h24:l.length≤24):gathR l=if okT l=true then (l.map moN,0) else ([],2):=by
 have hne:l.Pairwise fun a b=>a.e≠b.e:=hd.imp fun {a b} h he=>by rw [he,cmpE_self] at h;exact absurd h (by decide)
 have hp:=gathN_one hl hne l.length (Nat.le_refl _)
 rw [List.take_length] at hp
 cases hok:okT l with
 | false =>
   rw [if_neg (by decide)]
   have:=of_decide_eq_false hok
   simp only [Classical.not_forall] at this
   obtain ⟨t,ht,hb⟩:=this
   exact gathR_bad hp ht hb
 | true =>
   rw [if_pos rfl]
   have hout:outM l=l.map moN:=by
    unfold outM
    rw [List.filter_eq_self.2 (fun t ht=>decide_eq_true (h0 t ht))];rfl
   refine gathR_sorted hl hp (of_decide_eq_true hok) (by rw [hout,List.length_map];exact h24) (by rw [hout]) ?_
   refine List.Pairwise.map _ (fun a b h=>?_) hd
   show ¬ cmpE a.e b.e<0
   rw [cmpE_neg];omega
theorem dy_mul_ne {a b:Dyadic} (ha:a≠0) (hb:b≠0):a * b≠0:=by
 rw [← dy_f a,← dy_f b,dy_mul]
 intro h
 have h:=dy_zero.1 h
 rcases Nat.mul_eq_zero.1 h with h1|h1
 ·exact ha (by rw [← dy_f a,h1,dy0])
 ·exact hb (by rw [← dy_f b,h1,dy0])
theorem wD_ne {k:Int} (h:k≠0):wD k≠0:=fun h0=>h (by have:=dy_zero.1 h0;omega)
theorem dec_len {e:List Int} {i:Nat}:(dec e i).length=e.length:=List.length_set
theorem mo_ne {m:Mo} (hb:B64 m.c.w) (hr:rightB m.c=true) (hw:m.c.w≠[]):m.c.val≠0:=fun h=>by
 obtain ⟨d,hd,hc⟩:=right_is hb hr
 rw [hc,val_nuOf] at h
 rw [hc,h,nuOf_zero] at hw
 exact hw rfl
theorem difR_is {q:List Mo} {n:Int} {i:Nat} (hw:WfM q) (hq:polyB q n=true) (hi:(i:Int)<n):gathR (difT q i)=if okT (difT q i)=true then ((difT q i).map moN,0) else ([],2):=by
 have hok:=polyB_ok hq
 have hwn:=polyB_w hq
 have hlen:=polyB_len hq
 have hl2:∀ m ∈ q,m.e.length=n.toNat:=fun m hm=>by have:=(hok m hm).len;omega
 refine gathR_one (n:=n.toNat) (fun t ht=>?_) ?_ (fun t ht=>?_) (Nat.le_trans difT_len hlen)
 ·obtain ⟨m,hm,rfl⟩:=List.mem_map.1 ht
  show (dec m.e i).length=_
  rw [dec_len];exact hl2 m (List.mem_filter.1 hm).1
 ·unfold difT
  refine List.Pairwise.map _ (fun a b h=>h) (List.Pairwise.filter _ ((polyB_ord hq).imp_of_mem (S:=fun a b=>cmpE (td i b).e (td i a).e<0) fun {a b} ha hb h=>?_))
  show cmpE (dec b.e i) (dec a.e i)<0
  rw [cmpE_dec _ _ _ (by rw [hl2 b hb];omega) (by rw [hl2 a ha];omega)];exact h
 ·obtain ⟨m,hm,rfl⟩:=List.mem_map.1 ht
  obtain ⟨hm,h0⟩:=List.mem_filter.1 hm
  exact dy_mul_ne (mo_ne (hw.w m hm).c.b (hok m hm).right (hwn m hm)) (wD_ne (of_decide_eq_true h0))
end Go.V
