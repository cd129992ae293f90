/- The document's polynomials as rows of the caller's own. The statement PolyDrawn. -/
import Derived.Test.YtgapammfekmihaaGreatDoorZbI4
set_option linter.unusedSimpArgs false
set_option linter.unusedVariables false
set_option maxRecDepth 100000
namespace Go.V
open Go Go.RowKit Go.Proofs
def qQ35_62_6:List (Nat × Nat):=[(0,0),(1,0),(2,0),(3,0),(4,0),(5,0),(6,0),(7,0),(8,0),(9,1),(10,0),(11,0),(12,0),(13,0),(14,1),(15,3),(16,0),(17,0)]
def qQ35_62_8:List (Nat × Nat):=[(0,0),(1,0),(2,0),(3,0),(4,0),(5,0),(6,0),(7,0),(8,0),(9,1),(10,0),(11,0),(12,0),(13,0),(14,1),(15,3),(16,0),(17,0)]
def qQ35_62_9:List (Nat × Nat):=[(0,0),(1,0),(2,0),(3,0),(4,0),(5,0),(6,1),(7,0),(8,0),(9,0),(10,0),(11,1),(12,3),(13,0),(14,0),(15,3)]
def qQ35_62_22:PT:=(.lin [(0,0),(3,0),(4,0),(5,0),(6,0),(7,2)] (.fork 1 4 (.lin [(2,4),(8,3),(9,0),(10,3),(11,3),(12,0)] .nil) 2 4 (.lin [] (.fork 1 4 (.lin [(8,3),(9,0),(10,3),(11,3),(12,0)] .nil) 8 3 (.lin [(1,4),(9,0),(10,3),(11,3),(12,0)] .nil)))))
def qQ35_20_9:List (Nat × Nat):=[(0,0),(1,0),(2,0),(3,0),(4,0),(5,1),(7,0),(8,0),(9,0),(10,0),(11,2),(6,4),(12,0),(13,3),(14,3),(15,0)]
attribute [go_sem] qQ35_62_6 qQ35_62_8 qQ35_62_9 qQ35_62_22 qQ35_20_9
section
variable {P:Program} {f:FuncId} {args:List D} {S:Store} {K:D→Store→Prop}
theorem PFC.fresh (nm:Nm) {K0:D→Option Blk→Prop} (h:PFC P f args noS fun d S0=>K0 d (S0 nm)) (hK:∀ d x,K0 d x→K d (updS S nm x)):PFC P f args S K:=by
 intro w I vs hR hv
 refine (h w I vs (rel_no hR.gi) hv).mono ?_
 rintro r w' ⟨I',S0,d,s,r1,hd,hk⟩
 have hno:∀ {k B},¬ noS k=some B:=fun h=>by rw [noS_apply] at h;cases h
 have hE:Ext w w':=⟨⟨s.os,s.tape,s.output,s.size,fun b hb=>s.frame b hb (fun k B hk=>(hno hk).elim) (fun G hG=>by cases hG)⟩,s.dr⟩
 have hnew:∀ b j,I' b j→I b j∨w.heap.size≤b:=fun b j hb=>by
  rcases s.new b j hb with h1|h1|⟨k,B,h1,_⟩
  ·exact .inl h1
  ·exact .inr h1
  ·exact (hno h1).elim
 have hlive:∀ B,S0 nm=some B→w.heap.size≤B.b:=fun B hB=>by
  rcases s.live nm B hB with h1|⟨k,C,h1,_⟩
  ·exact h1
  ·exact (hno h1).elim
 have r2:=hR.ext hE s.sub hnew r1.gi.old
 refine ⟨I',updS S nm (S0 nm),d,⟨s.os,s.tape,s.output,s.size,s.dr,s.sub,fun b j hb=>(hnew b j hb).imp id .inl,s.ev,fun b hb _ _=>hE.block b hb,fun q C hq=>?_,fun G hG=>.inr ⟨G,hG,rfl⟩⟩,⟨r1.gi,fun q C hq=>?_,fun q q' C C' hq hq' hbb=>?_,r2.gho⟩,hd,hK _ _ hk⟩
 ·rw [updS_apply] at hq
  split at hq
  ·exact .inl (hlive C hq)
  ·exact .inr ⟨q,C,hq,rfl⟩
 ·rw [updS_apply] at hq
  split at hq
  ·exact r1.has nm C hq
  ·exact r2.has q C hq
 ·rw [updS_apply] at hq hq'
  split at hq<;>split at hq'
  ·rename_i e1 e2;rw [e1,e2]
  ·have:=hlive C hq;have:=hR.lt hq';omega
  ·have:=hlive C' hq';have:=hR.lt hq;omega
  ·exact r2.inj q q' C C' hq hq' hbb
end
def OwnM (q:List Mo) (d:D) (x:Option Blk):Prop:=(d=.nil∧q=[])∨∃ b cap,d=.own (.r 0 1) b 0 q.length cap 4∧x=some ⟨b,4,0,rS eM q⟩
theorem ownZ {q:List Mo} {d:D} {T:Store} {j:Nat} (h:RowZ T (.l j) 4 d (rS eM q)):OwnM q (rnC (tellN (.r 0 1) j) d) (T (keepN (.r 0 1) j (.r 0 1))):=by
 rcases h with ⟨rfl,h2⟩|⟨b,cap,rfl,h2⟩
 ·have:q=[]:=by have:=congrArg List.length h2;rw [rS_len] at this;exact List.eq_nil_of_length_eq_zero this
  exact .inl ⟨rfl,this⟩
 ·refine .inr ⟨b,cap,?_,by rw [keepN_self];exact h2⟩
  rw [rS_len,rnC_own,tellN_l]
set_option maxHeartbeats 8000000 in
theorem p_gatherO {l:List Te} {M Q:Nat} (hl:l.length≤10000) (hs:∀ t ∈ l,Sm M Q t.v) (he:∀ t ∈ l,t.e.length≤100000) (hk:M + Q + l.length≤60000000):PFC Tryz.prog 62 [TT l] noS fun d S=>∃ d',d=.tup [d',i64 (gathR l).2]∧OwnM (gathR l).1 d' (S (.r 0 1)):=by
 generalize hr:gathR l=r
 have hsm:=gathN_sm hs
 have hel:=gathN_all (P:=fun e=>e.length≤100000) he
 have hln:=gathN_len l
 unfold TT
 have d1:=@dl 6 qQ35_62_6
 have d2:=@dl 8 qQ35_62_8
 have d3:=@dl 9 qQ35_62_9
 have d4:=@dr 22 qQ35_62_22
 refine PRB (keepN (.r 0 1) 123) (tellN (.r 0 1) 123) (keepN_inj _ _) (rs:=[.tmp 2,.tmp 3]) Tryz.func62 ?_
 repeat (first|(with_reducible first|refine pv_seq fun K hK=>?_|((first|refine hK _ _ ?_|(clear hK;refine hK _ _ ?_)|(clear hK;clear hK;refine hK _ _ ?_));clear hK;try clear K))| refine W0 ?_|exact Z|with_reducible intro b)
 have J:∀ (e:DEnv) (S:Store),RowZ S (.r 0 0) 4 (e 4) (rS eT (gathN l l.length))→K e S:=by
  as_aux_lemma =>
  intro e S hw
  have ho:=hsm l.length (Nat.le_refl _)
  have hoe:=hel l.length (Nat.le_refl _)
  have hon:=hln l.length
  unfold gathR at hr
  generalize gathN l l.length=out at *
  clear hsm hel hln hs he
  rcases hw with ⟨g4,h4⟩|⟨b4,cap,g4,s4⟩
  ·obtain rfl:out=[]:=by have:=congrArg List.length h4;rw [rS_len] at this;exact List.eq_nil_of_length_eq_zero this
   have hr2:r=([],0):=by rw [← hr];rfl
   subst hr2
   have ft:=g4
   repeat (first|(with_reducible first|refine pv_seq fun K hK=>?_|((first|refine hK _ _ ?_|(clear hK;refine hK _ _ ?_)|(clear hK;clear hK;refine hK _ _ ?_));clear hK;try clear K))| refine W0 ?_|exact Z|with_reducible intro b)
   refine pv_loop (fun e T=>Hid (e 4=.nil∧e 8=.nil∧e 9=i64 0)) (fun _ _=>0) ?_ ?_
   ·exact ⟨Zr,Zr,Zr⟩
   ·rintro e2 T ⟨g4,g8,g9⟩
    have ft:=And.intro g4 (And.intro g8 g9)
    repeat (first|(with_reducible first|refine pv_seq fun K hK=>?_|((first|refine hK _ _ ?_|(clear hK;refine hK _ _ ?_)|(clear hK;clear hK;refine hK _ _ ?_));clear hK;try clear K))| refine W0 ?_|exact Z|with_reducible intro b)
    exact ⟨_,rfl,.inl ⟨rfl,rfl⟩⟩
  ·rw [rS_len] at g4
   have k4:∀ k:Nat,k<out.length→(rS eT out)[k]? = some (cT (gT out k)):=fun k=>rT_at
   have hml:=monoN_len out
   have ft:=g4
   repeat (first|(with_reducible first|refine pv_seq fun K hK=>?_|((first|refine hK _ _ ?_|(clear hK;refine hK _ _ ?_)|(clear hK;clear hK;refine hK _ _ ?_));clear hK;try clear K))| refine W0 ?_|exact Z|with_reducible intro b)
   have JF:∀ (e:DEnv) (S:Store),(monoN out out.length).2=0→RowZ S (.l 123) 4 (e 8) (rS eM (monoN out out.length).1)→K e S:=by
    intro e S h0 hw
    rw [if_pos h0] at hr
    have hl2:=hml out.length
    generalize monoN out out.length=mm at *
    obtain ⟨mm,em⟩:=mm
    simp only at h0
    subst h0
    simp only at hr hl2 hw
    by_cases h24:mm.length≤24
    ·rw [if_pos h24] at hr
     subst hr
     have k24:((24:Int)<(mm.length:Int))=False:=eq_false (by omega)
     have ft:=k24
     repeat (first|(with_reducible first|refine pv_seq fun K hK=>?_|((first|refine hK _ _ ?_|(clear hK;refine hK _ _ ?_)|(clear hK;clear hK;refine hK _ _ ?_));clear hK;try clear K))| refine W0 ?_|exact Z|with_reducible intro b)
     refine hw.toD.len ?_
     rw [rS_len]
     repeat (first|(with_reducible first|refine pv_seq fun K hK=>?_|((first|refine hK _ _ ?_|(clear hK;refine hK _ _ ?_)|(clear hK;clear hK;refine hK _ _ ?_));clear hK;try clear K))| refine W0 ?_|exact Z|with_reducible intro b)
     exact ⟨_,rfl,ownZ hw⟩
    ·rw [if_neg h24] at hr
     subst hr
     have k24:((24:Int)<(mm.length:Int))=True:=eq_true (by omega)
     have ft:=k24
     repeat (first|(with_reducible first|refine pv_seq fun K hK=>?_|((first|refine hK _ _ ?_|(clear hK;refine hK _ _ ?_)|(clear hK;clear hK;refine hK _ _ ?_));clear hK;try clear K))| refine W0 ?_|exact Z|with_reducible intro b)
     refine hw.toD.len ?_
     rw [rS_len]
     repeat (first|(with_reducible first|refine pv_seq fun K hK=>?_|((first|refine hK _ _ ?_|(clear hK;refine hK _ _ ?_)|(clear hK;clear hK;refine hK _ _ ?_));clear hK;try clear K))| refine W0 ?_|exact Z|with_reducible intro b)
     exact ⟨_,rfl,.inl ⟨rfl,rfl⟩⟩
   clear hK
   obtain ⟨I,mk,el⟩:=hide fun e S=>∃ i:Nat,i≤out.length∧e 4=.own (.r 0 0) b4 0 out.length cap 4∧e 9=i64 i∧S (.r 0 0)=some ⟨b4,4,0,rS eT out⟩∧(monoN out i).2=0∧RowZ S (.l 123) 4 (e 8) (rS eM (monoN out i).1)
   refine pv_loop I (fun e _=>out.length - (intD (e 9)).toNat) ?_ ?_
   ·exact mk _ _ ⟨0,Nat.zero_le _,Zr,Zr,s4,rfl,.inl ⟨Zr,rfl⟩⟩
   ·intro e S hI
    obtain ⟨i,hi,g4,g9,s4,hm2,hw⟩:=el e S hI
    clear el hI
    have ft:=And.intro g4 g9
    repeat (first|(with_reducible first|refine pv_seq fun K hK=>?_|((first|refine hK _ _ ?_|(clear hK;refine hK _ _ ?_)|(clear hK;clear hK;refine hK _ _ ?_));clear hK;try clear K))| refine W0 ?_|exact Z|with_reducible intro b)
    refine pv_cdD (fun ht=>?_) (fun ht=>?_)
    ·have hil:i<out.length:=by omega
     have q1:=k4 i hil
     have wv:=ho _ (gT_mem hil)
     have we:=hoe _ (gT_mem hil)
     have hst:(monoN out (i + 1)).2≠0→r=monoN out (i + 1):=fun h=>by
      have e1:=monoN_stuck (n:=out.length) h (by omega)
      rw [e1,if_neg h] at hr
      exact hr.symm
     have hsu:monoN out (i + 1)=if (gT out i).v=0 then monoN out i else if (numR (gT out i).v).2=0 then ((monoN out i).1 ++ [⟨(numR (gT out i).v).1,(gT out i).e⟩],0) else ([],2):=by
      conv=>lhs;unfold monoN
      rw [if_pos hm2]
     have hle:=hml i
     have mk2:∀ (e:DEnv) (S:Store),e 4=.own (.r 0 0) b4 0 out.length cap 4→e 9=i64 ((i + 1:Nat):Int)→S (.r 0 0)=some ⟨b4,4,0,rS eT out⟩→(monoN out (i + 1)).2=0→RowZ S (.l 123) 4 (e 8) (rS eM (monoN out (i + 1)).1)→I e S:=fun e S a1 a2 a3 a4 a5=>mk e S ⟨i + 1,by omega,a1,a2,a3,a4,a5⟩
     clear mk hml JF hr k4
     generalize monoN out (i + 1)=m1 at *
     generalize monoN out i=m0 at *
     have pS:=p_rSign (d:=(gT out i).v)
     have pN:=p_rNum wv.bd (by omega)
     have kz:(sgnD (gT out i).v=0)=((gT out i).v=0):=propext sgnD_zero
     repeat (first|with_reducible refine pv_stopB 5 ?_|(with_reducible first|refine pv_seq fun K hK=>?_|((first|refine hK _ _ ?_|(clear hK;refine hK _ _ ?_)|(clear hK;clear hK;refine hK _ _ ?_));clear hK;try clear K))| refine W ?_|exact Z|with_reducible intro b)
     refine ⟨fun K1 q1' hC=>?_⟩
     have JE:∀ (e2:DEnv) (S:Store),e2 4=.own (.r 0 0) b4 0 out.length cap 4→e2 9=i64 i→S (.r 0 0)=some ⟨b4,4,0,rS eT out⟩→m1.2=0→RowZ S (.l 123) 4 (e2 8) (rS eM m1.1)→K1 e2 S:=by
      intro e2 S g4 g9 s4 h0 hw
      refine q1' _ _ ?_
      clear q1' hC
      have ft:=And.intro g9 g4
      repeat (first|(with_reducible first|refine pv_seq fun K hK=>?_|((first|refine hK _ _ ?_|(clear hK;refine hK _ _ ?_)|(clear hK;clear hK;refine hK _ _ ?_));clear hK;try clear K))| refine W0 ?_|exact Z|with_reducible intro b)
      exact ⟨mk2 _ _ Zr Zr s4 h0 hw,by simp only [intD];omega⟩
     clear q1' mk2
     generalize gT out i=t at *
     obtain ⟨tv,te⟩:=t
     unfold cT at q1
     unfold VA at pS pN
     simp only at *
     generalize hnr:numR tv=nr at *
     obtain ⟨⟨n1,e1,w1⟩,er⟩:=nr
     by_cases h0:tv=0
     ·rw [if_pos h0] at hsu
      subst hsu
      rw [eq_true h0] at kz
      have ft:=And.intro g4 (And.intro g9 (And.intro s4 (And.intro q1 kz)))
      repeat (first|(with_reducible first|refine pv_seq fun K hK=>?_|((first|refine hK _ _ ?_|(clear hK;refine hK _ _ ?_)|(clear hK;clear hK;refine hK _ _ ?_));clear hK;try clear K))| refine W ?_|exact Z|with_reducible intro b)
      exact JE _ _ Zr Zr s4 hm2 hw
     ·rw [if_neg h0] at hsu
      rw [eq_false h0] at kz
      by_cases h1:er=0
      ·subst h1
       rw [if_pos rfl] at hsu
       subst hsu
       have hnew:=rS_m (l:=m0.1) (m:=⟨⟨n1,e1,w1⟩,te⟩)
       have ft:=And.intro g4 (And.intro g9 (And.intro s4 (And.intro q1 kz)))
       repeat (first|(with_reducible first|refine pv_seq fun K hK=>?_|((first|refine hK _ _ ?_|(clear hK;refine hK _ _ ?_)|(clear hK;clear hK;refine hK _ _ ?_));clear hK;try clear K))| refine W0 ?_|exact Z|with_reducible intro b)
       repeat' (first|(with_reducible first|refine pv_seq fun K hK=>?_|((first|refine hK _ _ ?_|(clear hK;refine hK _ _ ?_)|(clear hK;clear hK;refine hK _ _ ?_));clear hK;try clear K))| refine W ?_|exact Z|with_reducible intro b|with_reducible refine And.intro ?_ ?_|(refine ⟨by rw [rS_len];omega,by rw [rS_len];omega,fun b' cap'=>?_⟩)|(refine RowZ.appL (hw.up (by rfl)) (by decide) rfl (by simp [D.one,W64]) ?_ ?_ fun d' S' hr' hS'=>?_))
       all_goals first|(rw [rS_len];omega)|exact hC _ _ (RowZ.frz (k3:=.l 114) 3 hr' rfl (by decide) ((hS' _ (by decide)).trans (by simp only [updS_apply];rfl)) (gs:=te.map eZ) (by rw [List.drop_zero,List.take_length];exact pureLL_rS) (by omega) fun S2 hz hf hg2=>JE _ _ Zr Zr ((hf (.r 0 0) (by decide) (by decide)).trans ((hS' _ (by decide)).trans (by simp only [updS_apply];exact s4))) rfl (by rw [← hnew];exact hz))
      ·rw [if_neg h1] at hsu
       subst hsu
       have hr1:=hst (by decide)
       subst hr1
       have k1:=eq_false h1
       have ft:=And.intro g4 (And.intro g9 (And.intro s4 (And.intro q1 (And.intro kz k1))))
       repeat (first|(with_reducible first|refine pv_seq fun K hK=>?_|((first|refine hK _ _ ?_|(clear hK;refine hK _ _ ?_)|(clear hK;clear hK;refine hK _ _ ?_));clear hK;try clear K))| refine W ?_|exact Z|with_reducible intro b)
       exact ⟨_,rfl,.inl ⟨rfl,rfl⟩⟩
    ·obtain rfl:i=out.length:=by omega
     repeat (first|(with_reducible first|refine pv_seq fun K hK=>?_|((first|refine hK _ _ ?_|(clear hK;refine hK _ _ ?_)|(clear hK;clear hK;refine hK _ _ ?_));clear hK;try clear K))| refine W0 ?_|exact Z|with_reducible intro b)
     exact JF _ _ hm2 hw
 clear hK
 obtain ⟨I,mk,el⟩:=hide fun e S=>∃ i:Nat,i≤l.length∧e 0=.g (eS eT l)∧e 5=i64 i∧RowZ S (.r 0 0) 4 (e 4) (rS eT (gathN l i))
 refine pv_loop I (fun e _=>l.length - (intD (e 5)).toNat) ?_ ?_
 ·exact mk _ _ ⟨0,Nat.zero_le _,Zr,Zr,.inl ⟨Zr,rfl⟩⟩
 ·intro e S hI
  obtain ⟨i,hi,g0,g5,hw⟩:=el e S hI
  clear el hI
  have hm0:(intD (e 5)).toNat=i:=by rw [g5];exact Int.toNat_natCast i
  have ft:=And.intro g0 g5
  repeat (first|(with_reducible first|refine pv_seq fun K hK=>?_|((first|refine hK _ _ ?_|(clear hK;refine hK _ _ ?_)|(clear hK;clear hK;refine hK _ _ ?_));clear hK;try clear K))| refine W0 ?_|exact Z|with_reducible intro b)
  refine pv_cdD (fun ht=>?_) (fun ht=>?_)
  ·have hil:i<l.length:=by omega
   have q2:=gT_at hil
   have wm:=he _ (gT_mem hil)
   have ws:=hs _ (gT_mem hil)
   have hins:gathN l (i + 1)=insT (gathN l i) (gT l i):=rfl
   have hsi:=hsm i hi
   have hei:=hel i hi
   have hni:=hln i
   have mk2:∀ (e2:DEnv) (S2:Store),e2 0=.g (eS eT l)→e2 5=i64 ((i + 1:Nat):Int)→RowZ S2 (.r 0 0) 4 (e2 4) (rS eT (gathN l (i + 1)))→I e2 S2:=fun e2 S2 a1 a2 a3=>mk _ _ ⟨i + 1,by omega,a1,a2,a3⟩
   clear J hsm hel hln mk hs he hr
   generalize gathN l (i + 1)=out1 at *
   generalize gathN l i=out at *
   generalize gT l i=t at *
   repeat (first|with_reducible refine pv_stopB 1 ?_|(with_reducible first|refine pv_seq fun K hK=>?_|((first|refine hK _ _ ?_|(clear hK;refine hK _ _ ?_)|(clear hK;clear hK;refine hK _ _ ?_));clear hK;try clear K))| refine W ?_|exact Z|with_reducible intro b)
   refine ⟨fun K1 q1 hC=>?_⟩
   have JE:∀ (e2:DEnv) (S:Store),e2 0=.g (eS eT l)→e2 5=i64 i→RowZ S (.r 0 0) 4 (e2 4) (rS eT out1)→K1 e2 S:=by
    intro e2 S g0 g5 hw
    refine q1 _ _ ?_
    clear q1 hC
    have ft:=And.intro g5 g0
    repeat (first|(with_reducible first|refine pv_seq fun K hK=>?_|((first|refine hK _ _ ?_|(clear hK;refine hK _ _ ?_)|(clear hK;clear hK;refine hK _ _ ?_));clear hK;try clear K))| refine W0 ?_|exact Z|with_reducible intro b)
    exact ⟨mk2 _ _ Zr Zr hw,by simp only [intD];omega⟩
   have JM:∀ (e2:DEnv) (S:Store),e2 0=.g (eS eT l)→e2 5=i64 i→RowP P3 S 4 (e2 4) (rS eT out1)→K1 e2 S:=by
    intro e2 S g0 g5 hw
    exact hC _ _ (RowP.move 4 (.r 0 0) P3_r hw fun d S' hz _ _=>JE _ _ g0 g5 hz)
   clear q1 hC mk2
   obtain ⟨tv,te⟩:=t
   simp only at *
   rcases hw with ⟨g4,h4⟩|⟨b4,cap,g4,s4⟩
   ·obtain rfl:out=[]:=by have:=congrArg List.length h4;rw [rS_len] at this;exact List.eq_nil_of_length_eq_zero this
    rw [insT_nil] at hins
    subst hins
    have ft:=And.intro g0 (And.intro g4 g5)
    repeat (first|(with_reducible first|refine pv_seq fun K hK=>?_|((first|refine hK _ _ ?_|(clear hK;refine hK _ _ ?_)|(clear hK;clear hK;refine hK _ _ ?_));clear hK;try clear K))| refine W0 ?_|exact Z|with_reducible intro b)
    refine pv_loop (fun e T=>Hid (e 0=.g (eS eT l)∧e 4=.nil∧e 5=i64 i∧e 6=i64 0)) (fun _ _=>0) ?_ ?_
    ·exact ⟨Zr,Zr,Zr,Zr⟩
    ·rintro e2 T ⟨g0,g4,g5,g6⟩
     have k0:((0:Int)<0)=False:=eq_false (by decide)
     have ft:=And.intro g0 (And.intro g4 (And.intro g5 (And.intro g6 q2)))
     repeat (first|(with_reducible first|refine pv_seq fun K hK=>?_|((first|refine hK _ _ ?_|(clear hK;refine hK _ _ ?_)|(clear hK;clear hK;refine hK _ _ ?_));clear hK;try clear K))| refine W0 ?_|exact Z|with_reducible intro b)
     refine ⟨fun _=>?_,fun h=>absurd h (by decide)⟩
     repeat (first|(with_reducible first|refine pv_seq fun K hK=>?_|((first|refine hK _ _ ?_|(clear hK;refine hK _ _ ?_)|(clear hK;clear hK;refine hK _ _ ?_));clear hK;try clear K))| refine W0 ?_|exact Z|with_reducible intro b)
     refine ⟨by simp [D.one],fun h=>h.elim,fun _ b' cap'=>?_⟩
     repeat (first|(with_reducible first|refine pv_seq fun K hK=>?_|((first|refine hK _ _ ?_|(clear hK;refine hK _ _ ?_)|(clear hK;clear hK;refine hK _ _ ?_));clear hK;try clear K))| refine W0 ?_|exact Z|with_reducible intro b)
     exact JM _ _ Zr Zr (.inr ⟨.l 82,_,_,.inr (.inl rfl),Zr,by simp only [updS_apply];rfl⟩)
   ·rw [rS_len] at g4
    have k4:∀ k:Nat,k<out.length→(rS eT out)[k]? = some (cT (gT out k)):=fun k=>rT_at
    have hmx:=posT_max (out:=out) (e:=te)
    have hal:=fun j=>posT_all (out:=out) (e:=te) (j:=j)
    have hpl:=posT_le out te
    unfold insT at hins
    simp only at hins
    generalize hp:posT out te=m at *
    have ft:=And.intro g0 (And.intro g4 g5)
    repeat (first|(with_reducible first|refine pv_seq fun K hK=>?_|((first|refine hK _ _ ?_|(clear hK;refine hK _ _ ?_)|(clear hK;clear hK;refine hK _ _ ?_));clear hK;try clear K))| refine W0 ?_|exact Z|with_reducible intro b)
    refine pv_loop (fun e T=>Hid (∃ k:Nat,k≤m∧e 0=.g (eS eT l)∧e 4=.own (.r 0 0) b4 0 out.length cap 4∧e 5=i64 i∧e 6=i64 k∧T (.r 0 0)=some ⟨b4,4,0,rS eT out⟩)) (fun e _=>m - (intD (e 6)).toNat) ?_ ?_
    ·exact ⟨0,Nat.zero_le _,Zr,Zr,Zr,Zr,s4⟩
    ·rintro e2 T ⟨k,hkm,g0,g4,g5,g6,s4⟩
     have JX:∀ (e:DEnv) (S:Store),True:=fun _ _=>trivial
     by_cases hk1:k<out.length
     ·have k1:(k<out.length)=True:=eq_true hk1
      have q1:=k4 k hk1
      have hek:=hei _ (gT_mem hk1)
      have pC:=p_rOrdE (a:=(gT out k).e) (b:=te) hek wm
      by_cases hkm2:k<m
      ·have h9:=hal k hkm2
       have h9':=eq_true h9
       clear hmx hal hins JE JM hsi hei
       generalize gT out k=x at *
       obtain ⟨xv,xe⟩:=x
       unfold ZI at pC
       unfold cT at q1
       simp only at *
       generalize ordE xe te=o at *
       have ft:=And.intro g0 (And.intro g4 (And.intro g5 (And.intro g6 (And.intro s4 (And.intro q1 (And.intro q2 (And.intro k1 h9')))))))
       repeat (first|(with_reducible first|refine pv_seq fun K hK=>?_|((first|refine hK _ _ ?_|(clear hK;refine hK _ _ ?_)|(clear hK;clear hK;refine hK _ _ ?_));clear hK;try clear K))| refine W ?_|exact Z|with_reducible intro b)
       exact ⟨⟨k + 1,by omega,Zr,Zr,Zr,Zr,s4⟩,by simp only [intD];omega⟩
      ·obtain rfl:k=m:=by omega
       have h9:=hmx hk1
       have h9':=eq_false h9
       by_cases h0:ordE (gT out k).e te=0
       ·rw [if_pos ⟨hk1,h0⟩] at hins
        have h0':=eq_true h0
        have pP:=p_rPlus (hsi _ (gT_mem hk1)).bd (ws.mono (show M≤M + i by omega)).bd (by omega)
        have hset:=rT_set (out:=out) (k:=k) (t:=⟨(gT out k).v + tv,(gT out k).e⟩)
        clear hmx hal JM hsi hei
        generalize gT out k=x at *
        obtain ⟨xv,xe⟩:=x
        unfold ZI at pC
        unfold cT at q1 hset
        unfold VA at pP
        simp only at *
        generalize ordE xe te=o at *
        have ft:=And.intro g0 (And.intro g4 (And.intro g5 (And.intro g6 (And.intro s4 (And.intro q1 (And.intro q2 (And.intro k1 (And.intro h9' h0'))))))))
        repeat (first|(with_reducible first|refine pv_seq fun K hK=>?_|((first|refine hK _ _ ?_|(clear hK;refine hK _ _ ?_)|(clear hK;clear hK;refine hK _ _ ?_));clear hK;try clear K))| refine W ?_|exact Z|with_reducible intro b)
        exact JE _ _ Zr Zr (.inr ⟨b4,cap,by rw [hins,rS_len,List.length_set];exact Zr,by rw [hins,← hset];simp only [updS_apply];rfl⟩)
       ·rw [if_neg (fun h=>h0 h.2)] at hins
        have h0':=eq_false h0
        clear hmx hal hsi hei JE
        generalize gT out k=x at *
        obtain ⟨xv,xe⟩:=x
        unfold ZI at pC
        unfold cT at q1
        simp only at *
        generalize ordE xe te=o at *
        have ft:=And.intro g0 (And.intro g4 (And.intro g5 (And.intro g6 (And.intro s4 (And.intro q1 (And.intro q2 (And.intro k1 (And.intro h9' h0'))))))))
        repeat (first|with_reducible refine pv_stop 11 ?_|(with_reducible first|refine pv_seq fun K hK=>?_|((first|refine hK _ _ ?_|(clear hK;refine hK _ _ ?_)|(clear hK;clear hK;refine hK _ _ ?_));clear hK;try clear K))| refine W ?_|exact Z|with_reducible intro b)
        refine ⟨fun K2 q2' hC2=>?_⟩
        have JR:∀ (e:DEnv) (S:Store),e 0=.g (eS eT l)→e 4=.own (.r 0 0) b4 0 out.length cap 4→e 5=i64 i→e 6=i64 k→S (.r 0 0)=some ⟨b4,4,0,rS eT out⟩→RowP P3 S 4 (e 7) (rS eT (out.take k))→K2 e S:=by
         intro e S g0 g4 g5 g6 s4 hr
         refine q2' _ _ ?_
         clear q2' hC2
         have ft:=And.intro g4 (And.intro g0 (And.intro g5 (And.intro g6 q2)))
         repeat (first|(with_reducible first|refine pv_seq fun K hK=>?_|((first|refine hK _ _ ?_|(clear hK;refine hK _ _ ?_)|(clear hK;clear hK;refine hK _ _ ?_));clear hK;try clear K))| refine W0 ?_|exact Z|with_reducible intro b)
         refine RowP.appL (P:=P3) hr P3_81 (.inr (.inl rfl)) rfl ?_ ?_ ?_ fun d2 S2 hr2 hf2 hg2=>?_
         ·simp [D.one]
         ·rw [rS_len,List.length_take];simp only [List.length_singleton];omega
         ·rw [rS_len,List.length_take];simp only [List.length_singleton];omega
         have s4'':S2 (.r 0 0)=some ⟨b4,4,0,rS eT out⟩:=(hf2 (.r 0 0) P3_r).trans ((updS_ne (by simp)).trans s4)
         repeat (first|(with_reducible first|refine pv_seq fun K hK=>?_|((first|refine hK _ _ ?_|(clear hK;refine hK _ _ ?_)|(clear hK;clear hK;refine hK _ _ ?_));clear hK;try clear K))| refine W0 ?_|exact Z|with_reducible intro b)
         refine RowP.app (new:=rS eT (out.drop k)) hr2 (.inr (.inr rfl)) (fun K hK=>?_) ?_ ?_ fun d3 S3 hr3 hf3 hg3=>?_
         ·rw [srcD_own,s4''];exact ⟨rfl,rfl,rfl,by rw [rS_len];omega,rT_all,by rw [rT_drop,List.take_of_length_le (by rw [rS_len,List.length_drop];omega)];exact hK⟩
         ·simp only [List.length_append,rS_len,List.length_take,List.length_drop,List.length_singleton,List.length_nil];omega
         ·simp only [List.length_append,rS_len,List.length_take,List.length_drop,List.length_singleton,List.length_nil];omega
         repeat (first|(with_reducible first|refine pv_seq fun K hK=>?_|((first|refine hK _ _ ?_|(clear hK;refine hK _ _ ?_)|(clear hK;clear hK;refine hK _ _ ?_));clear hK;try clear K))| refine W0 ?_|exact Z|with_reducible intro b)
         exact JM _ _ Zr Zr (by rw [hins,show out.take k ++ (⟨tv,te⟩:Te) :: out.drop k=out.take k ++ [⟨tv,te⟩] ++ out.drop k by simp,← rS_app,← rS_app];exact hr3)
        repeat (first|(with_reducible first|refine pv_seq fun K hK=>?_|((first|refine hK _ _ ?_|(clear hK;refine hK _ _ ?_)|(clear hK;clear hK;refine hK _ _ ?_));clear hK;try clear K))| refine W0 ?_|exact Z|with_reducible intro b)
        refine ⟨by rw [rS_len];omega,rT_all,by rw [rT_take,rS_len,List.length_take];omega,by rw [rT_take,rS_len,List.length_take];omega,fun h=>JR _ _ Zr Zr Zr Zr s4 (.inl ⟨Zr,by rw [← rT_take];exact h⟩),fun h b' cap'=>JR _ _ Zr Zr Zr Zr (by rw [updS_ne (by simp)];exact s4) (.inr ⟨.l 75,b',cap',.inl rfl,by rw [← rT_take];exact Zr,by rw [← rT_take];exact updS_at⟩)⟩
     ·obtain rfl:k=m:=by omega
      have k1:(k<out.length)=False:=eq_false hk1
      rw [if_neg (fun h=>hk1 h.1)] at hins
      clear hmx hal hsi hei JE
      have ft:=And.intro g0 (And.intro g4 (And.intro g5 (And.intro g6 (And.intro s4 (And.intro q2 k1)))))
      repeat (first|with_reducible refine pv_stop 11 ?_|(with_reducible first|refine pv_seq fun K hK=>?_|((first|refine hK _ _ ?_|(clear hK;refine hK _ _ ?_)|(clear hK;clear hK;refine hK _ _ ?_));clear hK;try clear K))| refine W ?_|exact Z|with_reducible intro b)
      refine ⟨fun K2 q2' hC2=>?_⟩
      have JR:∀ (e:DEnv) (S:Store),e 0=.g (eS eT l)→e 4=.own (.r 0 0) b4 0 out.length cap 4→e 5=i64 i→e 6=i64 k→S (.r 0 0)=some ⟨b4,4,0,rS eT out⟩→RowP P3 S 4 (e 7) (rS eT (out.take k))→K2 e S:=by
       intro e S g0 g4 g5 g6 s4 hr
       refine q2' _ _ ?_
       clear q2' hC2
       have ft:=And.intro g4 (And.intro g0 (And.intro g5 (And.intro g6 q2)))
       repeat (first|(with_reducible first|refine pv_seq fun K hK=>?_|((first|refine hK _ _ ?_|(clear hK;refine hK _ _ ?_)|(clear hK;clear hK;refine hK _ _ ?_));clear hK;try clear K))| refine W0 ?_|exact Z|with_reducible intro b)
       refine RowP.appL (P:=P3) hr P3_81 (.inr (.inl rfl)) rfl ?_ ?_ ?_ fun d2 S2 hr2 hf2 hg2=>?_
       ·simp [D.one]
       ·rw [rS_len,List.length_take];simp only [List.length_singleton];omega
       ·rw [rS_len,List.length_take];simp only [List.length_singleton];omega
       have s4'':S2 (.r 0 0)=some ⟨b4,4,0,rS eT out⟩:=(hf2 (.r 0 0) P3_r).trans ((updS_ne (by simp)).trans s4)
       repeat (first|(with_reducible first|refine pv_seq fun K hK=>?_|((first|refine hK _ _ ?_|(clear hK;refine hK _ _ ?_)|(clear hK;clear hK;refine hK _ _ ?_));clear hK;try clear K))| refine W0 ?_|exact Z|with_reducible intro b)
       refine ⟨fun _=>?_,?_⟩
       ·refine RowP.app (new:=[]) hr2 (.inr (.inr rfl)) (fun K hK=>?_) ?_ ?_ fun d3 S3 hr3 hf3 hg3=>?_
        ·rw [srcD_own,s4''];exact ⟨rfl,rfl,rfl,by rw [rS_len];omega,rT_all,hK⟩
        ·simp only [List.length_append,rS_len,List.length_take,List.length_drop,List.length_singleton,List.length_nil];omega
        ·simp only [List.length_append,rS_len,List.length_take,List.length_drop,List.length_singleton,List.length_nil];omega
        repeat (first|(with_reducible first|refine pv_seq fun K hK=>?_|((first|refine hK _ _ ?_|(clear hK;refine hK _ _ ?_)|(clear hK;clear hK;refine hK _ _ ?_));clear hK;try clear K))| refine W0 ?_|exact Z|with_reducible intro b)
        exact JM _ _ Zr Zr (by rw [hins,show out.take k ++ (⟨tv,te⟩:Te) :: out.drop k=out.take k ++ [⟨tv,te⟩] ++ out.drop k by simp,← rS_app,← rS_app];rw [show out.drop k=[] from List.drop_eq_nil_of_le (by omega)];exact hr3)
       ·refine RowP.app (new:=rS eT (out.drop k)) hr2 (.inr (.inr rfl)) (fun K hK=>?_) ?_ ?_ fun d3 S3 hr3 hf3 hg3=>?_
        ·rw [srcD_own,s4''];exact ⟨rfl,rfl,rfl,by rw [rS_len];omega,rT_all,by rw [rT_drop,List.take_of_length_le (by rw [rS_len,List.length_drop];omega)];exact hK⟩
        ·simp only [List.length_append,rS_len,List.length_take,List.length_drop,List.length_singleton,List.length_nil];omega
        ·simp only [List.length_append,rS_len,List.length_take,List.length_drop,List.length_singleton,List.length_nil];omega
        repeat (first|(with_reducible first|refine pv_seq fun K hK=>?_|((first|refine hK _ _ ?_|(clear hK;refine hK _ _ ?_)|(clear hK;clear hK;refine hK _ _ ?_));clear hK;try clear K))| refine W0 ?_|exact Z|with_reducible intro b)
        exact JM _ _ Zr Zr (by rw [hins,show out.take k ++ (⟨tv,te⟩:Te) :: out.drop k=out.take k ++ [⟨tv,te⟩] ++ out.drop k by simp,← rS_app,← rS_app];exact hr3)
      repeat (first|(with_reducible first|refine pv_seq fun K hK=>?_|((first|refine hK _ _ ?_|(clear hK;refine hK _ _ ?_)|(clear hK;clear hK;refine hK _ _ ?_));clear hK;try clear K))| refine W0 ?_|exact Z|with_reducible intro b)
      refine ⟨by rw [rS_len];omega,rT_all,by rw [rT_take,rS_len,List.length_take];omega,by rw [rT_take,rS_len,List.length_take];omega,fun h=>JR _ _ Zr Zr Zr Zr s4 (.inl ⟨Zr,by rw [← rT_take];exact h⟩),fun h b' cap'=>JR _ _ Zr Zr Zr Zr (by rw [updS_ne (by simp)];exact s4) (.inr ⟨.l 75,b',cap',.inl rfl,by rw [← rT_take];exact Zr,by rw [← rT_take];exact updS_at⟩)⟩
  ·obtain rfl:i=l.length:=by omega
   repeat (first|(with_reducible first|refine pv_seq fun K hK=>?_|((first|refine hK _ _ ?_|(clear hK;refine hK _ _ ?_)|(clear hK;clear hK;refine hK _ _ ?_));clear hK;try clear K))| refine W0 ?_|exact Z|with_reducible intro b)
   exact J _ _ hw
theorem own_id {q:List Mo} {d:D} {x:Option Blk} (h:OwnM q d x):OwnM q (rnC (fun k=>k) d) x:=by
 rcases h with ⟨rfl,rfl⟩|⟨b,cap,rfl,h⟩
 ·exact .inl ⟨rfl,rfl⟩
 ·exact .inr ⟨b,cap,rnC_own,h⟩
set_option maxHeartbeats 2000000 in
theorem p_rPMakeO {q:List Mo} {n:Int} (hq:WfM q) (hl:q.length≤10000):PFC Tryz.prog 20 [MM q,i64 n] noS fun d S=>∃ d',d=.tup [d',i64 (pmkR q n).2]∧OwnM (pmkR q n).1 d' (S (.r 0 1)):=by
 unfold MM
 by_cases h1:1≤n
 ·by_cases h4:n≤4
  ·have k1:(n<1)=False:=eq_false (by omega)
   have k2:(4<n)=False:=eq_false (by omega)
   generalize hr:pmkR q n=r
   have hno:allM q n=false→r=([],1):=fun h=>by rw [← hr];unfold pmkR;rw [h,Bool.and_false];rfl
   have hyes:allM q n=true→r=gathR (q.map teM):=fun h=>by rw [← hr];unfold pmkR;rw [h,decide_eq_true h1,decide_eq_true h4];rfl
   clear hr
   have d1:=@dl 9 qQ35_20_9
   refine PRB (fun k=>k) (fun k=>k) (fun _ _ h=>h) (rs:=[.tmp 4,.tmp 5]) Tryz.func20 ?_
   have ft:=And.intro k1 k2
   repeat (first|(with_reducible first|refine pv_seq fun K hK=>?_|((first|refine hK _ _ ?_|(clear hK;refine hK _ _ ?_)|(clear hK;clear hK;refine hK _ _ ?_));clear hK;try clear K))| refine W0 ?_|exact Z|with_reducible intro b)
   have J:∀ (e:DEnv) (S:Store),(∀ j,j<q.length→monoB (gM q j) n=true)→RowZ S (.l 41) 4 (e 6) (rS eT (q.map teM))→K e S:=by
    intro e S hz hw
    have hry:=hyes (allM_yes hz)
    have pG:=p_gatherO (l:=q.map teM) (M:=135168) (Q:=65536) (by rw [List.length_map];omega) (fun t ht=>by
     obtain ⟨m,hm,rfl⟩:=List.mem_map.1 ht
     obtain ⟨i,hi⟩:=List.mem_iff_getElem?.1 hm
     have hil:i<q.length:=(List.getElem?_eq_some_iff.1 hi).1
     have h5:=hz i hil
     rw [gM_at hil] at hi
     injection hi with hi
     rw [hi] at h5
     obtain ⟨d,hd,e⟩:=right_is (hq.w m hm).c.b (monoB_right h5)
     show Sm _ _ m.c.val
     rw [e,val_nuOf]
     exact okD_sm hd) (fun t ht=>by
     obtain ⟨m,hm,rfl⟩:=List.mem_map.1 ht
     exact (hq.w m hm).n) (by rw [List.length_map];omega)
    rw [← hry] at pG
    unfold TT at pG
    obtain ⟨r1,r2⟩:=r
    have ft:=true_and
    repeat (first|(with_reducible first|refine pv_seq fun K hK=>?_|((first|refine hK _ _ ?_|(clear hK;refine hK _ _ ?_)|(clear hK;clear hK;refine hK _ _ ?_));clear hK;try clear K))| refine W0 ?_|exact Z|with_reducible intro b)
    refine PFC.coe ?_
    refine hw.toD.coe1 fun S' _ _=>?_
    refine PFC.fresh (.r 0 1) (K0:=fun d x=>∃ d',d=.tup [d',i64 r2]∧OwnM r1 d' x) pG ?_
    rintro d x ⟨d',rfl,ho⟩
    repeat (first|(with_reducible first|refine pv_seq fun K hK=>?_|((first|refine hK _ _ ?_|(clear hK;refine hK _ _ ?_)|(clear hK;clear hK;refine hK _ _ ?_));clear hK;try clear K))| refine W0 ?_|exact Z|with_reducible intro b)
    exact ⟨_,rfl,own_id ho⟩
   clear hK
   obtain ⟨I,mk,el⟩:=hide fun e S=>∃ i:Nat,i≤q.length∧e 0=.g (eS eM q)∧e 1=i64 n∧e 7=i64 i∧(∀ j,j<i→monoB (gM q j) n=true)∧RowZ S (.l 41) 4 (e 6) (rS eT ((q.take i).map teM))
   refine pv_loop I (fun e _=>q.length - (intD (e 7)).toNat) ?_ ?_
   ·have ft:=true_and
    exact mk _ _ ⟨0,Nat.zero_le _,Zr,Zr,Zr,fun j hj=>by omega,.inl ⟨Zr,rfl⟩⟩
   ·intro e S hI
    obtain ⟨i,hi,g0,g1,g7,hz,hw⟩:=el e S hI
    clear el hI
    have ft:=And.intro g0 (And.intro g1 g7)
    repeat (first|(with_reducible first|refine pv_seq fun K hK=>?_|((first|refine hK _ _ ?_|(clear hK;refine hK _ _ ?_)|(clear hK;clear hK;refine hK _ _ ?_));clear hK;try clear K))| refine W0 ?_|exact Z|with_reducible intro b)
    refine pv_cdD (fun ht=>?_) (fun ht=>?_)
    ·have hil:i<q.length:=by omega
     have q1:=gM_at hil
     have wm:=hq.at_ hil
     have pM:=p_rMono (n:=n) wm h4
     have hno:=fun h=>hno (allM_no hil h)
     have hz2:monoB (gM q i) n=true→∀ j,j<i + 1→monoB (gM q j) n=true:=fun h j hj=>by
      rcases Nat.lt_or_ge j i with h1|h1
      ·exact hz j h1
      ·obtain rfl:j=i:=by omega
       exact h
     have hrt:=fun (h:monoB (gM q i) n=true)=>right_is wm.c.b (monoB_right h)
     have htk:(q.take (i + 1)).map teM=(q.take i).map teM ++ [teM (gM q i)]:=by rw [List.take_add_one,q1,List.map_append];rfl
     have hlt:((q.take i).map teM).length=i:=by rw [List.length_map,List.length_take];omega
     clear hyes J
     generalize monoB (gM q i) n=t at *
     generalize gM q i=m at *
     obtain ⟨⟨n1,e1,w1⟩,z⟩:=m
     cases t
     ·have h:=hno rfl
      subst h
      have ft:=And.intro g0 (And.intro g1 (And.intro g7 q1))
      repeat (first|(with_reducible first|refine pv_seq fun K hK=>?_|((first|refine hK _ _ ?_|(clear hK;refine hK _ _ ?_)|(clear hK;clear hK;refine hK _ _ ?_));clear hK;try clear K))| refine W ?_|exact Z|with_reducible intro b)
      exact ⟨_,rfl,.inl ⟨rfl,rfl⟩⟩
     ·obtain ⟨d,hd,hc⟩:=hrt rfl
      have pO:=p_rOf hd
      simp only at hc
      rw [← hc] at pO
      have hv:teM ⟨⟨n1,e1,w1⟩,z⟩=⟨d,z⟩:=by unfold teM;simp only;rw [hc,val_nuOf]
      rw [hv] at htk
      have hnew:=rS_t (l:=(q.take i).map teM) (t:=⟨d,z⟩)
      unfold VA at pO
      simp only at hnew
      have ft:=And.intro g0 (And.intro g1 (And.intro g7 q1))
      repeat' (first|(with_reducible first|refine pv_seq fun K hK=>?_|((first|refine hK _ _ ?_|(clear hK;refine hK _ _ ?_)|(clear hK;clear hK;refine hK _ _ ?_));clear hK;try clear K))| refine W ?_|exact Z|with_reducible intro b|with_reducible refine And.intro ?_ ?_|(refine RowZ.appL (hw.up (by rfl)) (by decide) rfl (by simp [D.one,W32]) ?_ ?_ fun d' S' hr' hS'=>?_))
      all_goals first|(rw [rS_len,hlt];omega)|(simp only [intD];omega)|exact mk _ _ ⟨i + 1,by omega,Zr,Zr,Zr,hz2 rfl,by rw [htk,← hnew];exact hr'⟩
    ·obtain rfl:i=q.length:=by omega
     rw [List.take_length] at hw
     repeat (first|(with_reducible first|refine pv_seq fun K hK=>?_|((first|refine hK _ _ ?_|(clear hK;refine hK _ _ ?_)|(clear hK;clear hK;refine hK _ _ ?_));clear hK;try clear K))| refine W0 ?_|exact Z|with_reducible intro b)
     exact J _ _ hz hw
  ·have k1:(n<1)=False:=eq_false (by omega)
   have k2:(4<n)=True:=eq_true (by omega)
   have hr:pmkR q n=([],1):=by unfold pmkR;rw [decide_eq_false h4,Bool.and_false];rfl
   rw [hr]
   have d1:=@dl 9 qQ35_20_9
   refine PRB (fun k=>k) (fun k=>k) (fun _ _ h=>h) (rs:=[.tmp 4,.tmp 5]) Tryz.func20 ?_
   have ft:=And.intro k1 k2
   repeat (first|(with_reducible first|refine pv_seq fun K hK=>?_|((first|refine hK _ _ ?_|(clear hK;refine hK _ _ ?_)|(clear hK;clear hK;refine hK _ _ ?_));clear hK;try clear K))| refine W0 ?_|exact Z|with_reducible intro b)
   exact ⟨_,rfl,.inl ⟨rfl,rfl⟩⟩
 ·have k1:(n<1)=True:=eq_true (by omega)
  have hr:pmkR q n=([],1):=by unfold pmkR;rw [decide_eq_false h1];rfl
  rw [hr]
  have d1:=@dl 9 qQ35_20_9
  refine PRB (fun k=>k) (fun k=>k) (fun _ _ h=>h) (rs:=[.tmp 4,.tmp 5]) Tryz.func20 ?_
  have ft:=k1
  repeat (first|(with_reducible first|refine pv_seq fun K hK=>?_|((first|refine hK _ _ ?_|(clear hK;refine hK _ _ ?_)|(clear hK;clear hK;refine hK _ _ ?_));clear hK;try clear K))| refine W0 ?_|exact Z|with_reducible intro b)
  exact ⟨_,rfl,.inl ⟨rfl,rfl⟩⟩
def ownN:Nm→Nm:=fun k=>if k=.r 0 1 then .r 0 1 else .up k
def ownT:Nm→Nm:=fun|.up k=>k|k=>k
theorem ownN_inj (k k':Nm) (h:ownN k=ownN k'):k=k':=by
 unfold ownN at h
 split at h<;>split at h
 ·rename_i a b;rw [a,b]
 ·cases h
 ·cases h
 ·injection h
set_option maxHeartbeats 1000000 in
theorem p_dPolyO {k:Nm} {S:Store} {Q:D→Store→Prop} {bd i n most deg:Nat} {w:List Nat} (hS:S k=some ⟨bd,2,0,[[W64 w,i64 i]]⟩) (hk:k≠.r 0 1) (hb:B64 w) (hi:i≤500000000) (h1:1≤n) (h4:n≤4) (h8:deg≤8) (hm:most≤24)
 (hQ:∀ (q:List Mo) (j:Nat) (d:D) (x:Option Blk),DrP n most deg q→j≤i + 1 + 10 * most→OwnM q d x→Q d (updS (updS S k (some ⟨bd,2,0,[[W64 w,i64 j]]⟩)) (.r 0 1) x)) :
 PFC Tryz.prog 25 [.ptr k bd 0 0 2,i64 n,i64 most,i64 deg] S Q:=by
 refine PRB ownN ownT ownN_inj (rs:=[.tmp 8]) Tryz.func25 ?_
 repeat (first|(with_reducible first|refine pv_seq fun K hK=>?_|((first|refine hK _ _ ?_|(clear hK;refine hK _ _ ?_)|(clear hK;clear hK;refine hK _ _ ?_));clear hK;try clear K))| refine W0 ?_|exact Z|with_reducible intro b)
 refine p_dMonos (i:=i) (n:=n) (most:=most) (deg:=deg) (by simp -implicitDefEqProofs only [updS,upS];exact hS) hb hi h1 h4 h8 (by omega) fun q j hq hd hj=>?_
 have pM:=p_rPMakeO (n:=(n:Int)) (q:=q) ⟨by omega,fun m hm=>(hd m hm).wm (by omega)⟩ (by omega)
 obtain ⟨p,e1,e2⟩:=drP_of h1 h4 h8 hm hq hd
 rw [e1] at pM
 have hq2:=hQ p j
 unfold MM at *
 repeat (first|(with_reducible first|refine pv_seq fun K hK=>?_|((first|refine hK _ _ ?_|(clear hK;refine hK _ _ ?_)|(clear hK;clear hK;refine hK _ _ ?_));clear hK;try clear K))| refine W0 ?_|exact Z|with_reducible intro b)
 refine PFC.fresh (.r 0 1) (K0:=fun d x=>∃ d',d=.tup [d',i64 0]∧OwnM p d' x) pM ?_
 rintro d x ⟨d',rfl,ho⟩
 repeat (first|(with_reducible first|refine pv_seq fun K hK=>?_|((first|refine hK _ _ ?_|(clear hK;refine hK _ _ ?_)|(clear hK;clear hK;refine hK _ _ ?_));clear hK;try clear K))| refine W0 ?_|exact Z|with_reducible intro b)
 have hs:(⟨fun k1=>updS (updS (upS S) (.up k) (some ⟨bd,2,0,[[W64 w,i64 j]]⟩)) (.r 0 1) x (ownN k1),S.g⟩:Store)=updS (updS S k (some ⟨bd,2,0,[[W64 w,i64 j]]⟩)) (.r 0 1) x:=by
  refine Store.ext2 (fun k2=>?_) rfl
  show updS (updS (upS S) (.up k) (some ⟨bd,2,0,[[W64 w,i64 j]]⟩)) (.r 0 1) x (ownN k2)=_
  unfold ownN
  by_cases h:k2=.r 0 1
  ·rw [if_pos h,updS_at,h,updS_at]
  ·rw [if_neg h,updS_ne (by simp),updS_ne h,updS_apply,updS_apply]
   simp [upS,upF]
 have hd:rnD ownT d'=d':=by
  rcases ho with ⟨rfl,_⟩|⟨b,cap,rfl,_⟩
  ·rfl
  ·exact rnD_own
 have hq3:=hq2 d' x e2 hj ho
 rw [← hs,← hd] at hq3
 exact hq3
end Go.V
namespace Go.V
open Go Go.RowKit Go.Proofs
theorem rM_cons {m:Mo} {r:List Mo}:rS eM (m :: r)=[bl m.c.neg,i64 m.c.exp,W64 m.c.w,.g (eS eZ m.e)] :: rS eM r:=rfl
set_option maxHeartbeats 8000000 in
theorem p_PolyDrawn {w:List Nat} (hb:B64 w):PC Tryz.prog 6 [W64 w] fun d=>d=bl true:=by
 have pK:=p_known10
 refine PB (rs:=[.tmp 2]) Tryz.func6 ?_
 repeat (first|(with_reducible first|refine pv_seq fun K hK=>?_|((first|refine hK _ _ ?_|(clear hK;refine hK _ _ ?_)|(clear hK;clear hK;refine hK _ _ ?_));clear hK;try clear K))| refine W ?_|exact Z|with_reducible intro b)
 refine p_Of (fun b0=>?_)
 repeat (first|(with_reducible first|refine pv_seq fun K hK=>?_|((first|refine hK _ _ ?_|(clear hK;refine hK _ _ ?_)|(clear hK;clear hK;refine hK _ _ ?_));clear hK;try clear K))| refine W0 ?_|exact Z|with_reducible intro b)
 refine p_dDim (i:=0) (by simp -implicitDefEqProofs only [updS,upS,if_true];rfl) hb (by omega) (fun n hn1 hn4=>?_)
 repeat (first|(with_reducible first|refine pv_seq fun K hK=>?_|((first|refine hK _ _ ?_|(clear hK;refine hK _ _ ?_)|(clear hK;clear hK;refine hK _ _ ?_));clear hK;try clear K))| refine W0 ?_|exact Z|with_reducible intro b)
 refine p_dPolyO (n:=n) (most:=6) (deg:=5) (i:=1) (by simp -implicitDefEqProofs only [updS,upS,if_true];rfl) (by decide) hb (by omega) hn1 hn4 (by decide) (by decide) (fun p j1 d1 x1 hp hj1 ho=>?_)
 repeat (first|(with_reducible first|refine pv_seq fun K hK=>?_|((first|refine hK _ _ ?_|(clear hK;refine hK _ _ ?_)|(clear hK;clear hK;refine hK _ _ ?_));clear hK;try clear K))| refine W0 ?_|exact Z|with_reducible intro b)
 refine p_dPoly (n:=n) (most:=6) (deg:=5) (i:=j1) (by rw [updS_ne (by decide),updS_at];rfl) hb (by omega) hn1 hn4 (by decide) (by decide) (fun q j2 hq hj2=>?_)
 have wq:=hq.wf (by omega) (by decide)
 have wp:=hp.wf (by omega) (by decide)
 unfold MM
 repeat (first|with_reducible refine pv_stopQ 6 ?_|(with_reducible first|refine pv_seq fun K hK=>?_|((first|refine hK _ _ ?_|(clear hK;refine hK _ _ ?_)|(clear hK;clear hK;refine hK _ _ ?_));clear hK;try clear K))| refine W ?_|exact Z|with_reducible intro b)
 refine ⟨fun K q0 hC=>?_⟩
 have J:∀ (e:DEnv) (S:Store) (p:List Mo),WfM p→e 4=i64 n→e 5=.g (eS eM p)→e 6=.g (eS eM q)→K e S:=by
  as_aux_lemma =>
  intro e S p wp g4 g5 g6
  refine q0 _ _ ?_
  clear q0 hC
  have pR:=fun i:Int=>p_reckons (i:=i) (n:=(n:Int)) wp wq
  have pP:=p_reckons (i:=0) (n:=(n:Int)) wp wp
  unfold MM at pR pP
  have ft:=And.intro g4 (And.intro g5 g6)
  repeat (first|(with_reducible first|refine pv_seq fun K hK=>?_|((first|refine hK _ _ ?_|(clear hK;refine hK _ _ ?_)|(clear hK;clear hK;refine hK _ _ ?_));clear hK;try clear K))| refine W0 ?_|exact Z|with_reducible intro b)
  refine pv_loop (fun e T=>Hid (∃ t:Nat,t≤n + 2∧e 4=i64 n∧e 5=.g (eS eM p)∧e 6=.g (eS eM q)∧e 7=i64 ((t:Int) - 1))) (fun e _=>n + 2 - ((intD (e 7)) + 1).toNat) ?_ ?_
  ·exact ⟨0,by omega,Zr,Zr,Zr,Zr⟩
  ·rintro e T ⟨t,ht,g4,g5,g6,g7⟩
   have pR:=pR ((t:Int) - 1)
   have ft:=And.intro g4 (And.intro g5 (And.intro g6 g7))
   repeat (first|(with_reducible first|refine pv_seq fun K hK=>?_|((first|refine hK _ _ ?_|(clear hK;refine hK _ _ ?_)|(clear hK;clear hK;refine hK _ _ ?_));clear hK;try clear K))| refine W0 ?_|exact Z|with_reducible intro b)
   refine pv_cdD (fun ht1=>?_) (fun ht1=>?_)
   ·have h7:(t:Int) - 1 + 1=((t + 1:Nat):Int) - 1:=by omega
    repeat (first|(with_reducible first|refine pv_seq fun K hK=>?_|((first|refine hK _ _ ?_|(clear hK;refine hK _ _ ?_)|(clear hK;clear hK;refine hK _ _ ?_));clear hK;try clear K))| refine W ?_|exact Z|with_reducible intro b)
    exact ⟨⟨t + 1,by omega,Zr,Zr,Zr,by rw [← h7]⟩,by simp only [intD];omega⟩
   ·exact Wk
 clear q0
 rcases ho with ⟨rfl,rfl⟩|⟨b1,cap,rfl,rfl⟩
 ·repeat (first|(with_reducible first|refine pv_seq fun K hK=>?_|((first|refine hK _ _ ?_|(clear hK;refine hK _ _ ?_)|(clear hK;clear hK;refine hK _ _ ?_));clear hK;try clear K))| refine W0 ?_|exact Z|with_reducible intro b)
  refine p_dYes (n:=5) (i:=j2) (by simp -implicitDefEqProofs only [updS_apply,if_true,eq_self];try rfl) hb (by omega) (by decide) (by decide) (fun t=>?_)
  cases t
  all_goals
   repeat (first|(with_reducible first|refine pv_seq fun K hK=>?_|((first|refine hK _ _ ?_|(clear hK;refine hK _ _ ?_)|(clear hK;clear hK;refine hK _ _ ?_));clear hK;try clear K))| refine W0 ?_|exact Z|with_reducible intro b)
   exact hC _ _ (Recast.rowSlot (f:=eM) (xs:=[]) 5 (k:=.r 0 1) (s:=4) (.inl ⟨Zr,rfl⟩) fun S2 hS2=>J _ _ [] WfM.nil Zr rfl Zr)
 ·cases p with
  | nil =>
    have k0:((0:Int)<0)=False:=eq_false (by decide)
    have ft:=k0
    repeat (first|(with_reducible first|refine pv_seq fun K hK=>?_|((first|refine hK _ _ ?_|(clear hK;refine hK _ _ ?_)|(clear hK;clear hK;refine hK _ _ ?_));clear hK;try clear K))| refine W0 ?_|exact Z|with_reducible intro b)
    refine p_dYes (n:=5) (i:=j2) (by simp -implicitDefEqProofs only [updS_apply,if_true,eq_self];try rfl) hb (by omega) (by decide) (by decide) (fun t=>?_)
    cases t
    all_goals
     repeat (first|(with_reducible first|refine pv_seq fun K hK=>?_|((first|refine hK _ _ ?_|(clear hK;refine hK _ _ ?_)|(clear hK;clear hK;refine hK _ _ ?_));clear hK;try clear K))| refine W0 ?_|exact Z|with_reducible intro b)
     exact hC _ _ (Recast.rowSlot (f:=eM) (xs:=[]) 5 (k:=.r 0 1) (s:=4) (.inr ⟨b1,cap,0,by rw [rS_len];exact Zr,by simp only [updS_apply];rfl⟩) fun S2 hS2=>J _ _ [] WfM.nil Zr rfl Zr)
  | cons m r =>
    have m1:(Nm.r 0 1=Nm.r 0 0)=False:=eq_false (by decide)
    have m2:(Nm.r 0 0=Nm.r 0 1)=False:=eq_false (by decide)
    have k0:((0:Int)<((r.length + 1:Nat):Int))=True:=eq_true (by omega)
    have k1:(0<r.length + 1)=True:=eq_true (by omega)
    rw [List.length_cons,rM_cons]
    have ft:=And.intro k0 (And.intro k1 (And.intro m1 m2))
    repeat (first|(with_reducible first|refine pv_seq fun K hK=>?_|((first|refine hK _ _ ?_|(clear hK;refine hK _ _ ?_)|(clear hK;clear hK;refine hK _ _ ?_));clear hK;try clear K))| refine W0 ?_|exact Z|with_reducible intro b)
    refine p_dYes (n:=5) (i:=j2) (by simp -implicitDefEqProofs only [updS_apply,if_true,eq_self];try rfl) hb (by omega) (by decide) (by decide) (fun t=>?_)
    cases t
    ·repeat (first|(with_reducible first|refine pv_seq fun K hK=>?_|((first|refine hK _ _ ?_|(clear hK;refine hK _ _ ?_)|(clear hK;clear hK;refine hK _ _ ?_));clear hK;try clear K))| refine W0 ?_|exact Z|with_reducible intro b)
     exact hC _ _ (Recast.rowSlot (f:=eM) (xs:=m :: r) 5 (k:=.r 0 1) (.inr ⟨b1,cap,0,by rw [rS_len];exact Zr,by simp only [updS_apply];rfl⟩) fun S2 hS2=>J _ _ _ wp Zr rfl Zr)
    ·repeat (first|(with_reducible first|refine pv_seq fun K hK=>?_|((first|refine hK _ _ ?_|(clear hK;refine hK _ _ ?_)|(clear hK;clear hK;refine hK _ _ ?_));clear hK;try clear K))| refine W0 ?_|exact Z|with_reducible intro b)
     refine p_dnum (i:=j2 + 1) (by simp -implicitDefEqProofs only [updS_apply,if_true,eq_self];try rfl) hb (by omega) (fun z j3 oz hj3=>?_)
     have wz:Wl 65536 (nuOf z):=oz.sz.wl
     have we:m.e.length≤100000:=(wp.w m List.mem_cons_self).n
     have hwf:∀ u:Nu,Wl 65536 u→WfM (⟨u,m.e⟩ :: r):=fun u hu=>⟨wp.n,fun x hx=>by
      rcases List.mem_cons.1 hx with rfl|hx
      ·exact ⟨hu,we⟩
      ·exact wp.w x (List.mem_cons_of_mem _ hx)⟩
     generalize nuOf z=u at *
     obtain ⟨n1,e1,w1⟩:=u
     by_cases h0:w1=[]
     ·subst h0
      repeat (first|(with_reducible first|refine pv_seq fun K hK=>?_|((first|refine hK _ _ ?_|(clear hK;refine hK _ _ ?_)|(clear hK;clear hK;refine hK _ _ ?_));clear hK;try clear K))| refine W0 ?_|exact Z|with_reducible intro b)
      refine hC _ _ (Recast.join (Recast.frzCell (k2:=.r 0 1) (k:=.l 40) (by repeat first|exact updS_at|refine (updS_ne (by decide)).trans ?_) 0 2 rfl rfl (by decide) (by repeat first|exact updS_at|refine (updS_ne (by decide)).trans ?_) (gs:=[[.lit (.int .u64 1)]]) rfl (by decide) ?_))
      exact Recast.rowSlot (f:=eM) (xs:=⟨⟨false,0,[1]⟩,m.e⟩ :: r) 5 (k:=.r 0 1) (.inr ⟨b1,cap,0,by rw [rS_len];exact Zr,by rw [updS_at];rfl⟩) fun S2 hS2=>J _ _ _ (hwf _ ⟨by decide,by decide⟩) Zr rfl Zr
     ·have hl0:((w1.length:Int)=0)=False:=eq_false (by have:=List.length_pos_iff.2 h0;omega)
      have ft:=And.intro k0 (And.intro k1 (And.intro m1 (And.intro m2 hl0)))
      repeat (first|(with_reducible first|refine pv_seq fun K hK=>?_|((first|refine hK _ _ ?_|(clear hK;refine hK _ _ ?_)|(clear hK;clear hK;refine hK _ _ ?_));clear hK;try clear K))| refine W0 ?_|exact Z|with_reducible intro b)
      exact hC _ _ (Recast.rowSlot (f:=eM) (xs:=⟨⟨n1,e1,w1⟩,m.e⟩ :: r) 5 (k:=.r 0 1) (.inr ⟨b1,cap,0,by rw [rS_len];exact Zr,by simp only [updS_apply];rfl⟩) fun S2 hS2=>J _ _ _ (hwf _ wz) Zr rfl Zr)
end Go.V
