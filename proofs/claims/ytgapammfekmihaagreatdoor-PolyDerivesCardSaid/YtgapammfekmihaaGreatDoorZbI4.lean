/- Package poly's At. The document's Value and At. Ranges of polynomials, plain; which boxes are right; a monomial over a box. Package poly's Range. The document's Range. Which polynomials are known; which lists are light. Which lists of monomials are light. What sums, products and derivatives answer is well-formed. The statements PolyRights, PolyReckons. The statement PolyValues. The deck's dimensions. The statement PolyMakes. Ranges over small boxes, plain: no step goes over, each value is within, parts give parts. The statement PolyHolds. Terms by sums over them, plain: what is gathered is told by the sums alone. Sums, products and derivatives of small polynomials. Small polynomials, plain: sums, products, derivatives are there, and their laws. The statement PolyRings. The statement PolyDerives. -/
import Derived.Test.YtgapammfekmihaaGreatDoorZbI3
import Derived.Test.YtgapammfekmihaaGreatDoorZbI0
set_option linter.unusedSimpArgs false
set_option linter.unusedVariables false
set_option maxRecDepth 100000
namespace Go.V
open Go Go.RowKit Go.Proofs
def qQ19_77_1:List (Nat × Nat):=[(0,0),(1,2),(2,0),(3,2),(4,0),(5,0),(6,2),(7,0),(8,2),(9,0),(10,0),(11,1),(12,0),(13,1),(14,4),(15,0),(16,3)]
def qQ19_32_13:List (Nat × Nat):=[(0,1),(1,0),(2,0),(3,0),(4,1),(5,3),(6,3)]
attribute [go_sem] qQ19_77_1 qQ19_32_13
def monV (c:Dyadic) (xs:List Nu) (e:List Int):Nat→Dyadic
 | 0=>c
 | i + 1=>monV c xs e i * powD (gU xs i).val (e.getD i 0).toNat
def valV (q:List Mo) (xs:List Nu):Nat→Dyadic
 | 0=>0
 | k + 1=>valV q xs k + monV (gM q k).c.val xs (gM q k).e xs.length
def atR (q:List Mo) (xs:List Nu):Nu × Int:=if polyB q xs.length && allU xs then numR (valV q xs q.length) else (nu0,1)
theorem Sy.lift {k p k' p':Nat} {x:Nu} (h:Sy k p x) (hp:p≤p') (hk:k + (p' - p)≤k'):Sy k' p' x:=by
 have h2:=h.sm.lift (p' - p)
 rw [show p + (p' - p)=p' by omega] at h2
 exact ⟨h.dg,by have:=h.lo;omega,by have:=h.hi;omega,h2.mono hk⟩
theorem p_eMulS {k H m J:Nat} {a b:Nu} (ha:Sy k H a) (hb:Sy m J b) (hk:k + H≤60000000) (hm:m + J≤60000000):PC Tryz.prog 77 [NU a,NU b] fun d=>∃ z,d=NU z∧Sy (k + m) (H + J) z∧z.val=a.val * b.val:=by
 have za:=ha.sz (K:=k + H) (by omega) (by omega)
 have zb:=hb.sz (K:=m + J) (by omega) (by omega)
 have sa:=ha.sm
 have sb:=hb.sm
 have l1:=ha.lo;have l2:=ha.hi;have l3:=hb.lo;have l4:=hb.hi
 obtain ⟨neg,exp,w⟩:=a
 obtain ⟨neg',exp',w'⟩:=b
 have l5:=za.len;have l6:=zb.len
 have hxb:=za.b;have hyb:=zb.b
 simp only at l1 l2 l3 l4 l5 l6 hxb hyb
 have hv:(⟨neg != neg',exp + exp',D64 (N64 w * N64 w')⟩:Nu).val=Nu.val ⟨neg,exp,w⟩ * Nu.val ⟨neg',exp',w'⟩:=by
  rw [val_mk];exact (dy_mul _ _ _ _ _ _).symm
 have hz:Sy (k + m) (H + J) ⟨neg != neg',exp + exp',D64 (N64 w * N64 w')⟩:=by
  refine ⟨(congrArg _ (nval_digs (by decide) _)).symm,by show -((H + J:Nat):Int)≤exp + exp';omega,by show exp + exp'≤((H + J:Nat):Int);omega,?_⟩
  rw [hv];exact sa.mul sb
 have d1:=@dl 1 qQ19_77_1
 refine PB (rs:=[.cell 4 41]) Tryz.func77 ?_
 repeat (first|(with_reducible first|refine pv_seq fun K hK=>?_|((first|refine hK _ _ ?_|(clear hK;refine hK _ _ ?_)|(clear hK;clear hK;refine hK _ _ ?_));clear hK;try clear K))| refine W0 ?_|exact Z|with_reducible intro b|refine call_is (by exact (p_Mul hxb hyb (by omega) (by omega))) ?_|(refine ExtC_is ?_;simp -implicitDefEqProofs only [ft,go_sem,seval];refine ext_is (by exact (p_Mul hxb hyb (by omega) (by omega))) ?_))
 exact ⟨_,rfl,hz,hv⟩
set_option maxHeartbeats 4000000 in
theorem p_pAt {q:List Mo} {xs:List Nu} (hq:WfM q) (hx:WfU xs):PC Tryz.prog 32 [MM q,UU xs] fun d=>d=NE (atR q xs):=by
 have p1:=p_pRight (n:=(xs.length:Int)) hq
 have p2:=p_ContU hx
 have hqn:=hq.n
 have hxn:=hx.n
 unfold atR
 cases h1:polyB q xs.length with
 | false =>
   rw [h1] at p1
   unfold MM UU at *
   have d1:=@dl 13 qQ19_32_13
   refine PB (rs:=[.cell 4 41,.tmp 5]) Tryz.func32 ?_
   exact Wk
 | true =>
   rw [h1] at p1
   cases h2:allU xs with
   | false =>
     rw [h2] at p2
     unfold MM UU at *
     have d1:=@dl 13 qQ19_32_13
     refine PB (rs:=[.cell 4 41,.tmp 5]) Tryz.func32 ?_
     exact Wk
   | true =>
     rw [h2] at p2
     have pok:=polyB_ok h1
     have hn:=polyB_n h1
     have hlen:=polyB_len h1
     have hxr:=of_decide_eq_true h2
     simp only [Bool.and_self,if_true]
     have hB:∀ m ∈ q,Sy 135168 65536 m.c:=fun m hm=>by
      obtain ⟨d,hd,hc⟩:=right_is (hq.w m hm).c.b (pok m hm).right
      rw [hc];exact hd.sy
     have hX:∀ i,i<xs.length→Sy 135168 65536 (gU xs i):=fun i hi=>by
      obtain ⟨d,hd,hc⟩:=right_is (hx.w _ (gU_mem hi)).b (hxr _ (gU_mem hi))
      rw [hc];exact hd.sy
     generalize hres:numR (valV q xs q.length)=res
     unfold MM UU at *
     have d1:=@dl 13 qQ19_32_13
     refine PB (rs:=[.cell 4 41,.tmp 5]) Tryz.func32 ?_
     repeat (first|(with_reducible first|refine pv_seq fun K hK=>?_|((first|refine hK _ _ ?_|(clear hK;refine hK _ _ ?_)|(clear hK;clear hK;refine hK _ _ ?_));clear hK;try clear K))| refine W0 ?_|exact Z|with_reducible intro b)
     refine (call_is p1 ?_)
     repeat (first|(with_reducible first|refine pv_seq fun K hK=>?_|((first|refine hK _ _ ?_|(clear hK;refine hK _ _ ?_)|(clear hK;clear hK;refine hK _ _ ?_));clear hK;try clear K))| refine W0 ?_|exact Z|with_reducible intro b)
     refine (call_is p2 ?_)
     repeat (first|with_reducible refine pv_stop 4 ?_|(with_reducible first|refine pv_seq fun K hK=>?_|((first|refine hK _ _ ?_|(clear hK;refine hK _ _ ?_)|(clear hK;clear hK;refine hK _ _ ?_));clear hK;try clear K))| refine W ?_|exact Z|with_reducible intro b)
     refine ⟨fun K4 q4 hC=>?_⟩
     repeat (first|(with_reducible first|refine pv_seq fun K hK=>?_|((first|refine hK _ _ ?_|(clear hK;refine hK _ _ ?_)|(clear hK;clear hK;refine hK _ _ ?_));clear hK;try clear K))| refine W0 ?_|exact Z|with_reducible intro b)
     refine hC _ _ (Recast.cell (k:=.l 6) (i:=0) (j:=2) (d':=W64 []) (by simp only [updS_apply];rfl) rfl rfl (fun I H v hv=>nil_row hv) ?_)
     refine q4 _ _ ?_
     clear q4 hC
     repeat (first|(with_reducible first|refine pv_seq fun K hK=>?_|((first|refine hK _ _ ?_|(clear hK;refine hK _ _ ?_)|(clear hK;clear hK;refine hK _ _ ?_));clear hK;try clear K))| refine W0 ?_|exact Z|with_reducible intro b)
     have JF:∀ (e:DEnv) (S:Store) (b4 b6:Nat) (t:Nu),e 4=.ptr (.l 4) b4 0 0 3→e 6=.ptr (.l 6) b6 0 0 3→S (.l 4)=some ⟨b4,3,0,[[bl false,i64 0,.nil]]⟩→S (.l 6)=some ⟨b6,3,0,[[bl t.neg,i64 t.exp,W64 t.w]]⟩→Sy (1806336 + q.length) 589824 t→t.val=valV q xs q.length→K e S:=by
      intro e S b4 b6 t g4 g6 s4 s6 hs hv
      have hz:=hs.sz (K:=3000000) (by omega) (by omega)
      have pM:=p_nMake (neg:=t.neg) (w:=t.w) (e:=t.exp) hz.b (by have:=hz.len;omega) (by have:=hz.lo;have:=hz.hi;unfold R64;omega)
      have e1:dy t.neg (N64 t.w) t.exp=t.val:=rfl
      rw [e1,hv,hres] at pM
      clear hv hs hz e1
      obtain ⟨n1,e1,w1⟩:=t
      obtain ⟨⟨n2,e2,w2⟩,er⟩:=res
      unfold NE NU at *
      have ft:=And.intro g4 (And.intro g6 (And.intro s4 s6))
      exact Wk
     clear hK hres
     obtain ⟨I,mk,el⟩:=hide fun e S=>∃ (k b4 b6:Nat) (t:Nu),k≤q.length∧e 1=.g (eS eU xs)∧e 4=.ptr (.l 4) b4 0 0 3∧e 6=.ptr (.l 6) b6 0 0 3∧e 22=.g (eS eM q)∧e 23=i64 q.length∧e 24=i64 k∧S (.l 4)=some ⟨b4,3,0,[[bl false,i64 0,.nil]]⟩∧S (.l 6)=some ⟨b6,3,0,[[bl t.neg,i64 t.exp,W64 t.w]]⟩∧Sy (1806336 + k) 589824 t∧t.val=valV q xs k
     refine pv_loop I (fun e _=>q.length - (intD (e 24)).toNat) ?_ ?_
     ·have h0:Nu.val nu0=0:=dy0 _ _
      exact mk _ _ ⟨0,_,_,nu0,Nat.zero_le _,Zr,rfl,rfl,Zr,Zr,Zr,by simp only [updS_apply];rfl,by simp only [updS_apply];rfl,Sy.zero,h0⟩
     ·intro e S hI
      obtain ⟨k,b4,b6,t,hk,g1,g4,g6,g22,g23,g24,s4,s6,hst,hvt⟩:=el e S hI
      clear el hI
      have hm0:(intD (e 24)).toNat=k:=by rw [g24];exact Int.toNat_natCast k
      have ft:=And.intro g1 (And.intro g4 (And.intro g6 (And.intro g22 (And.intro g23 (And.intro g24 (And.intro s4 s6))))))
      repeat (first|(with_reducible first|refine pv_seq fun K hK=>?_|((first|refine hK _ _ ?_|(clear hK;refine hK _ _ ?_)|(clear hK;clear hK;refine hK _ _ ?_));clear hK;try clear K))| refine W0 ?_|exact Z|with_reducible intro b)
      refine pv_cdD (fun ht=>?_) (fun ht=>?_)
      ·have hkl:k<q.length:=by omega
       have q1:=gM_at hkl
       have ok1:=pok _ (gM_mem hkl)
       have hbm:=hB _ (gM_mem hkl)
       have hvs:valV q xs (k + 1)=valV q xs k + monV (gM q k).c.val xs (gM q k).e xs.length:=rfl
       have mk2:∀ (e:DEnv) (S:Store) (t:Nu),e 1=.g (eS eU xs)→e 4=.ptr (.l 4) b4 0 0 3→e 6=.ptr (.l 6) b6 0 0 3→e 22=.g (eS eM q)→e 23=i64 q.length→e 24=i64 ((k + 1:Nat):Int)→S (.l 4)=some ⟨b4,3,0,[[bl false,i64 0,.nil]]⟩→S (.l 6)=some ⟨b6,3,0,[[bl t.neg,i64 t.exp,W64 t.w]]⟩→Sy (1806336 + (k + 1)) 589824 t→t.val=valV q xs (k + 1)→I e S:=fun e S t a1 a2 a3 a4 a5 a6 a7 a8 a9 a10=>mk _ _ ⟨k + 1,b4,b6,t,by omega,a1,a2,a3,a4,a5,a6,a7,a8,a9,a10⟩
       clear mk JF
       have hln:=ok1.len
       have hnn:=ok1.nn
       have hsum:=ok1.sum
       generalize gM q k=m at *
       obtain ⟨c,z⟩:=m
       simp only at *
       have hT:=fun i=>sum_take_le (l:=z) i hnn
       have hT0:∀ i,0≤(z.take i).sum:=fun i=>by
        have:=sum_take_le (l:=z.take i) 0 (fun x hx=>hnn x (List.mem_of_mem_take hx))
        simpa using this
       have ft:=And.intro g1 (And.intro g4 (And.intro g6 (And.intro g22 (And.intro g23 (And.intro g24 (And.intro s4 (And.intro s6 q1)))))))
       repeat (first|(with_reducible first|refine pv_seq fun K hK=>?_|((first|refine hK _ _ ?_|(clear hK;refine hK _ _ ?_)|(clear hK;clear hK;refine hK _ _ ?_));clear hK;try clear K))| refine W0 ?_|exact Z|with_reducible intro b)
       have JE:∀ (e:DEnv) (S:Store) (b9:Nat) (v:Nu),e 1=.g (eS eU xs)→e 4=.ptr (.l 4) b4 0 0 3→e 6=.ptr (.l 6) b6 0 0 3→e 9=.ptr (.l 9) b9 0 0 3→e 22=.g (eS eM q)→e 23=i64 q.length→e 24=i64 k→S (.l 4)=some ⟨b4,3,0,[[bl false,i64 0,.nil]]⟩→S (.l 6)=some ⟨b6,3,0,[[bl t.neg,i64 t.exp,W64 t.w]]⟩→S (.l 9)=some ⟨b9,3,0,[[bl v.neg,i64 v.exp,W64 v.w]]⟩ →
        Sy 1806336 589824 v→v.val=monV c.val xs z xs.length→K e S:=by
        intro f S2 b9 v g1 g4 g6 g9 g22 g23 g24 s4 s6 s9 hs hv
        have pA:=p_eAddS hst (hs.mono (k':=1806336 + k) (by omega)) (by omega) (by omega)
        rw [hvt,hv,← hvs] at pA
        clear hvs hs hv hst hvt
        obtain ⟨n1,e1,w1⟩:=t
        obtain ⟨n2,e2,w2⟩:=v
        unfold NU at pA
        simp only at pA
        have ft:=And.intro g1 (And.intro g4 (And.intro g6 (And.intro g9 (And.intro g22 (And.intro g23 (And.intro g24 (And.intro s4 (And.intro s6 s9))))))))
        repeat (first|(with_reducible first|refine pv_seq fun K hK=>?_|((first|refine hK _ _ ?_|(clear hK;refine hK _ _ ?_)|(clear hK;clear hK;refine hK _ _ ?_));clear hK;try clear K))| refine W0 ?_|exact Z|with_reducible intro b)
        refine call_pc pA ?_
        rintro d ⟨y,rfl,hy,hyv⟩
        obtain ⟨n3,e3,w3⟩:=y
        repeat (first|(with_reducible first|refine pv_seq fun K hK=>?_|((first|refine hK _ _ ?_|(clear hK;refine hK _ _ ?_)|(clear hK;clear hK;refine hK _ _ ?_));clear hK;try clear K))| refine W0 ?_|exact Z|with_reducible intro b)
        exact ⟨mk2 _ _ ⟨n3,e3,w3⟩ Zr Zr Zr Zr Zr Zr (by simp only [updS_apply];exact s4) (by simp only [updS_apply];rfl) hy hyv,by rw [hm0];simp only [intD];omega⟩
       clear hK mk2 hvs
       have hzl:z.length=xs.length:=by omega
       obtain ⟨I2,mk3,el2⟩:=hide fun e S=>∃ (i u b9:Nat) (v:Nu),i≤z.length∧(u:Int)=(z.take i).sum∧e 1=.g (eS eU xs)∧e 4=.ptr (.l 4) b4 0 0 3∧e 6=.ptr (.l 6) b6 0 0 3∧e 9=.ptr (.l 9) b9 0 0 3∧e 22=.g (eS eM q)∧e 23=i64 q.length∧e 24=i64 k∧e 31=.g (eS eZ z)∧e 32=i64 z.length∧e 33=i64 i∧S (.l 4)=some ⟨b4,3,0,[[bl false,i64 0,.nil]]⟩∧S (.l 6)=some ⟨b6,3,0,[[bl t.neg,i64 t.exp,W64 t.w]]⟩∧S (.l 9)=some ⟨b9,3,0,[[bl v.neg,i64 v.exp,W64 v.w]]⟩∧Sy (135168 * (1 + u)) (65536 * (1 + u)) v∧v.val=monV c.val xs z i
       refine pv_loop I2 (fun e _=>z.length - (intD (e 33)).toNat) ?_ ?_
       ·have ft:=And.intro g1 (And.intro g4 (And.intro g6 (And.intro g22 (And.intro g23 (And.intro g24 (And.intro s6 (And.intro s4 q1)))))))
        exact mk3 _ _ ⟨0,0,_,c,Nat.zero_le _,rfl,Zr,Zr,Zr,rfl,Zr,Zr,Zr,Zr,Zr,Zr,by simp only [updS_apply];exact s4,by simp only [updS_apply];exact s6,by simp only [updS_apply];rfl,hbm,rfl⟩
       ·intro e S hI
        obtain ⟨i,u,b9,v,hi,hu,g1,g4,g6,g9,g22,g23,g24,g31,g32,g33,s4,s6,s9,hs,hv⟩:=el2 e S hI
        clear el2 hI
        have hm2:(intD (e 33)).toNat=i:=by rw [g33];exact Int.toNat_natCast i
        have ft:=And.intro g1 (And.intro g4 (And.intro g6 (And.intro g9 (And.intro g22 (And.intro g23 (And.intro g24 (And.intro g31 (And.intro g32 (And.intro g33 (And.intro s4 (And.intro s6 s9)))))))))))
        repeat (first|(with_reducible first|refine pv_seq fun K hK=>?_|((first|refine hK _ _ ?_|(clear hK;refine hK _ _ ?_)|(clear hK;clear hK;refine hK _ _ ?_));clear hK;try clear K))| refine W0 ?_|exact Z|with_reducible intro b)
        refine pv_cdD (fun ht=>?_) (fun ht=>?_)
        ·have hil:i<z.length:=by omega
         have q2:=zget hil
         have q3:=gU_at (l:=xs) (i:=i) (by omega)
         have hxi:=hX i (by omega)
         have hmv:monV c.val xs z (i + 1)=monV c.val xs z i * powD (gU xs i).val (z.getD i 0).toNat:=rfl
         have hTs:=sum_take_succ q2
         have hT8:=hT (i + 1)
         have hz0:=hnn _ (List.mem_of_getElem? q2)
         rw [hTs,← hu] at hT8
         have mk4:∀ (e:DEnv) (S:Store) (u2 b9:Nat) (v:Nu),(u2:Int)=(z.take i).sum + z.getD i 0→e 1=.g (eS eU xs)→e 4=.ptr (.l 4) b4 0 0 3→e 6=.ptr (.l 6) b6 0 0 3→e 9=.ptr (.l 9) b9 0 0 3→e 22=.g (eS eM q)→e 23=i64 q.length→e 24=i64 k→e 31=.g (eS eZ z)→e 32=i64 z.length→e 33=i64 ((i + 1:Nat):Int)→S (.l 4)=some ⟨b4,3,0,[[bl false,i64 0,.nil]]⟩→S (.l 6)=some ⟨b6,3,0,[[bl t.neg,i64 t.exp,W64 t.w]]⟩→S (.l 9)=some ⟨b9,3,0,[[bl v.neg,i64 v.exp,W64 v.w]]⟩→Sy (135168 * (1 + u2)) (65536 * (1 + u2)) v→v.val=monV c.val xs z (i + 1)→I2 e S :=
          fun e S u2 b9 v a0 a1 a2 a3 a4 a5 a6 a7 a8 a9 a10 a11 a12 a13 a14 a15=>mk3 _ _ ⟨i + 1,u2,b9,v,by omega,by rw [hTs];exact a0,a1,a2,a3,a4,a5,a6,a7,a8,a9,a10,a11,a12,a13,a14,a15⟩
         clear mk3 JE hTs
         rw [← hu] at mk4
         generalize monV c.val xs z (i + 1)=mv1 at *
         generalize monV c.val xs z i=mv at *
         generalize z.getD i 0=x at *
         obtain ⟨kk,rfl⟩:∃ kk:Nat,x=kk:=⟨x.toNat,by omega⟩
         rw [Int.toNat_natCast] at hmv
         generalize hgx:gU xs i=xi at *
         have ft:=And.intro g1 (And.intro g4 (And.intro g6 (And.intro g9 (And.intro g22 (And.intro g23 (And.intro g24 (And.intro g31 (And.intro g32 (And.intro g33 (And.intro s4 (And.intro s6 (And.intro s9 q2))))))))))))
         repeat (first|(with_reducible first|refine pv_seq fun K hK=>?_|((first|refine hK _ _ ?_|(clear hK;refine hK _ _ ?_)|(clear hK;clear hK;refine hK _ _ ?_));clear hK;try clear K))| refine W0 ?_|exact Z|with_reducible intro b)
         obtain ⟨I3,mk5,el3⟩:=hide fun e S=>∃ (j b9:Nat) (v:Nu),j≤kk∧e 1=.g (eS eU xs)∧e 4=.ptr (.l 4) b4 0 0 3∧e 6=.ptr (.l 6) b6 0 0 3∧e 9=.ptr (.l 9) b9 0 0 3∧e 10=i64 i∧e 22=.g (eS eM q)∧e 23=i64 q.length∧e 24=i64 k∧e 31=.g (eS eZ z)∧e 32=i64 z.length∧e 33=i64 i∧e 38=i64 kk∧e 39=i64 j∧S (.l 4)=some ⟨b4,3,0,[[bl false,i64 0,.nil]]⟩∧S (.l 6)=some ⟨b6,3,0,[[bl t.neg,i64 t.exp,W64 t.w]]⟩∧S (.l 9)=some ⟨b9,3,0,[[bl v.neg,i64 v.exp,W64 v.w]]⟩∧Sy (135168 * (1 + u + j)) (65536 * (1 + u + j)) v∧v.val=mv * powD xi.val j
         refine pv_loop I3 (fun e _=>kk - (intD (e 39)).toNat) ?_ ?_
         ·exact mk5 _ _ ⟨0,b9,v,Nat.zero_le _,Zr,Zr,Zr,Zr,Zr,Zr,Zr,Zr,Zr,Zr,Zr,Zr,Zr,s4,s6,s9,hs,by rw [hv];exact (Dyadic.mul_one _).symm⟩
         ·clear hs hv s4 s6 s9
          intro e S hI
          obtain ⟨j,b9,v,hj,g1,g4,g6,g9,g10,g22,g23,g24,g31,g32,g33,g38,g39,s4,s6,s9,hs,hv⟩:=el3 e S hI
          clear el3 hI
          have ft:=And.intro g1 (And.intro g4 (And.intro g6 (And.intro g9 (And.intro g10 (And.intro g22 (And.intro g23 (And.intro g24 (And.intro g31 (And.intro g32 (And.intro g33 (And.intro g38 (And.intro g39 (And.intro s4 (And.intro s6 s9))))))))))))))
          repeat (first|(with_reducible first|refine pv_seq fun K hK=>?_|((first|refine hK _ _ ?_|(clear hK;refine hK _ _ ?_)|(clear hK;clear hK;refine hK _ _ ?_));clear hK;try clear K))| refine W0 ?_|exact Z|with_reducible intro b)
          refine pv_cdD (fun ht=>?_) (fun ht=>?_)
          ·have pM:=p_eMulS hs hxi (by omega) (by decide)
           rw [hv,Dyadic.mul_assoc,show powD xi.val j * xi.val=powD xi.val (j + 1) from rfl] at pM
           have mk6:=fun e S=>mk5 e S
           clear hmv
           obtain ⟨n1,e1,w1⟩:=v
           obtain ⟨n2,e2,w2⟩:=xi
           unfold NU at pM
           simp only at pM
           have ft:=And.intro g1 (And.intro g4 (And.intro g6 (And.intro g9 (And.intro g10 (And.intro g22 (And.intro g23 (And.intro g24 (And.intro g31 (And.intro g32 (And.intro g33 (And.intro g38 (And.intro g39 (And.intro s4 (And.intro s6 (And.intro s9 q3)))))))))))))))
           repeat (first|(with_reducible first|refine pv_seq fun K hK=>?_|((first|refine hK _ _ ?_|(clear hK;refine hK _ _ ?_)|(clear hK;clear hK;refine hK _ _ ?_));clear hK;try clear K))| refine W0 ?_|exact Z|with_reducible intro b)
           refine call_pc pM ?_
           rintro d ⟨y,rfl,hy,hyv⟩
           obtain ⟨n3,e3,w3⟩:=y
           repeat (first|(with_reducible first|refine pv_seq fun K hK=>?_|((first|refine hK _ _ ?_|(clear hK;refine hK _ _ ?_)|(clear hK;clear hK;refine hK _ _ ?_));clear hK;try clear K))| refine W0 ?_|exact Z|with_reducible intro b)
           exact ⟨mk5 _ _ ⟨j + 1,b9,⟨n3,e3,w3⟩,by omega,Zr,Zr,Zr,Zr,Zr,Zr,Zr,Zr,Zr,Zr,Zr,Zr,Zr,by simp only [updS_apply];exact s4,by simp only [updS_apply];exact s6,by simp only [updS_apply];rfl,hy.lift (by omega) (by omega),hyv⟩,by simp only [intD];omega⟩
          ·obtain rfl:j=kk:=by omega
           have ft:=And.intro g1 (And.intro g4 (And.intro g6 (And.intro g9 (And.intro g10 (And.intro g22 (And.intro g23 (And.intro g24 (And.intro g31 (And.intro g32 (And.intro g33 (And.intro g38 g39)))))))))))
           repeat (first|(with_reducible first|refine pv_seq fun K hK=>?_|((first|refine hK _ _ ?_|(clear hK;refine hK _ _ ?_)|(clear hK;clear hK;refine hK _ _ ?_));clear hK;try clear K))| refine W0 ?_|exact Z|with_reducible intro b)
           exact ⟨mk4 _ _ (u + j) b9 v (by omega) Zr Zr Zr Zr Zr Zr Zr Zr Zr Zr s4 s6 s9 (hs.lift (by omega) (by omega)) (by rw [hv,hmv]),by rw [hm2];simp only [intD];omega⟩
        ·obtain rfl:i=z.length:=by omega
         rw [List.take_length] at hu
         have ft:=And.intro g1 (And.intro g4 (And.intro g6 (And.intro g9 (And.intro g22 (And.intro g23 (And.intro g24 (And.intro g31 (And.intro s4 (And.intro s6 s9)))))))))
         repeat (first|(with_reducible first|refine pv_seq fun K hK=>?_|((first|refine hK _ _ ?_|(clear hK;refine hK _ _ ?_)|(clear hK;clear hK;refine hK _ _ ?_));clear hK;try clear K))| refine W0 ?_|exact Z|with_reducible intro b)
         refine JE _ _ b9 v Zr Zr Zr Zr Zr Zr Zr s4 s6 s9 (hs.lift (by omega) (by omega)) (by rw [hv,hzl])
      ·obtain rfl:k=q.length:=by omega
       have ft:=And.intro g1 (And.intro g4 (And.intro g6 (And.intro g22 (And.intro g23 g24))))
       repeat (first|(with_reducible first|refine pv_seq fun K hK=>?_|((first|refine hK _ _ ?_|(clear hK;refine hK _ _ ?_)|(clear hK;clear hK;refine hK _ _ ?_));clear hK;try clear K))| refine W0 ?_|exact Z|with_reducible intro b)
       exact JF _ _ _ _ t g4 g6 s4 s6 hst hvt
end Go.V
namespace Go.V
open Go Go.RowKit Go.Proofs
end Go.V
namespace Go.V
open Go Go.RowKit Go.Proofs
theorem outR_err {p:Nat} {l h:Dyadic} (h1:(outR p l h).2≠0):(outR p l h).1=iv0:=by
 revert h1
 unfold outR
 split
 ·split
  ·intro h;exact absurd rfl h
  ·intro _;rfl
 ·intro _;rfl
theorem outR_wi {p:Nat} {l h:Dyadic}:Wi 65536 (outR p l h).1:=by
 unfold outR numR
 by_cases h1:(nuOf (rd p false l)).Ok<;>by_cases h2:(nuOf (rd p true h)).Ok
 ·have o1:OkD (rd p false l):=h1
  have o2:OkD (rd p true h):=h2
  rw [if_pos h1,if_pos h2]
  exact wi_D o1 o2
 ·rw [if_pos h1,if_neg h2];exact wi0
 ·rw [if_neg h1];exact wi0
 ·rw [if_neg h1];exact wi0
theorem pwI_err {a:Iv} {k p:Int} (h1:(pwI a k p).2≠0):(pwI a k p).1=iv0:=by
 revert h1
 unfold pwI
 split
 ·exact outR_err
 ·intro _;rfl
theorem pwI_wi {a:Iv} {k p:Int}:Wi 65536 (pwI a k p).1:=by
 unfold pwI
 split
 ·exact outR_wi
 ·exact wi0
def ovN (p:Int) (b:List Iv) (z:List Int) (v0:Iv):Nat→Iv × Int
 | 0=>(v0,0)
 | i + 1=>if (ovN p b z v0 i).2=0 then (if z.getD i 0=0 then ovN p b z v0 i else if (pwI (gI b i) (z.getD i 0) p).2=0 then mulI p (ovN p b z v0 i).1 (pwI (gI b i) (z.getD i 0) p).1 else (iv0,(pwI (gI b i) (z.getD i 0) p).2)) else ovN p b z v0 i
def ovM (p:Int) (b:List Iv) (m:Mo):Iv × Int:=ovN p b m.e ⟨m.c,m.c⟩ b.length
def rgN (p:Int) (b:List Iv) (q:List Mo):Nat→Iv × Int
 | 0=>(iv0,0)
 | k + 1=>if (rgN p b q k).2=0 then (if (ovM p b (gM q k)).2=0 then addI p (rgN p b q k).1 (ovM p b (gM q k)).1 else (iv0,(ovM p b (gM q k)).2)) else rgN p b q k
def allR (b:List Iv):Bool:=decide (∀ x ∈ b,rightI x=true)
def rgR (q:List Mo) (b:List Iv) (p:Int):Iv × Int:=if polyB q b.length && okP p && allR b then rgN p b q q.length else (iv0,1)
theorem ovN_wi {p:Int} {b:List Iv} {z:List Int} {v0:Iv} (h:Wi 65536 v0):∀ i,Wi 65536 (ovN p b z v0 i).1
 | 0=>h
 | i + 1=>by
   unfold ovN
   split
   ·split
    ·exact ovN_wi h i
    ·split
     ·exact opI_wi
     ·exact wi0
   ·exact ovN_wi h i
theorem ovN_err {p:Int} {b:List Iv} {z:List Int} {v0:Iv}:∀ i,(ovN p b z v0 i).2≠0→(ovN p b z v0 i).1=iv0
 | 0=>fun h=>absurd rfl h
 | i + 1=>by
   unfold ovN
   split
   ·rename_i h0
    split
    ·intro h;exact absurd h0 h
    ·split
     ·exact fun h=>opI_err h
     ·exact fun _=>rfl
   ·exact ovN_err i
theorem ovN_stuck {p:Int} {b:List Iv} {z:List Int} {v0:Iv} {i n:Nat} (h:(ovN p b z v0 i).2≠0) (hn:i≤n):ovN p b z v0 n=ovN p b z v0 i:=by
 induction n with
 | zero=>obtain rfl:i=0:=by omega
         rfl
 | succ n ih =>
   by_cases hi:i=n + 1
   ·rw [hi]
   ·have e:=ih (by omega)
    show (if (ovN p b z v0 n).2=0 then _ else ovN p b z v0 n)=_
    rw [e,if_neg h]
theorem ovN_succ {p:Int} {b:List Iv} {z:List Int} {v0:Iv} {i:Nat} (h:(ovN p b z v0 i).2=0):ovN p b z v0 (i + 1)=if z.getD i 0=0 then ovN p b z v0 i else if (pwI (gI b i) (z.getD i 0) p).2=0 then mulI p (ovN p b z v0 i).1 (pwI (gI b i) (z.getD i 0) p).1 else (iv0,(pwI (gI b i) (z.getD i 0) p).2):=by
 conv=>lhs;unfold ovN
 rw [if_pos h]
theorem ovM_wi {p:Int} {b:List Iv} {m:Mo} (h:Wl 65536 m.c):Wi 65536 (ovM p b m).1:=ovN_wi ⟨h,h⟩ _
theorem ovM_err {p:Int} {b:List Iv} {m:Mo}:(ovM p b m).2≠0→(ovM p b m).1=iv0:=ovN_err _
theorem rgN_wi {p:Int} {b:List Iv} {q:List Mo}:∀ i,Wi 65536 (rgN p b q i).1
 | 0=>wi0
 | i + 1=>by
   unfold rgN
   split
   ·split
    ·exact opI_wi
    ·exact wi0
   ·exact rgN_wi i
theorem rgN_err {p:Int} {b:List Iv} {q:List Mo}:∀ i,(rgN p b q i).2≠0→(rgN p b q i).1=iv0
 | 0=>fun h=>absurd rfl h
 | i + 1=>by
   unfold rgN
   split
   ·split
    ·exact fun h=>opI_err h
    ·exact fun _=>rfl
   ·exact rgN_err i
theorem rgN_stuck {p:Int} {b:List Iv} {q:List Mo} {i n:Nat} (h:(rgN p b q i).2≠0) (hn:i≤n):rgN p b q n=rgN p b q i:=by
 induction n with
 | zero=>obtain rfl:i=0:=by omega
         rfl
 | succ n ih =>
   by_cases hi:i=n + 1
   ·rw [hi]
   ·have e:=ih (by omega)
    show (if (rgN p b q n).2=0 then _ else rgN p b q n)=_
    rw [e,if_neg h]
theorem rgN_succ {p:Int} {b:List Iv} {q:List Mo} {k:Nat} (h:(rgN p b q k).2=0):rgN p b q (k + 1)=if (ovM p b (gM q k)).2=0 then addI p (rgN p b q k).1 (ovM p b (gM q k)).1 else (iv0,(ovM p b (gM q k)).2):=by
 conv=>lhs;unfold rgN
 rw [if_pos h]
structure WfB (l:List Iv):Prop where
 n:l.length≤100000
 w:∀ x ∈ l,Wi 65536 x
theorem allR_no {l:List Iv} {i:Nat} (hi:i<l.length) (h:rightI (gI l i)=false):allR l=false:=decide_eq_false fun h2=>by rw [h2 _ (gI_mem hi)] at h;cases h
theorem allR_yes {l:List Iv} (h:∀ i,i<l.length→rightI (gI l i)=true):allR l=true:=decide_eq_true fun m hm=>by
 obtain ⟨i,hi⟩:=List.getElem?_of_mem hm
 have hil:i<l.length:=(List.getElem?_eq_some_iff.1 hi).1
 have:=h i hil
 rw [gI_at hil] at hi
 injection hi with hi
 rwa [hi] at this
theorem p_Range1 {x:Iv} (hx:Wi 65536 x):PC Tryz.prog 84 [.agg [bl x.lo.neg,i64 x.lo.exp,W64 x.lo.w,bl x.hi.neg,i64 x.hi.exp,W64 x.hi.w]] fun d=>d=bl (!rightI x):=by
 have pR:=p_iRight hx
 generalize rightI x=r at *
 obtain ⟨⟨n1,e1,w1⟩,⟨n2,e2,w2⟩⟩:=x
 unfold IV at pR
 simp only at pR
 cases r
 ·refine PB (rs:=[.tmp 2]) Tryz.func84 ?_
  exact Wk
 ·refine PB (rs:=[.tmp 2]) Tryz.func84 ?_
  exact Wk
set_option maxHeartbeats 1000000 in
theorem p_IndexB {q:List Iv} (hq:WfB q):PC Tryz.prog 121 [II q,.fn 84 [] []] fun d=>∃ t:Int,d=i64 t∧(t = -1 ↔ allR q=true) ∧ -1≤t:=by
 have hqn:=hq.n
 unfold II
 refine PB (rs:=[.tmp 4]) Tryz.func121 ?_
 repeat (first|(with_reducible first|refine pv_seq fun K hK=>?_|((first|refine hK _ _ ?_|(clear hK;refine hK _ _ ?_)|(clear hK;clear hK;refine hK _ _ ?_));clear hK;try clear K))| refine W0 ?_|exact Z|with_reducible intro b)
 obtain ⟨I,mk,el⟩:=hide fun e (T:Store)=>∃ i:Nat,i≤q.length∧e 0=.g (eS eI q)∧e 1=.fn 84 [] []∧e 6=.g (eS eI q)∧e 7=i64 q.length∧e 8=i64 i∧∀ j,j<i→rightI (gI q j)=true
 refine pv_loop I (fun e _=>q.length - (intD (e 8)).toNat) ?_ ?_
 ·exact mk _ _ ⟨0,Nat.zero_le _,Zr,Zr,Zr,Zr,Zr,fun j hj=>by omega⟩
 ·intro e T hI
  obtain ⟨i,hi,g0,g1,g6,g7,g8,hz⟩:=el e T hI
  clear el hI
  have ft:=And.intro g0 (And.intro g1 (And.intro g6 (And.intro g7 g8)))
  repeat (first|(with_reducible first|refine pv_seq fun K hK=>?_|((first|refine hK _ _ ?_|(clear hK;refine hK _ _ ?_)|(clear hK;clear hK;refine hK _ _ ?_));clear hK;try clear K))| refine W0 ?_|exact Z|with_reducible intro b)
  refine pv_cdD (fun ht=>?_) (fun ht=>?_)
  ·have hil:i<q.length:=by omega
   have q1:=gI_at hil
   have wm:=hq.w _ (gI_mem hil)
   have hb:=fun h=>allR_no hil h
   have hzs:rightI (gI q i)=true→∀ j,j<i + 1→rightI (gI q j)=true:=fun h j hj=>by
    rcases Nat.lt_or_ge j i with h3|h3
    ·exact hz j h3
    ·obtain rfl:j=i:=by omega
     exact h
   have pM:=p_Range1 wm
   clear hz
   generalize gI q i=m at *
   generalize rightI m=r at *
   obtain ⟨⟨n1,e1,w1⟩,⟨n2,e2,w2⟩⟩:=m
   simp only at pM
   cases r
   ·have ft:=And.intro g0 (And.intro g1 (And.intro g6 (And.intro g7 (And.intro g8 q1))))
    repeat (first|(with_reducible first|refine pv_seq fun K hK=>?_|((first|refine hK _ _ ?_|(clear hK;refine hK _ _ ?_)|(clear hK;clear hK;refine hK _ _ ?_));clear hK;try clear K))| refine W ?_|exact Z|with_reducible intro b)
    exact ⟨i,rfl,⟨fun h=>by omega,fun h=>by rw [hb rfl] at h;cases h⟩,by omega⟩
   ·have ft:=And.intro g0 (And.intro g1 (And.intro g6 (And.intro g7 (And.intro q1 g8))))
    repeat (first|(with_reducible first|refine pv_seq fun K hK=>?_|((first|refine hK _ _ ?_|(clear hK;refine hK _ _ ?_)|(clear hK;clear hK;refine hK _ _ ?_));clear hK;try clear K))| refine W ?_|exact Z|with_reducible intro b)
    exact ⟨mk _ _ ⟨i + 1,by omega,Zr,Zr,Zr,Zr,Zr,hzs rfl⟩,by simp only [intD];omega⟩
  ·obtain rfl:i=q.length:=by omega
   have hall:=allR_yes hz
   repeat (first|(with_reducible first|refine pv_seq fun K hK=>?_|((first|refine hK _ _ ?_|(clear hK;refine hK _ _ ?_)|(clear hK;clear hK;refine hK _ _ ?_));clear hK;try clear K))| refine W0 ?_|exact Z|with_reducible intro b)
   exact ⟨-1,rfl,⟨fun _=>hall,fun _=>rfl⟩,by omega⟩
theorem p_ContB {q:List Iv} (hq:WfB q):PC Tryz.prog 83 [II q,.fn 84 [] []] fun d=>d=bl (!allR q):=by
 have pI:=p_IndexB hq
 unfold II at *
 refine PB (rs:=[.tmp 4]) Tryz.func83 ?_
 repeat (first|(with_reducible first|refine pv_seq fun K hK=>?_|((first|refine hK _ _ ?_|(clear hK;refine hK _ _ ?_)|(clear hK;clear hK;refine hK _ _ ?_));clear hK;try clear K))| refine W0 ?_|exact Z|with_reducible intro b)
 refine call_pc pI ?_
 rintro d ⟨t,rfl,ht,h0⟩
 have hd:(0≤t)=((!allR q)=true):=by
  refine propext ⟨fun h=>?_,fun h=>?_⟩
  ·cases ha:allR q
   ·rfl
   ·have:=ht.2 ha;omega
  ·rcases Int.lt_or_le t 0 with h2|h2
   ·rw [ht.1 (by omega)] at h;cases h
   ·exact h2
 generalize (!allR q)=r at *
 have ft:=hd
 repeat (first|(with_reducible first|refine pv_seq fun K hK=>?_|((first|refine hK _ _ ?_|(clear hK;refine hK _ _ ?_)|(clear hK;clear hK;refine hK _ _ ?_));clear hK;try clear K))| refine W0 ?_|exact Z|with_reducible intro b)
 cases r<;>rfl
set_option maxHeartbeats 4000000 in
theorem p_pOver {m:Mo} {bx:List Iv} {p:Int} (hc:Wl 65536 m.c) (hb:WfB bx) (hl:m.e.length=bx.length):PC Tryz.prog 86 [MO m,II bx,i64 p] fun d=>d=IE (ovM p bx m):=by
 have hbn:=hb.n
 have pO:=p_OfI (x:=m.c) (by have:=hc.len;omega)
 unfold ovM
 have hw:=ovN_wi (p:=p) (b:=bx) (z:=m.e) (v0:=⟨m.c,m.c⟩) ⟨hc,hc⟩
 have he:=ovN_err (p:=p) (b:=bx) (z:=m.e) (v0:=⟨m.c,m.c⟩)
 have hst:=fun i (h:(ovN p bx m.e ⟨m.c,m.c⟩ i).2≠0) (hi:i≤bx.length)=>ovN_stuck h hi
 have hsu:=fun i=>ovN_succ (p:=p) (b:=bx) (z:=m.e) (v0:=⟨m.c,m.c⟩) (i:=i)
 have h0:ovN p bx m.e ⟨m.c,m.c⟩ 0=(⟨m.c,m.c⟩,0):=rfl
 obtain ⟨⟨n1,e1,w1⟩,z⟩:=m
 simp only at *
 generalize hf:ovN p bx z ⟨⟨n1,e1,w1⟩,⟨n1,e1,w1⟩⟩=f at *
 clear hf
 unfold II
 unfold NU IV at pO
 simp only at pO
 refine PB (rs:=[.cell 6 51,.tmp 7]) Tryz.func86 ?_
 repeat (first|(with_reducible first|refine pv_seq fun K hK=>?_|((first|refine hK _ _ ?_|(clear hK;refine hK _ _ ?_)|(clear hK;clear hK;refine hK _ _ ?_));clear hK;try clear K))| refine W ?_|exact Z|with_reducible intro b)
 obtain ⟨I,mk,el⟩:=hide fun e S=>∃ (i b6 b8:Nat),i≤bx.length∧e 1=.g (eS eI bx)∧e 2=i64 p∧e 6=.ptr (.l 6) b6 0 0 6∧e 8=.ptr (.l 8) b8 0 0 6∧e 17=.g (eS eZ z)∧e 18=i64 z.length∧e 19=i64 i∧(f i).2=0∧S (.l 6)=some ⟨b6,6,0,[z6]⟩∧S (.l 8)=some ⟨b8,6,0,[cI (f i).1]⟩
 refine pv_loop I (fun e _=>bx.length - (intD (e 19)).toNat) ?_ ?_
 ·exact mk _ _ ⟨0,_,_,Nat.zero_le _,Zr,Zr,rfl,rfl,Zr,Zr,Zr,by rw [h0],by simp only [updS_apply];rfl,by rw [h0];simp only [updS_apply];rfl⟩
 ·intro e S hI
  obtain ⟨i,b6,b8,hi,g1,g2,g6,g8,g17,g18,g19,h2,s6,s8⟩:=el e S hI
  clear el hI h0
  have hm0:(intD (e 19)).toNat=i:=by rw [g19];exact Int.toNat_natCast i
  have ft:=And.intro g1 (And.intro g2 (And.intro g6 (And.intro g8 (And.intro g17 (And.intro g18 g19)))))
  repeat (first|(with_reducible first|refine pv_seq fun K hK=>?_|((first|refine hK _ _ ?_|(clear hK;refine hK _ _ ?_)|(clear hK;clear hK;refine hK _ _ ?_));clear hK;try clear K))| refine W0 ?_|exact Z|with_reducible intro b)
  refine pv_cdD (fun ht=>?_) (fun ht=>?_)
  ·have hil:i<bx.length:=by omega
   have q1:=zget (l:=z) (i:=i) (by omega)
   have q2:=gI_at hil
   have hs:=hsu i h2
   have wb:=hb.w _ (gI_mem hil)
   have pW:=p_iPow (k:=z.getD i 0) (p:=p) wb
   have hpe:=pwI_err (a:=gI bx i) (k:=z.getD i 0) (p:=p)
   have pM:=p_iMul (p:=p) (hw i) (pwI_wi (a:=gI bx i) (k:=z.getD i 0) (p:=p))
   change PC _ _ _ fun d=>d=IE (mulI p (f i).1 (pwI (gI bx i) (z.getD i 0) p).1) at pM
   have hstk:=hst (i + 1)
   have hi1:=he (i + 1)
   have mk2:∀ (e:DEnv) (S:Store),e 1=.g (eS eI bx)→e 2=i64 p→e 6=.ptr (.l 6) b6 0 0 6→e 8=.ptr (.l 8) b8 0 0 6→e 17=.g (eS eZ z)→e 18=i64 z.length→e 19=i64 ((i + 1:Nat):Int)→(f (i + 1)).2=0→S (.l 6)=some ⟨b6,6,0,[z6]⟩→S (.l 8)=some ⟨b8,6,0,[cI (f (i + 1)).1]⟩→I e S :=
    fun e S a1 a2 a3 a4 a5 a6 a7 a8 a9 a10=>mk _ _ ⟨i + 1,b6,b8,by omega,a1,a2,a3,a4,a5,a6,a7,a8,a9,a10⟩
   have hr:(f (i + 1)).2≠0→f bx.length=f (i + 1):=fun h=>hst (i + 1) h (by omega)
   clear mk hst he hsu hw hstk wb
   generalize f bx.length=r at *
   generalize f (i + 1)=t1 at *
   generalize f i=t0 at *
   generalize z.getD i 0=x at *
   generalize pwI (gI bx i) x p=y at *
   generalize gI bx i=v at *
   obtain ⟨t0,et0⟩:=t0
   simp only at h2
   subst h2
   obtain ⟨⟨n3,e3,w3⟩,⟨n4,e4,w4⟩⟩:=t0
   obtain ⟨⟨n5,e5,w5⟩,⟨n6,e6,w6⟩⟩:=v
   unfold cI at *
   simp only at s8
   by_cases hx:x=0
   ·have kx:(x=0)=True:=eq_true hx
    rw [if_pos hx] at hs
    subst hs
    have ft:=And.intro g1 (And.intro g2 (And.intro g6 (And.intro g8 (And.intro g17 (And.intro g18 (And.intro g19 (And.intro q1 kx)))))))
    repeat (first|(with_reducible first|refine pv_seq fun K hK=>?_|((first|refine hK _ _ ?_|(clear hK;refine hK _ _ ?_)|(clear hK;clear hK;refine hK _ _ ?_));clear hK;try clear K))| refine W0 ?_|exact Z|with_reducible intro b)
    exact ⟨mk2 _ _ Zr Zr Zr Zr Zr Zr Zr rfl s6 s8,by simp only [intD];omega⟩
   ·have kx:(x=0)=False:=eq_false hx
    rw [if_neg hx] at hs
    obtain ⟨⟨⟨n7,e7,w7⟩,⟨n8,e8,w8⟩⟩,ey⟩:=y
    simp only at hs pM
    unfold IE IV at pW
    simp only at pW
    by_cases hy:ey=0
    ·subst hy
     rw [if_pos rfl] at hs
     rw [← hs] at pM
     obtain ⟨⟨⟨n9,e9,w9⟩,⟨na,ea,wa⟩⟩,et⟩:=t1
     unfold IE IV at pM
     simp only at pM mk2 hr hi1
     clear hs
     by_cases h1:et=0
     ·subst h1
      have ft:=And.intro g1 (And.intro g2 (And.intro g6 (And.intro g8 (And.intro g17 (And.intro g18 (And.intro g19 (And.intro q1 (And.intro q2 (And.intro kx s8)))))))))
      repeat (first|(with_reducible first|refine pv_seq fun K hK=>?_|((first|refine hK _ _ ?_|(clear hK;refine hK _ _ ?_)|(clear hK;clear hK;refine hK _ _ ?_));clear hK;try clear K))| refine W ?_|exact Z|with_reducible intro b)
      exact ⟨mk2 _ _ Zr Zr Zr Zr Zr Zr Zr rfl (by simp only [updS_apply];exact s6) (by simp only [updS_apply];rfl),by simp only [intD];omega⟩
     ·have k1:=eq_false h1
      have hr1:=hr h1
      have hr2:=hi1 h1
      subst hr1
      unfold iv0 nu0 at hr2
      injection hr2 with z1 z2
      injection z1 with z3 z4 z5
      injection z2 with z6 z7 z8
      subst z3;subst z4;subst z5;subst z6;subst z7;subst z8
      unfold V.z6 at s6
      have ft:=And.intro g1 (And.intro g2 (And.intro g6 (And.intro g8 (And.intro g17 (And.intro g18 (And.intro g19 (And.intro q1 (And.intro q2 (And.intro kx (And.intro s8 (And.intro s6 k1)))))))))))
      exact Wk
    ·rw [if_neg hy] at hs
     subst hs
     have k1:=eq_false hy
     have hr1:=hr hy
     subst hr1
     unfold z6 at s6
     have ft:=And.intro g1 (And.intro g2 (And.intro g6 (And.intro g8 (And.intro g17 (And.intro g18 (And.intro g19 (And.intro q1 (And.intro q2 (And.intro kx (And.intro s6 k1))))))))))
     exact Wk
  ·obtain rfl:i=bx.length:=by omega
   generalize f bx.length=r at *
   obtain ⟨⟨⟨n3,e3,w3⟩,⟨n4,e4,w4⟩⟩,er⟩:=r
   simp only at h2
   subst h2
   unfold cI at s8
   unfold z6 at s6
   have ft:=And.intro g6 (And.intro g8 (And.intro s6 s8))
   exact Wk
end Go.V
namespace Go.V
open Go Go.RowKit Go.Proofs
set_option maxHeartbeats 4000000 in
theorem p_pRange {q:List Mo} {bx:List Iv} {p:Int} (hq:WfM q) (hb:WfB bx):PC Tryz.prog 41 [MM q,II bx,i64 p] fun d=>d=IE (rgR q bx p):=by
 have p1:=p_pRight (n:=(bx.length:Int)) hq
 have p2:=p_ContB hb
 have hqn:=hq.n
 have hbn:=hb.n
 unfold rgR
 cases h1:polyB q bx.length with
 | false =>
   rw [h1] at p1
   unfold MM II at *
   refine PB (rs:=[.cell 6 51,.tmp 7]) Tryz.func41 ?_
   exact Wk
 | true =>
   rw [h1] at p1
   by_cases h8:p<8
   ·have k1:(p<8)=True:=eq_true h8
    have hp:okP p=false:=by unfold okP;rw [decide_eq_false (show ¬ 8≤p by omega)];rfl
    rw [hp]
    unfold MM II at *
    refine PB (rs:=[.cell 6 51,.tmp 7]) Tryz.func41 ?_
    have ft:=k1
    exact Wk
   ·have k1:(p<8)=False:=eq_false h8
    by_cases h256:256<p
    ·have k2:(256<p)=True:=eq_true h256
     have hp:okP p=false:=by unfold okP;rw [decide_eq_false (show ¬ p≤256 by omega),Bool.and_false]
     rw [hp]
     unfold MM II at *
     refine PB (rs:=[.cell 6 51,.tmp 7]) Tryz.func41 ?_
     have ft:=And.intro k1 k2
     exact Wk
    ·have k2:(256<p)=False:=eq_false h256
     have hp:okP p=true:=by unfold okP;rw [decide_eq_true (show 8≤p by omega),decide_eq_true (show p≤256 by omega)];rfl
     rw [hp]
     cases h2:allR bx with
     | false =>
       rw [h2] at p2
       unfold MM II at *
       refine PB (rs:=[.cell 6 51,.tmp 7]) Tryz.func41 ?_
       have ft:=And.intro k1 k2
       exact Wk
     | true =>
       rw [h2] at p2
       have pok:=polyB_ok h1
       have hn:=polyB_n h1
       have hlen:=polyB_len h1
       simp only [Bool.and_self,if_true]
       have hw:=rgN_wi (p:=p) (b:=bx) (q:=q)
       have he:=rgN_err (p:=p) (b:=bx) (q:=q)
       have hst:=fun i (h:(rgN p bx q i).2≠0) (hi:i≤q.length)=>rgN_stuck h hi
       have hsu:=fun i=>rgN_succ (p:=p) (b:=bx) (q:=q) (k:=i)
       have h0:rgN p bx q 0=(iv0,0):=rfl
       have hov:=fun i (hi:i<q.length)=>p_pOver (p:=p) (hq.w _ (gM_mem hi)).c hb (by have:=(pok _ (gM_mem hi)).len;omega)
       have how:=fun i (hi:i<q.length)=>ovM_wi (p:=p) (b:=bx) (hq.w _ (gM_mem hi)).c
       generalize rgN p bx q=f at *
       unfold MM II at *
       refine PB (rs:=[.cell 6 51,.tmp 7]) Tryz.func41 ?_
       have ft:=And.intro k1 k2
       repeat (first|(with_reducible first|refine pv_seq fun K hK=>?_|((first|refine hK _ _ ?_|(clear hK;refine hK _ _ ?_)|(clear hK;clear hK;refine hK _ _ ?_));clear hK;try clear K))| refine W0 ?_|exact Z|with_reducible intro b)
       refine (call_is p1 ?_)
       repeat (first|(with_reducible first|refine pv_seq fun K hK=>?_|((first|refine hK _ _ ?_|(clear hK;refine hK _ _ ?_)|(clear hK;clear hK;refine hK _ _ ?_));clear hK;try clear K))| refine W0 ?_|exact Z|with_reducible intro b)
       refine (call_is p2 ?_)
       repeat (first|with_reducible refine pv_stop 4 ?_|(with_reducible first|refine pv_seq fun K hK=>?_|((first|refine hK _ _ ?_|(clear hK;refine hK _ _ ?_)|(clear hK;clear hK;refine hK _ _ ?_));clear hK;try clear K))| refine W ?_|exact Z|with_reducible intro b)
       refine ⟨fun K4 q4 hC=>?_⟩
       repeat (first|(with_reducible first|refine pv_seq fun K hK=>?_|((first|refine hK _ _ ?_|(clear hK;refine hK _ _ ?_)|(clear hK;clear hK;refine hK _ _ ?_));clear hK;try clear K))| refine W0 ?_|exact Z|with_reducible intro b)
       refine hC _ _ (Recast.z6 (k:=.l 8) (by simp only [updS_apply];rfl) ?_)
       refine q4 _ _ ?_
       clear q4 hC
       repeat (first|(with_reducible first|refine pv_seq fun K hK=>?_|((first|refine hK _ _ ?_|(clear hK;refine hK _ _ ?_)|(clear hK;clear hK;refine hK _ _ ?_));clear hK;try clear K))| refine W0 ?_|exact Z|with_reducible intro b)
       obtain ⟨I,mk,el⟩:=hide fun e S=>∃ (i b6 b8:Nat),i≤q.length∧e 1=.g (eS eI bx)∧e 2=i64 p∧e 6=.ptr (.l 6) b6 0 0 6∧e 8=.ptr (.l 8) b8 0 0 6∧e 31=.g (eS eM q)∧e 32=i64 q.length∧e 33=i64 i∧(f i).2=0∧S (.l 6)=some ⟨b6,6,0,[z6]⟩∧S (.l 8)=some ⟨b8,6,0,[cI (f i).1]⟩
       refine pv_loop I (fun e _=>q.length - (intD (e 33)).toNat) ?_ ?_
       ·exact mk _ _ ⟨0,_,_,Nat.zero_le _,Zr,Zr,rfl,rfl,Zr,Zr,Zr,by rw [h0],by simp only [updS_apply];rfl,by rw [h0];simp only [updS_apply];rfl⟩
       ·intro e S hI
        obtain ⟨i,b6,b8,hi,g1,g2,g6,g8,g31,g32,g33,h2,s6,s8⟩:=el e S hI
        clear el hI h0
        have hm0:(intD (e 33)).toNat=i:=by rw [g33];exact Int.toNat_natCast i
        have ft:=And.intro g1 (And.intro g2 (And.intro g6 (And.intro g8 (And.intro g31 (And.intro g32 g33)))))
        repeat (first|(with_reducible first|refine pv_seq fun K hK=>?_|((first|refine hK _ _ ?_|(clear hK;refine hK _ _ ?_)|(clear hK;clear hK;refine hK _ _ ?_));clear hK;try clear K))| refine W0 ?_|exact Z|with_reducible intro b)
        refine pv_cdD (fun ht=>?_) (fun ht=>?_)
        ·have hil:i<q.length:=by omega
         have q1:=gM_at hil
         have hs:=hsu i h2
         have pO:=hov i hil
         have hpe:=ovM_err (p:=p) (b:=bx) (m:=gM q i)
         have pA:=p_iAdd (p:=p) (hw i) (how i hil)
         change PC _ _ _ fun d=>d=IE (addI p (f i).1 (ovM p bx (gM q i)).1) at pA
         have hi1:=he (i + 1)
         have mk2:∀ (e:DEnv) (S:Store),e 1=.g (eS eI bx)→e 2=i64 p→e 6=.ptr (.l 6) b6 0 0 6→e 8=.ptr (.l 8) b8 0 0 6→e 31=.g (eS eM q)→e 32=i64 q.length→e 33=i64 ((i + 1:Nat):Int)→(f (i + 1)).2=0→S (.l 6)=some ⟨b6,6,0,[z6]⟩→S (.l 8)=some ⟨b8,6,0,[cI (f (i + 1)).1]⟩→I e S :=
          fun e S a1 a2 a3 a4 a5 a6 a7 a8 a9 a10=>mk _ _ ⟨i + 1,b6,b8,by omega,a1,a2,a3,a4,a5,a6,a7,a8,a9,a10⟩
         have hr:(f (i + 1)).2≠0→f q.length=f (i + 1):=fun h=>hst (i + 1) h (by omega)
         clear mk hst he hsu hw hov how
         generalize f q.length=r at *
         generalize f (i + 1)=t1 at *
         generalize f i=t0 at *
         generalize gM q i=m at *
         generalize ovM p bx m=y at *
         obtain ⟨⟨nm,em,wm⟩,zm⟩:=m
         obtain ⟨t0,et0⟩:=t0
         simp only at h2
         subst h2
         obtain ⟨⟨n3,e3,w3⟩,⟨n4,e4,w4⟩⟩:=t0
         unfold cI at *
         simp only at s8
         obtain ⟨⟨⟨n7,e7,w7⟩,⟨n8,e8,w8⟩⟩,ey⟩:=y
         simp only at hs pA
         unfold MO IE IV at pO
         simp only at pO
         by_cases hy:ey=0
         ·subst hy
          rw [if_pos rfl] at hs
          rw [← hs] at pA
          obtain ⟨⟨⟨n9,e9,w9⟩,⟨na,ea,wa⟩⟩,et⟩:=t1
          unfold IE IV at pA
          simp only at pA mk2 hr hi1
          clear hs
          by_cases h1:et=0
          ·subst h1
           have ft:=And.intro g1 (And.intro g2 (And.intro g6 (And.intro g8 (And.intro g31 (And.intro g32 (And.intro g33 (And.intro q1 s8)))))))
           repeat (first|(with_reducible first|refine pv_seq fun K hK=>?_|((first|refine hK _ _ ?_|(clear hK;refine hK _ _ ?_)|(clear hK;clear hK;refine hK _ _ ?_));clear hK;try clear K))| refine W ?_|exact Z|with_reducible intro b)
           exact ⟨mk2 _ _ Zr Zr Zr Zr Zr Zr Zr rfl (by simp only [updS_apply];exact s6) (by simp only [updS_apply];rfl),by simp only [intD];omega⟩
          ·have k1:=eq_false h1
           have hr1:=hr h1
           have hr2:=hi1 h1
           subst hr1
           unfold iv0 nu0 at hr2
           injection hr2 with z1 z2
           injection z1 with z3 z4 z5
           injection z2 with z6 z7 z8
           subst z3;subst z4;subst z5;subst z6;subst z7;subst z8
           unfold V.z6 at s6
           have ft:=And.intro g1 (And.intro g2 (And.intro g6 (And.intro g8 (And.intro g31 (And.intro g32 (And.intro g33 (And.intro q1 (And.intro s8 (And.intro s6 k1)))))))))
           exact Wk
         ·rw [if_neg hy] at hs
          subst hs
          have k1:=eq_false hy
          have hr1:=hr hy
          subst hr1
          unfold z6 at s6
          have ft:=And.intro g1 (And.intro g2 (And.intro g6 (And.intro g8 (And.intro g31 (And.intro g32 (And.intro g33 (And.intro q1 (And.intro s6 k1))))))))
          exact Wk
        ·obtain rfl:i=q.length:=by omega
         generalize f q.length=r at *
         obtain ⟨⟨⟨n3,e3,w3⟩,⟨n4,e4,w4⟩⟩,er⟩:=r
         simp only at h2
         subst h2
         unfold cI at s8
         unfold z6 at s6
         have ft:=And.intro g6 (And.intro g8 (And.intro s6 s8))
         exact Wk
end Go.V
namespace Go.V
open Go Go.RowKit Go.Proofs
end Go.V
namespace Go.V
open Go Go.RowKit Go.Proofs
def k1:Nu:=⟨false,0,[1]⟩
def k2:Nu:=⟨false,1,[1]⟩
def kIn:List Mo:=[⟨k1,[0]⟩,⟨k1,[2]⟩,⟨k1,[2]⟩]
def kP:List Mo:=[⟨k2,[2]⟩,⟨k1,[0]⟩]
theorem kn_mk:pmkR kIn 1=(kP,0):=by kernel_rfl
def kQ:List Mo:=[⟨⟨false,2,[1]⟩,[1]⟩]
def kS:List Mo:=[⟨k2,[2]⟩,⟨⟨false,2,[1]⟩,[1]⟩,⟨k1,[0]⟩]
def kT:List Mo:=[⟨⟨false,3,[1]⟩,[3]⟩,⟨⟨false,2,[1]⟩,[1]⟩]
def kV:Nu:=⟨false,0,[9]⟩
theorem kn_dif:difR kP 0 1=(kQ,0):=by kernel_rfl
theorem kn_add:addR kP kQ 1=(kS,0):=by kernel_rfl
theorem kn_mul:mulR kP kQ 1=(kT,0):=by kernel_rfl
theorem kn_at:atR kP [k2]=(kV,0):=by kernel_rfl
theorem kn_rg:rgR kP [⟨nu0,k2⟩] 16=(⟨k1,kV⟩,0):=by kernel_rfl
theorem kn_deg:degR kT=3:=by kernel_rfl
theorem kn_poly:polyB kP 1=true:=by kernel_rfl
theorem kn_same:sameP kP kP=true:=by kernel_rfl
theorem kn_wfP:WfM kP:=⟨by decide,fun m hm=>by
 simp only [kP,List.mem_cons,List.not_mem_nil,or_false] at hm
 rcases hm with rfl|rfl<;>exact ⟨⟨by decide,by decide⟩,by decide⟩⟩
theorem kn_wfQ:WfM kQ:=⟨by decide,fun m hm=>by
 simp only [kQ,List.mem_cons,List.not_mem_nil,or_false] at hm
 subst hm;exact ⟨⟨by decide,by decide⟩,by decide⟩⟩
theorem kn_wfT:WfM kT:=⟨by decide,fun m hm=>by
 simp only [kT,List.mem_cons,List.not_mem_nil,or_false] at hm
 rcases hm with rfl|rfl<;>exact ⟨⟨by decide,by decide⟩,by decide⟩⟩
theorem kn_wfI:WfM kIn:=⟨by decide,fun m hm=>by
 simp only [kIn,List.mem_cons,List.not_mem_nil,or_false] at hm
 rcases hm with rfl|rfl|rfl<;>exact ⟨⟨by decide,by decide⟩,by decide⟩⟩
theorem kn_wl (x:Nu) (h:B64 x.w:=by decide) (h2:x.w.length≤65536:=by decide):Wl 65536 x:=⟨h,h2⟩
set_option maxHeartbeats 4000000 in
theorem p_known10:PC Tryz.prog 11 [] fun d=>d=bl true:=by
 have pMk:=p_pMake (q:=kIn) (n:=1) kn_wfI (by decide)
 rw [kn_mk] at pMk
 have pD:=p_pDiff (q:=kP) (i:=0) (n:=1) kn_wfP
 rw [kn_dif] at pD
 have pA:=p_pAdd (a:=kP) (b:=kQ) (n:=1) kn_wfP kn_wfQ
 rw [kn_add] at pA
 have pM:=p_pMul (a:=kP) (c:=kQ) (n:=1) kn_wfP kn_wfQ
 rw [kn_mul] at pM
 have pV:=p_pAt (q:=kP) (xs:=[k2]) kn_wfP ⟨by decide,fun x hx=>by rw [List.mem_singleton.1 hx];exact kn_wl _⟩
 rw [kn_at] at pV
 have pR:=p_pRange (q:=kP) (bx:=[⟨nu0,k2⟩]) (p:=16) kn_wfP ⟨by decide,fun x hx=>by rw [List.mem_singleton.1 hx];exact ⟨kn_wl _,kn_wl _⟩⟩
 rw [kn_rg] at pR
 have pW:=p_hWords (xs:=[9]) (ys:=[9]) (by decide) (by decide) (by decide) (by decide)
 rw [decide_eq_true rfl] at pW
 have pG:=p_pDegree kn_wfT
 rw [kn_deg] at pG
 have pRt:=p_pRight (n:=1) kn_wfP
 rw [kn_poly] at pRt
 have pS:=p_pSame kn_wfP kn_wfP
 rw [kn_same] at pS
 have pH:=p_HasI (k:=65536) (a:=⟨k1,kV⟩) (x:=kV) ⟨kn_wl _,kn_wl _⟩ (by decide)
 rw [show hasR ⟨k1,kV⟩ kV=true by kernel_rfl] at pH
 have pH1:=p_HasI (k:=65536) (a:=⟨k1,kV⟩) (x:=k1) ⟨kn_wl _,kn_wl _⟩ (by decide)
 rw [show hasR ⟨k1,kV⟩ k1=true by kernel_rfl] at pH1
 have hP:((kP.length:Int)=2)=True:=eq_true rfl
 have hP0:kP[0]? = some ⟨⟨false,1,[1]⟩,[2]⟩:=rfl
 have hPl:0<kP.length:=by decide
 have hQl:0<kQ.length:=by decide
 have hQ:((kQ.length:Int)=1)=True:=eq_true rfl
 have hQ0:kQ[0]? = some ⟨⟨false,2,[1]⟩,[1]⟩:=rfl
 have hS:((kS.length:Int)=3)=True:=eq_true rfl
 have hT:((kT.length:Int)=2)=True:=eq_true rfl
 simp only [k1,k2,kV,nu0,NE,NU,LM,MM,II,UU,IE,IV] at pMk pD pA pM pV pR pG pRt pS pH pH1
 refine PB (rs:=[.tmp 0]) Tryz.func11 ?_
 have ft:=And.intro hP (And.intro hP0 (And.intro hQ (And.intro hQ0 (And.intro hS hT))))
 repeat (first|with_reducible refine pv_stop 1 ?_|(with_reducible first|refine pv_seq fun K hK=>?_|((first|refine hK _ _ ?_|(clear hK;refine hK _ _ ?_)|(clear hK;clear hK;refine hK _ _ ?_));clear hK;try clear K))| refine W ?_|exact Z|with_reducible intro b)
 refine ⟨fun K q hC=>?_⟩
 repeat (first|(with_reducible first|refine pv_seq fun K hK=>?_|((first|refine hK _ _ ?_|(clear hK;refine hK _ _ ?_)|(clear hK;clear hK;refine hK _ _ ?_));clear hK;try clear K))| refine W0 ?_|exact Z|with_reducible intro b)
 refine hC _ _ (Recast.join (Recast.frzCell (k2:=.l 1) (k:=.l 15) (by repeat first|exact updS_at|refine (updS_ne (by decide)).trans ?_) 0 2 rfl rfl (by decide) (by repeat first|exact updS_at|refine (updS_ne (by decide)).trans ?_) (gs:=[[.lit (.int .u64 1)]]) rfl (by decide) (Recast.frzCell (k2:=.l 2) (k:=.l 17) (by repeat first|exact updS_at|refine (updS_ne (by decide)).trans ?_) 0 2 rfl rfl (by decide) (by repeat first|exact updS_at|refine (updS_ne (by decide)).trans ?_) (gs:=[[.lit (.int .u64 1)]]) rfl (by decide) ?_)))
 rw [show G.sl [[G.lit (.int .u64 1)]]=eS (eK .u64) [1] from rfl]
 refine q _ _ ?_
 clear q hC
 repeat (first|(with_reducible first|refine pv_seq fun K hK=>?_|((first|refine hK _ _ ?_|(clear hK;refine hK _ _ ?_)|(clear hK;clear hK;refine hK _ _ ?_));clear hK;try clear K))| refine W0 ?_|exact Z|with_reducible intro b)
 refine PFC.frzCell (k2:=.l 29) (k:=.l 21) (by repeat first|exact updS_at|refine (updS_ne (by decide)).trans ?_) 0 3 rfl rfl (by decide) (by repeat first|exact updS_at|refine (updS_ne (by decide)).trans ?_) (gs:=[[.lit (.int .i64 0)]]) rfl (by decide) ?_
 refine PFC.frzCell (k2:=.l 29) (k:=.l 24) (by repeat first|exact updS_at|refine (updS_ne (by decide)).trans ?_) 1 3 rfl rfl (by decide) (by repeat first|exact updS_at|refine (updS_ne (by decide)).trans ?_) (gs:=[[.lit (.int .i64 2)]]) rfl (by decide) ?_
 refine PFC.frzCell (k2:=.l 29) (k:=.l 27) (by repeat first|exact updS_at|refine (updS_ne (by decide)).trans ?_) 2 3 rfl rfl (by decide) (by repeat first|exact updS_at|refine (updS_ne (by decide)).trans ?_) (gs:=[[.lit (.int .i64 2)]]) rfl (by decide) ?_
 refine PFC.coe ?_
 try simp -implicitDefEqProofs only [ft,go_sem,seval]
 exact Wk
end Go.V
namespace Go.V
open Go Go.RowKit Go.Proofs
def lightM (m:Mo):Prop:=m.e.length≤6∧m.c.w.length≤70
instance (m:Mo):Decidable (lightM m):=inferInstanceAs (Decidable (_∧_))
def lightQ (q:List Mo):Prop:=q.length≤30∧∀ m ∈ q,lightM m
instance (q:List Mo):Decidable (lightQ q):=inferInstanceAs (Decidable (_∧_))
def lightA (ls:List (List Mo)):Prop:=∀ q ∈ ls,lightQ q
instance (ls:List (List Mo)):Decidable (lightA ls):=inferInstanceAs (Decidable (∀ q ∈ ls,lightQ q))
end Go.V
namespace Go.V
open Go Go.RowKit Go.Proofs
theorem gathR_form {l:List Te}:(gathR l=(((gathN l l.length).filter fun t=>decide (t.v≠0)).map moT,0)∧(∀ y ∈ gathN l l.length,OkD y.v)∧(((gathN l l.length).filter fun t=>decide (t.v≠0)).map moT).length≤24)∨gathR l=([],2)∨gathR l=([],6):=by
 by_cases ho:∀ y ∈ gathN l l.length,OkD y.v
 ·have e:=monoN_ok ho (gathN l l.length).length (Nat.le_refl _)
  rw [List.take_length] at e
  unfold gathR
  rw [e,if_pos rfl]
  by_cases hq:(((gathN l l.length).filter fun t=>decide (t.v≠0)).map moT).length≤24
  ·rw [if_pos hq];exact .inl ⟨rfl,ho,hq⟩
  ·rw [if_neg hq];exact .inr (.inr rfl)
 ·simp only [Classical.not_forall] at ho
  obtain ⟨y,hy,hb⟩:=ho
  exact .inr (.inl (gathR_bad (List.Perm.refl _) hy hb))
theorem gathR_wf {l:List Te} (he:∀ t ∈ l,t.e.length≤100000):WfM (gathR l).1:=by
 have ha:=gathN_all (P:=fun e=>e.length≤100000) he l.length (Nat.le_refl _)
 rcases gathR_form (l:=l) with ⟨e,ho,hl⟩|e|e
 ·rw [e]
  refine ⟨by simp only;omega,fun m hm=>?_⟩
  obtain ⟨t,ht,rfl⟩:=List.mem_map.1 hm
  obtain ⟨ht,_⟩:=List.mem_filter.1 ht
  exact ⟨(ho t ht).sz.wl,ha t ht⟩
 ·rw [e];exact WfM.nil
 ·rw [e];exact WfM.nil
theorem pmkR_wf {q:List Mo} {n:Int} (hq:WfM q):WfM (pmkR q n).1:=by
 unfold pmkR
 split
 ·refine gathR_wf fun t ht=>?_
  obtain ⟨m,hm,rfl⟩:=List.mem_map.1 ht
  exact (hq.w m hm).n
 ·exact WfM.nil
theorem addR_wf {a b:List Mo} {n:Int} (ha:WfM a) (hb:WfM b):WfM (addR a b n).1:=by
 unfold addR
 split
 ·rename_i h
  rw [Bool.and_eq_true] at h
  have:=polyB_len h.1
  have:=polyB_len h.2
  exact pmkR_wf (ha.app hb (by omega))
 ·exact WfM.nil
theorem mulR_wf {a b:List Mo} {n:Int} (ha:WfM a) (hb:WfM b):WfM (mulR a b n).1:=by
 unfold mulR
 split
 ·split
  ·exact WfM.nil
  ·split
   ·refine gathR_wf fun t ht=>?_
    obtain ⟨x,hx,y,hy,rfl⟩:=mulT_mem ht
    show (zs x.e y.e).length≤100000
    unfold zs
    rw [List.length_zipWith]
    have:=(ha.w x hx).n
    omega
   ·exact WfM.nil
 ·exact WfM.nil
theorem difR_wf {q:List Mo} {i n:Int} (hq:WfM q):WfM (difR q i n).1:=by
 unfold difR
 split
 ·refine gathR_wf fun t ht=>?_
  obtain ⟨m,hm,rfl⟩:=List.mem_map.1 ht
  show (dec m.e i.toNat).length≤100000
  rw [dec_len]
  exact (hq.w m (List.mem_filter.1 hm).1).n
 ·exact WfM.nil
set_option maxHeartbeats 2000000 in
theorem p_reckons {p q:List Mo} {i n:Int} (wp:WfM p) (wq:WfM q):PC Tryz.prog 24 [MM p,MM q,i64 i,i64 n] fun d=>d=bl true:=by
 have p1:=p_pAdd (n:=n) wp wq
 have p2:=p_pMul (n:=n) wp wq
 have p3:=p_pDiff (i:=i) (n:=n) wp
 have p4:=p_rPAdd (n:=n) wp wq
 have p5:=p_rPMul (n:=n) wp wq
 have p6:=p_rPDiff (i:=i) (n:=n) wp
 have w1:=addR_wf (n:=n) wp wq
 have w2:=mulR_wf (n:=n) wp wq
 have w3:=difR_wf (i:=i) (n:=n) wp
 generalize addR p q n=s at *
 generalize mulR p q n=t at *
 generalize difR p i n=u at *
 obtain ⟨s,e1⟩:=s
 obtain ⟨t,e2⟩:=t
 obtain ⟨u,e3⟩:=u
 have p7:=p_rSameP w1 w1
 have p8:=p_rSameP w2 w2
 have p9:=p_rSameP w3 w3
 rw [sameP_self] at p7 p8 p9
 unfold LM at p1 p2 p3 p4 p5 p6
 unfold MM at *
 simp only at *
 have b1:(e1=e1)=True:=eq_true rfl
 have b2:(e2=e2)=True:=eq_true rfl
 have b3:(e3=e3)=True:=eq_true rfl
 refine PB (rs:=[.tmp 8]) Tryz.func24 ?_
 have ft:=And.intro b1 (And.intro b2 b3)
 exact Wk
end Go.V
namespace Go.V
open Go Go.RowKit Go.Proofs
end Go.V
namespace Go.V
open Go Go.RowKit Go.Proofs
theorem p_dDim {k:Nm} {S:Store} {Q:D→Store→Prop} {b i:Nat} {w:List Nat} (hS:S k=some ⟨b,2,0,[[W64 w,i64 i]]⟩) (hb:B64 w) (hi:i≤900000000)
 (hQ:∀ n:Nat,1≤n→n≤4→Q (i64 n) (updS S k (some ⟨b,2,0,[[W64 w,i64 ((i + 1:Nat):Int)]]⟩))):PFC Tryz.prog 22 [.ptr k b 0 0 2] S Q:=by
 refine PFB (rs:=[.tmp 2]) Tryz.func22 ?_
 repeat (first|(with_reducible first|refine pv_seq fun K hK=>?_|((first|refine hK _ _ ?_|(clear hK;refine hK _ _ ?_)|(clear hK;clear hK;refine hK _ _ ?_));clear hK;try clear K))| refine W0 ?_|exact Z|with_reducible intro b)
 refine p_dN (n:=4) (i:=i) (by simp -implicitDefEqProofs only [updS,upS];exact hS) hb (by omega) (by decide) (by decide) (fun r hr=>?_)
 have hq:=hQ (1 + r) (by omega) (by omega)
 repeat (first|(with_reducible first|refine pv_seq fun K hK=>?_|((first|refine hK _ _ ?_|(clear hK;refine hK _ _ ?_)|(clear hK;clear hK;refine hK _ _ ?_));clear hK;try clear K))| refine W0 ?_|exact Z|with_reducible intro b)
 exact hq
end Go.V
namespace Go.V
open Go Go.RowKit Go.Proofs
def powV (p:Nat) (a:Iv) (j:Nat):Iv:=ivD (rd p false (loP a.lo.val a.hi.val j)) (rd p true (hiP a.lo.val a.hi.val j))
theorem powV_sm {p k q j:Nat} {a:Iv} (ha:SmV k q a) (h8:8≤p) (h256:p≤256) (hj:j≤8) (hk:k≤100) (hq:q≤100):pwI a (j:Int) p=(powV p a j,0)∧SmV (1 + k * j + 1) (q * j) (powV p a j):=by
 obtain ⟨x,y,rfl,hx,hy,hxy⟩:=ha
 have ok:∀ {d:Dyadic},Sm k q d→OkD d:=fun h=>(h.bx).ok (by omega) (by omega)
 have h1:k * j≤100 * 8:=Nat.mul_le_mul hk hj
 have h2:q * j≤100 * 8:=Nat.mul_le_mul hq hj
 unfold powV
 rw [ivD_l,ivD_h]
 have sl:=loP_sm (j:=j) hx hy
 have sh:=hiP_sm (j:=j) hx hy
 have hm:=pow_in (x:=x) (y:=y) (t:=x) (k:=j) (Dyadic.le_refl _) hxy
 exact ⟨pwI_ok (ok hx) (ok hy) hxy h8 h256 hj (sl.rdOk (by omega) (by omega) h8 h256) (sh.rdOk (by omega) (by omega) h8 h256),_,_,rfl,sl.rd,sh.rd,rd_le_rd (Dyadic.le_trans hm.1 hm.2)⟩
def ovV (p:Nat) (b:List Iv) (z:List Int) (c:Iv):Nat→Iv
 | 0=>c
 | i + 1=>if z.getD i 0=0 then ovV p b z c i else mulV p (ovV p b z c i) (powV p (gI b i) (z.getD i 0).toNat)
def rgV (p:Nat) (b:List Iv) (q:List Mo):Nat→Iv
 | 0=>iv0
 | k + 1=>addV p (rgV p b q k) (ovV p b (gM q k).e ⟨(gM q k).c,(gM q k).c⟩ b.length)
structure SmB (b:List Iv):Prop where
 s:∀ i,i<b.length→SmV 18 9 (gI b i)
theorem ovV_is {p:Nat} {b:List Iv} {z:List Int} {d:Dyadic} (hb:SmB b) (hz:Pw b.length 6 z) (hd:Sm 19 6 d) (h8:8≤p) (h256:p≤256) (hn:b.length≤4) :
 ∀ i,i≤b.length→∃ u:Nat,(u:Int)=(z.take i).sum∧u≤6∧ovN p b z ⟨nuOf d,nuOf d⟩ i=(ovV p b z ⟨nuOf d,nuOf d⟩ i,0)∧SmV (19 + 3 * i + 18 * u) (6 + 9 * u) (ovV p b z ⟨nuOf d,nuOf d⟩ i)
 | 0,_=>⟨0,rfl,by omega,rfl,d,d,rfl,hd,hd,Dyadic.le_refl _⟩
 | i + 1,hi=>by
   obtain ⟨u,hu,hu6,e,s⟩:=ovV_is hb hz hd h8 h256 hn i (by omega)
   have hl:=hz.len
   have q2:=zget (l:=z) (i:=i) (by omega)
   have hz0:=hz.nn _ (List.mem_of_getElem? q2)
   have hTs:=sum_take_succ q2
   have hT6:=sum_take_le (l:=z) (i + 1) hz.nn
   have h6:=hz.sum
   obtain ⟨kk,hk⟩:∃ kk:Nat,z.getD i 0=kk:=⟨(z.getD i 0).toNat,by omega⟩
   rw [hTs,hk]
   refine ⟨u + kk,by omega,by omega,?_⟩
   have hsu:=ovN_succ (p:=(p:Int)) (b:=b) (z:=z) (v0:=⟨nuOf d,nuOf d⟩) (i:=i) (by rw [e])
   rw [hsu]
   unfold ovV
   by_cases h0:z.getD i 0=0
   ·rw [if_pos h0,if_pos h0]
    have:kk=0:=by omega
    subst this
    exact ⟨e,s.mono (by omega)⟩
   ·rw [if_neg h0,if_neg h0,hk,Int.toNat_natCast]
    have pw:=powV_sm (p:=p) (j:=kk) (hb.s i (by omega)) h8 h256 (by omega) (by omega) (by omega)
    rw [pw.1,if_pos rfl,e]
    have mu:=mulV_sm (p:=p) s pw.2 h8 h256 (by omega) (by omega)
    refine ⟨mu.1,?_⟩
    have:=mu.2
    rw [show 6 + 9 * u + 9 * kk=6 + 9 * (u + kk) by omega] at this
    exact this.mono (by omega)
theorem ovV_isA {p:Nat} {b:List Iv} {z:List Int} {d:Dyadic} (hb:SmB b) (hz:Pw b.length 6 z) (hd:Sm 19 6 d) (h8:8≤p) (h256:p≤256) (hn:b.length≤4) :
 ovN p b z ⟨nuOf d,nuOf d⟩ b.length=(ovV p b z ⟨nuOf d,nuOf d⟩ b.length,0)∧SmV 200 60 (ovV p b z ⟨nuOf d,nuOf d⟩ b.length):=by
 obtain ⟨u,_,hu,e,s⟩:=ovV_is hb hz hd h8 h256 hn b.length (Nat.le_refl _)
 refine ⟨e,?_⟩
 have:=s.lift (60 - (6 + 9 * u))
 rw [show 6 + 9 * u + (60 - (6 + 9 * u))=60 by omega] at this
 exact this.mono (by omega)
structure SmQ (n:Nat) (q:List Mo):Prop where
 c:∀ m ∈ q,∃ d,m.c=nuOf d∧Sm 19 6 d
 e:∀ m ∈ q,Pw n 6 m.e
 l:q.length≤24
theorem rgV_is {p:Nat} {b:List Iv} {q:List Mo} (hb:SmB b) (hq:SmQ b.length q) (h8:8≤p) (h256:p≤256) (hn:b.length≤4):∀ k,k≤q.length→rgN p b q k=(rgV p b q k,0)∧SmV (200 + 2 * k) 60 (rgV p b q k)
 | 0,_=>⟨rfl,SmV.zero⟩
 | k + 1,hk=>by
   have ih:=rgV_is hb hq h8 h256 hn k (by omega)
   have hl:=hq.l
   have hm:=gM_mem (l:=q) (i:=k) (by omega)
   obtain ⟨d,hc,hd⟩:=hq.c _ hm
   have ov:=ovV_isA (p:=p) hb (hq.e _ hm) hd h8 h256 hn
   have hsu:=rgN_succ (p:=(p:Int)) (b:=b) (q:=q) (k:=k) (by rw [ih.1])
   rw [hsu]
   unfold rgV ovM
   rw [hc,ov.1,if_pos rfl,ih.1]
   have ad:=addV_sm (p:=p) ih.2 (ov.2.mono (m:=200 + 2 * k) (by omega)) h8 h256 (by omega) (by omega)
   exact ⟨ad.1,ad.2.mono (by omega)⟩
theorem monV_smS {z:List Int} {d:Dyadic} {xs:List Dyadic} (hz:Pw xs.length 6 z) (hd:Sm 19 6 d) (hx:∀ x ∈ xs,Sm 18 9 x):∀ i,i≤xs.length→∃ u:Nat,(u:Int)=(z.take i).sum∧u≤6∧Sm (19 + i + 18 * u) (6 + 9 * u) (monV d (xs.map nuOf) z i)
 | 0,_=>⟨0,rfl,by omega,hd⟩
 | i + 1,hi=>by
   obtain ⟨u,hu,hu6,s⟩:=monV_smS hz hd hx i (by omega)
   have hl:=hz.len
   have q2:=zget (l:=z) (i:=i) (by omega)
   have hz0:=hz.nn _ (List.mem_of_getElem? q2)
   have hTs:=sum_take_succ q2
   have hT6:=sum_take_le (l:=z) (i + 1) hz.nn
   have h6:=hz.sum
   obtain ⟨kk,hk⟩:∃ kk:Nat,z.getD i 0=kk:=⟨(z.getD i 0).toNat,by omega⟩
   rw [hTs,hk]
   refine ⟨u + kk,by omega,by omega,?_⟩
   show Sm _ _ (monV d (xs.map nuOf) z i * powD (gU (xs.map nuOf) i).val (z.getD i 0).toNat)
   have hxi:(gU (xs.map nuOf) i).val=xs.getD i 0:=by
    unfold gU
    rw [List.getD,List.getElem?_map]
    cases h:xs[i]? with
    | none=>have:=List.getElem?_eq_none_iff.1 h;omega
    | some y=>simp [List.getD,h,val_nuOf]
   have hxm:xs.getD i 0 ∈ xs:=List.mem_of_getElem? (show xs[i]? = some (xs.getD i 0) by simp [List.getD,List.getElem?_eq_getElem (show i<xs.length by omega)])
   rw [hxi,hk,Int.toNat_natCast]
   have:=s.mul (powD_sm (hx _ hxm) kk)
   rw [show 6 + 9 * u + 9 * kk=6 + 9 * (u + kk) by omega] at this
   exact this.mono (by omega)
theorem valV_smS {q:List Mo} {xs:List Dyadic} (hq:SmQ xs.length q) (hx:∀ x ∈ xs,Sm 18 9 x) (hn:xs.length≤4):∀ k,k≤q.length→Sm (200 + k) 60 (valV q (xs.map nuOf) k)
 | 0,_=>Sm.zero
 | k + 1,hk=>by
   have ih:=valV_smS hq hx hn k (by omega)
   have hm:=gM_mem (l:=q) (i:=k) (by omega)
   obtain ⟨d,hc,hd⟩:=hq.c _ hm
   obtain ⟨u,_,hu,s⟩:=monV_smS (hq.e _ hm) hd hx xs.length (Nat.le_refl _)
   show Sm _ _ (valV q (xs.map nuOf) k + monV (gM q k).c.val (xs.map nuOf) (gM q k).e (xs.map nuOf).length)
   rw [hc,val_nuOf,List.length_map]
   have:=s.lift (60 - (6 + 9 * u))
   rw [show 6 + 9 * u + (60 - (6 + 9 * u))=60 by omega] at this
   exact (ih.add (this.mono (m:=200 + k) (by omega))).mono (by omega)
theorem atR_is {q:List Mo} {xs:List Dyadic} (hp:polyB q xs.length=true) (hq:SmQ xs.length q) (hx:∀ x ∈ xs,Sm 18 9 x) (hn:xs.length≤4):atR q (xs.map nuOf)=(nuOf (valV q (xs.map nuOf) q.length),0)∧OkD (valV q (xs.map nuOf) q.length):=by
 have s:=valV_smS hq hx hn q.length (Nat.le_refl _)
 have hl:=hq.l
 have ok:OkD (valV q (xs.map nuOf) q.length):=s.ok2 (by omega) (by decide)
 have ha:allU (xs.map nuOf)=true:=decide_eq_true fun y hy=>by
  obtain ⟨x,hx2,rfl⟩:=List.mem_map.1 hy
  rw [rightB_nuOf];exact decide_eq_true ((hx x hx2).ok2 (by decide) (by decide))
 refine ⟨?_,ok⟩
 unfold atR
 rw [List.length_map,hp,ha]
 exact numR_ok ok
end Go.V
namespace Go.V
open Go Go.RowKit Go.Proofs
end Go.V
namespace Go.V
open Go Go.RowKit Go.Proofs
def sumG (g:List Int→Dyadic):List Te→Dyadic
 | []=>0
 | t :: r=>g t.e * t.v + sumG g r
theorem sumG_app {g:List Int→Dyadic}:∀ {a b:List Te},sumG g (a ++ b)=sumG g a + sumG g b
 | [],b=>by show sumG g b=0 + sumG g b;grind
 | t :: a,b=>by
   show g t.e * t.v + sumG g (a ++ b)=g t.e * t.v + sumG g a + sumG g b
   rw [sumG_app];grind
theorem sumG_congr {g h:List Int→Dyadic}:∀ {l:List Te},(∀ t ∈ l,g t.e=h t.e)→sumG g l=sumG h l
 | [],_=>rfl
 | t :: l,H=>by
   show g t.e * t.v + sumG g l=h t.e * t.v + sumG h l
   rw [H t List.mem_cons_self,sumG_congr fun y hy=>H y (List.mem_cons_of_mem _ hy)]
theorem sumG_add {g h:List Int→Dyadic}:∀ {l:List Te},sumG (fun e=>g e + h e) l=sumG g l + sumG h l
 | []=>by show (0:Dyadic)=0 + 0;grind
 | t :: l=>by
   show (g t.e + h t.e) * t.v + sumG (fun e=>g e + h e) l=(g t.e * t.v + sumG g l) + (h t.e * t.v + sumG h l)
   rw [sumG_add];grind
theorem sumG_zero:∀ {l:List Te},sumG (fun _=>0) l=0
 | []=>rfl
 | t :: l=>by
   show (0:Dyadic) * t.v + sumG (fun _=>0) l=0
   rw [sumG_zero];grind
theorem sumG_mul {g:List Int→Dyadic} {c:Dyadic}:∀ {l:List Te},sumG (fun e=>c * g e) l=c * sumG g l
 | []=>by show (0:Dyadic)=c * 0;grind
 | t :: l=>by
   show c * g t.e * t.v + sumG (fun e=>c * g e) l=c * (g t.e * t.v + sumG g l)
   rw [sumG_mul];grind
theorem sumG_swap {g:List Int→List Int→Dyadic} {b:List Te}:∀ {a:List Te},sumG (fun e=>sumG (fun f=>g e f) b) a=sumG (fun f=>sumG (fun e=>g e f) a) b
 | []=>sumG_zero.symm
 | t :: a=>by
   show sumG (fun f=>g t.e f) b * t.v + sumG (fun e=>sumG (fun f=>g e f) b) a=sumG (fun f=>g t.e f * t.v + sumG (fun e=>g e f) a) b
   rw [sumG_add,sumG_swap,sumG_congr (g:=fun f=>g t.e f * t.v) (h:=fun f=>t.v * g t.e f) fun y _=>by grind,sumG_mul];grind
theorem sumG_ins {g:List Int→Dyadic} {n:Nat} {t:Te} (ht:t.e.length=n):∀ {out:List Te},(∀ y ∈ out,y.e.length=n)→sumG g (insT out t)=sumG g out + g t.e * t.v
 | [],_=>by rw [insT_nil];show g t.e * t.v + 0=0 + g t.e * t.v;grind
 | x :: r,h=>by
   have hx:=h x List.mem_cons_self
   have ih:=sumG_ins (g:=g) ht (out:=r) fun y hy=>h y (List.mem_cons_of_mem _ hy)
   rw [insT_cons]
   split
   ·show g x.e * x.v + sumG g (insT r t)=g x.e * x.v + sumG g r + g t.e * t.v
    rw [ih];grind
   ·split
    ·rename_i h0
     have he:=ordE_eq (by rw [hx,ht]) h0
     show g x.e * (x.v + t.v) + sumG g r=g x.e * x.v + sumG g r + g t.e * t.v
     rw [he];grind
    ·show g t.e * t.v + (g x.e * x.v + sumG g r)=g x.e * x.v + sumG g r + g t.e * t.v
     grind
theorem sumG_gath {g:List Int→Dyadic} {n:Nat} {l:List Te} (h:∀ t ∈ l,t.e.length=n):∀ i,i≤l.length→sumG g (gathN l i)=sumG g (l.take i)
 | 0,_=>rfl
 | i + 1,hi=>by
   have ih:=sumG_gath (g:=g) h i (by omega)
   have hs:=gathN_sort h i (by omega)
   show sumG g (insT (gathN l i) (gT l i))=_
   rw [sumG_ins (h _ (gT_mem (by omega))) hs.len,ih,List.take_add_one,gT_at (by omega),Option.toList_some,sumG_app]
   show _=_ + (g (gT l i).e * (gT l i).v + 0)
   grind
theorem sumG_filter {g:List Int→Dyadic}:∀ {l:List Te},sumG g (l.filter fun t=>decide (t.v≠0))=sumG g l
 | []=>rfl
 | t :: l=>by
   have ih:=sumG_filter (g:=g) (l:=l)
   rw [List.filter_cons]
   split
   ·show _ + sumG g _=_ + _
    rw [ih]
   ·rename_i h
    have h0:t.v=0:=by simpa using h
    show _=g t.e * t.v + sumG g l
    rw [ih,h0];grind
def nzT (l:List Te):List Te:=(gathN l l.length).filter fun t=>decide (t.v≠0)
theorem sumG_nz {g:List Int→Dyadic} {n:Nat} {l:List Te} (h:∀ t ∈ l,t.e.length=n):sumG g (nzT l)=sumG g l:=by
 have:=sumG_gath (g:=g) h l.length (Nat.le_refl _)
 rw [List.take_length] at this
 exact sumG_filter.trans this
theorem nzT_sort {n:Nat} {l:List Te} (h:∀ t ∈ l,t.e.length=n):SortT n (nzT l):=by
 have hs:=gathN_sort h l.length (Nat.le_refl _)
 exact ⟨fun t ht=>hs.len t (List.mem_filter.1 ht).1,hs.ord.filter _⟩
theorem nzT_ne {l:List Te}:∀ t ∈ nzT l,t.v≠0:=fun t ht=>of_decide_eq_true (List.mem_filter.1 ht).2
def atE (e f:List Int):Dyadic:=if f=e then 1 else 0
theorem sumG_out {e:List Int}:∀ {l:List Te},(∀ t ∈ l,t.e≠e)→sumG (atE e) l=0
 | [],_=>rfl
 | t :: l,h=>by
   show atE e t.e * t.v + sumG (atE e) l=0
   rw [sumG_out fun y hy=>h y (List.mem_cons_of_mem _ hy)]
   unfold atE
   rw [if_neg (h t List.mem_cons_self)];grind
theorem sumG_hd {x:Te} {l:List Te} (h:∀ y ∈ l,y.e≠x.e):sumG (atE x.e) (x :: l)=x.v:=by
 show atE x.e x.e * x.v + sumG (atE x.e) l=x.v
 rw [sumG_out h]
 unfold atE
 rw [if_pos rfl];grind
theorem sortT_out {n:Nat} {e:List Int} {l:List Te} (h:SortT n l) (he:∀ x ∈ l.head?,0<ordE e x.e) (hn:e.length=n):∀ t ∈ l,t.e≠e:=by
 cases l with
 | nil=>intro t ht;cases ht
 | cons x r =>
   have h0:=he x rfl
   have h1:=(List.pairwise_cons.1 h.ord).1
   intro t ht hte
   have h2:0<ordE e t.e:=by
    rcases List.mem_cons.1 ht with rfl|hr
    ·exact h0
    ·exact ordE_trans (by rw [hn,h.len x List.mem_cons_self]) (by rw [h.len x List.mem_cons_self,h.len t ht]) h0 (h1 t hr)
   rw [hte,ordE_self] at h2
   exact absurd h2 (by decide)
theorem sortT_tl {n:Nat} {x:Te} {l:List Te} (h:SortT n (x :: l)):SortT n l∧∀ y ∈ l,y.e≠x.e:=by
 have h1:=List.pairwise_cons.1 h.ord
 refine ⟨⟨fun y hy=>h.len y (List.mem_cons_of_mem _ hy),h1.2⟩,fun y hy e=>?_⟩
 have:=h1.1 y hy
 rw [e,ordE_self] at this
 exact absurd this (by decide)
theorem terms_eq {n:Nat}:∀ {a b:List Te},SortT n a→SortT n b→(∀ t ∈ a,t.v≠0)→(∀ t ∈ b,t.v≠0)→(∀ g,sumG g a=sumG g b)→a=b
 | [],[],_,_,_,_,_=>rfl
 | [],y :: b,_,hb,_,nb,h=>by
   have:=h (atE y.e)
   rw [sumG_hd (sortT_tl hb).2] at this
   exact absurd this.symm (nb y List.mem_cons_self)
 | x :: a,[],ha,_,na,_,h=>by
   have:=h (atE x.e)
   rw [sumG_hd (sortT_tl ha).2] at this
   exact absurd this (na x List.mem_cons_self)
 | x :: a,y :: b,ha,hb,na,nb,h=>by
   have lx:=ha.len x List.mem_cons_self
   have ly:=hb.len y List.mem_cons_self
   rcases ordE_cases x.e y.e with h1|h1|h1
   ·have:=h (atE y.e)
    rw [sumG_hd (sortT_tl hb).2,sumG_out (sortT_out ha (fun z hz=>by
     obtain rfl:x=z:=by simpa using hz
     rw [ordE_neg];omega) ly)] at this
    exact absurd this.symm (nb y List.mem_cons_self)
   ·have he:=ordE_eq (by rw [lx,ly]) h1
    have hv:=h (atE x.e)
    rw [sumG_hd (sortT_tl ha).2,he,sumG_hd (sortT_tl hb).2] at hv
    have hxy:x=y:=by
     obtain ⟨v,e⟩:=x
     obtain ⟨v',e'⟩:=y
     simp only at he hv
     rw [he,hv]
    subst hxy
    rw [terms_eq (sortT_tl ha).1 (sortT_tl hb).1 (fun t ht=>na t (List.mem_cons_of_mem _ ht)) (fun t ht=>nb t (List.mem_cons_of_mem _ ht)) fun g=>by
     have:=h g
     have h2:g x.e * x.v + sumG g a=g x.e * x.v + sumG g b:=this
     grind]
   ·have:=h (atE x.e)
    rw [sumG_hd (sortT_tl ha).2,sumG_out (sortT_out hb (fun z hz=>by
     obtain rfl:y=z:=by simpa using hz
     omega) lx)] at this
    exact absurd this (na x List.mem_cons_self)
theorem nzT_eq {n:Nat} {l m:List Te} (hl:∀ t ∈ l,t.e.length=n) (hm:∀ t ∈ m,t.e.length=n) (h:∀ g,sumG g l=sumG g m):nzT l=nzT m :=
 terms_eq (nzT_sort hl) (nzT_sort hm) nzT_ne nzT_ne fun g=>by rw [sumG_nz hl,sumG_nz hm,h g]
theorem gathR_yes {l:List Te} (h:∀ y ∈ nzT l,OkD y.v):gathR l=if (nzT l).length≤24 then ((nzT l).map moT,0) else ([],6):=by
 have ho:∀ y ∈ gathN l l.length,OkD y.v:=fun y hy=>by
  by_cases h0:y.v=0
  ·rw [h0];exact OkD.zero
  ·exact h y (List.mem_filter.2 ⟨hy,decide_eq_true h0⟩)
 have e:=monoN_ok ho (gathN l l.length).length (Nat.le_refl _)
 rw [List.take_length] at e
 unfold gathR
 rw [e,if_pos rfl]
 show (if ((nzT l).map moT).length≤24 then ((nzT l).map moT,0) else ([],6))=_
 rw [List.length_map]
theorem gathR_no {l:List Te} (h:¬ ∀ y ∈ nzT l,OkD y.v):gathR l=([],2):=by
 simp only [Classical.not_forall] at h
 obtain ⟨y,hy,hb⟩:=h
 exact gathR_bad (List.Perm.refl _) (List.mem_filter.1 hy).1 hb
theorem gathR_eq {n:Nat} {l m:List Te} (hl:∀ t ∈ l,t.e.length=n) (hm:∀ t ∈ m,t.e.length=n) (h:∀ g,sumG g l=sumG g m):gathR l=gathR m:=by
 have e:=nzT_eq hl hm h
 by_cases hy:∀ y ∈ nzT l,OkD y.v
 ·rw [gathR_yes hy,gathR_yes (e ▸ hy),e]
 ·rw [gathR_no hy,gathR_no (e ▸ hy)]
theorem gathR_te {l:List Te} {q:List Mo} (h:gathR l=(q,0)):q.map teM=nzT l:=by
 by_cases hy:∀ y ∈ nzT l,OkD y.v
 ·rw [gathR_yes hy] at h
  split at h
  ·injection h with h _
   rw [← h,List.map_map,show teM ∘ moT=id from funext fun t=>teM_moN,List.map_id]
  ·injection h with _ h;cases h
 ·rw [gathR_no hy] at h
  injection h with _ h;cases h
theorem gathR_sum {g:List Int→Dyadic} {n:Nat} {l:List Te} {q:List Mo} (hl:∀ t ∈ l,t.e.length=n) (h:gathR l=(q,0)):sumG g (q.map teM)=sumG g l:=by
 rw [gathR_te h,sumG_nz hl]
theorem sumG_mulT {g:List Int→Dyadic} {b:List Mo}:∀ {a:List Mo},sumG g (mulT a b)=sumG (fun e=>sumG (fun f=>g (zs e f)) (b.map teM)) (a.map teM)
 | []=>rfl
 | x :: a=>by
   have h1:∀ {b:List Mo},sumG g (b.map (tm x))=sumG (fun f=>g (zs x.e f)) (b.map teM) * x.c.val:=by
    intro b
    induction b with
    | nil=>show (0:Dyadic)=0 * x.c.val;grind
    | cons y b ih =>
      show g (zs x.e y.e) * (x.c.val * y.c.val) + sumG g (b.map (tm x))=(g (zs x.e y.e) * y.c.val + sumG (fun f=>g (zs x.e f)) (b.map teM)) * x.c.val
      rw [ih];grind
   show sumG g (b.map (tm x) ++ mulT a b)=sumG (fun f=>g (zs x.e f)) (b.map teM) * x.c.val + _
   rw [sumG_app,h1,sumG_mulT]
theorem wD_val {k:Int}:wD k=Dyadic.ofInt k:=by
 unfold wD dy
 show Dyadic.ofIntWithPrec (sg (decide (k<0)) k.natAbs) 0=_
 have:sg (decide (k<0)) k.natAbs=k:=by
  unfold sg
  by_cases h:k<0
  ·rw [decide_eq_true h,if_pos rfl];omega
  ·rw [decide_eq_false h,if_neg (by decide)];omega
 rw [this];rfl
theorem wD_zero:wD 0=0:=dy0 _ _
theorem sumG_difT {g:List Int→Dyadic} {i:Nat}:∀ {q:List Mo},sumG g (difT q i)=sumG (fun e=>wD (e.getD i 0) * g (dec e i)) (q.map teM)
 | []=>rfl
 | x :: q=>by
   have ih:=sumG_difT (g:=g) (i:=i) (q:=q)
   unfold difT at *
   show _=wD (x.e.getD i 0) * g (dec x.e i) * x.c.val + sumG (fun e=>wD (e.getD i 0) * g (dec e i)) (q.map teM)
   rw [List.filter_cons]
   by_cases h0:x.e.getD i 0=0
   ·rw [if_neg (by simp only [h0];decide),ih,h0,wD_zero];grind
   ·rw [if_pos (decide_eq_true h0)]
    show g (dec x.e i) * (x.c.val * wD (x.e.getD i 0)) + sumG g _=_
    rw [ih];grind
end Go.V
namespace Go.V
open Go Go.RowKit Go.Proofs
structure Po (n m deg k q:Nat) (p:List Mo):Prop where
 right:polyB p (n:Int)=true
 len:p.length≤m
 c:∀ x ∈ p,∃ d,x.c=nuOf d∧Sm k q d
 e:∀ x ∈ p,Pw n deg x.e
variable {n:Nat}
theorem Po.v {m deg k q:Nat} {p:List Mo} (h:Po n m deg k q p):∀ x ∈ p,Sm k q x.c.val:=fun x hx=>by
 obtain ⟨d,hd,hs⟩:=h.c x hx
 rw [hd,val_nuOf];exact hs
theorem Po.te {m deg k q:Nat} {p:List Mo} (h:Po n m deg k q p):∀ t ∈ p.map teM,t.e.length=n∧Pw n deg t.e∧Sm k q t.v:=fun t ht=>by
 obtain ⟨x,hx,rfl⟩:=List.mem_map.1 ht
 exact ⟨(h.e x hx).len,h.e x hx,h.v x hx⟩
theorem Po.wf {m deg k q:Nat} {p:List Mo} (h:Po n m deg k q p) (hk:k≤4000) (hq:q≤4000) (hm:m≤24) (hn:n≤4):WfM p:=⟨by have:=h.len;omega,fun x hx=>by
 obtain ⟨d,hd,hs⟩:=h.c x hx
 exact ⟨by rw [hd];exact ((hs.ok2 hk hq).sz).wl,by rw [(h.e x hx).len];omega⟩⟩
theorem DrP.po {most deg:Nat} {p:List Mo} (h:DrP n most deg p):Po n most deg (14 + most) 6 p :=
 ⟨h.right,h.len,fun x hx=>by obtain ⟨d,h1,_,h2⟩:=h.c x hx;exact ⟨d,h1,h2⟩,h.e⟩
theorem po_of {m deg k q:Nat} {l:List Te} (h1:1≤n) (h4:n≤4) (h8:deg≤8) (hm:m≤24) (hl:l.length≤m) (hv:∀ t ∈ l,Sm k q t.v) (he:∀ t ∈ l,Pw n deg t.e) (hk:k + m≤4000) (hq:q≤4000) :
 ∃ p,gathR l=(p,0)∧Po n m deg (k + m) q p:=by
 have hsm:=gathN_sm hv l.length (Nat.le_refl _)
 have hel:=gathN_all (P:=Pw n deg) he l.length (Nat.le_refl _)
 have hsm2:∀ y ∈ gathN l l.length,Sm (k + m) q y.v:=fun y hy=>(hsm y hy).mono (by omega)
 have hlen:=gathN_len l l.length
 obtain ⟨p,e1,e2,e3⟩:=gathR_ok (n:=n) (l:=l) h1 h4 (by omega) (fun t ht=>⟨(he t ht).len,(he t ht).nn,by have:=(he t ht).sum;omega⟩) (fun y hy=>(hsm2 y hy).ok2 (by omega) (by omega))
 refine ⟨p,e1,e3,?_,?_,?_⟩
 ·rw [e2,List.length_map]
  exact Nat.le_trans (List.length_filter_le _ _) (by omega)
 ·intro x hx
  rw [e2] at hx
  obtain ⟨t,ht,rfl⟩:=List.mem_map.1 hx
  exact ⟨t.v,rfl,hsm2 t (List.mem_filter.1 ht).1⟩
 ·intro x hx
  rw [e2] at hx
  obtain ⟨t,ht,rfl⟩:=List.mem_map.1 hx
  exact hel t (List.mem_filter.1 ht).1
theorem add_is {a b:List Mo} (ha:polyB a (n:Int)=true) (hb:polyB b (n:Int)=true):addR a b n=gathR (a.map teM ++ b.map teM):=by
 have hn:=polyB_n ha
 have hall:allM (a ++ b) (n:Int)=true:=decide_eq_true fun m hm=>by
  rcases List.mem_append.1 hm with h|h
  ·exact polyB_mono ha m h
  ·exact polyB_mono hb m h
 unfold addR
 rw [ha,hb]
 show pmkR (a ++ b) n=_
 unfold pmkR
 rw [hall,decide_eq_true hn.1,decide_eq_true hn.2,List.map_append];rfl
theorem po_add {m1 m2 m deg k q:Nat} {a b:List Mo} (ha:Po n m1 deg k q a) (hb:Po n m2 deg k q b) (hm:m1 + m2≤m) (h24:m≤24) (h8:deg≤8) (hk:k + m≤4000) (hq:q≤4000) :
 ∃ p,addR a b n=(p,0)∧gathR (a.map teM ++ b.map teM)=(p,0)∧Po n m deg (k + m) q p:=by
 have hn:=polyB_n ha.right
 have la:=ha.len
 have lb:=hb.len
 obtain ⟨p,e,hp⟩:=po_of (l:=a.map teM ++ b.map teM) (n:=n) (m:=m) (deg:=deg) (k:=k) (q:=q) (by omega) (by omega) h8 h24 (by rw [List.length_append,List.length_map,List.length_map];omega) (fun t ht=>by
  rcases List.mem_append.1 ht with h|h
  ·exact (ha.te t h).2.2
  ·exact (hb.te t h).2.2) (fun t ht=>by
  rcases List.mem_append.1 ht with h|h
  ·exact (ha.te t h).2.1
  ·exact (hb.te t h).2.1) hk hq
 exact ⟨p,by rw [add_is ha.right hb.right];exact e,e,hp⟩
theorem degN_ub {q:List Mo} {d:Nat} (h:∀ x ∈ q,x.e.sum≤d):∀ i,i≤q.length→degN q i≤d
 | 0,_=>Int.natCast_nonneg d
 | i + 1,hi=>by
   have ih:=degN_ub h i (by omega)
   have:=h _ (gM_mem (l:=q) (i:=i) (by omega))
   show maxI (degN q i) (gM q i).e.sum≤d
   unfold maxI
   split<;>omega
theorem degR_ub {q:List Mo} {d:Nat} (h:∀ x ∈ q,x.e.sum≤d):degR q≤d:=by
 unfold degR
 split
 ·omega
 ·split
  ·exact degN_ub h _ (Nat.le_refl _)
  ·omega
theorem zs_pw {d1 d2 d:Nat} {x y:List Int} (hx:Pw n d1 x) (hy:Pw n d2 y) (hd:d1 + d2≤d):Pw n d (zs x y):=by
 have hl:x.length=y.length:=by rw [hx.len,hy.len]
 have h1:=hx.sum
 have h2:=hy.sum
 exact ⟨by rw [zs_len hl,hx.len],zs_nn hx.nn hy.nn,by rw [zs_sum hl];omega⟩
theorem po_mul {m1 m2 m d1 d2 d k1 k2 q1 q2:Nat} {a b:List Mo} (ha:Po n m1 d1 k1 q1 a) (hb:Po n m2 d2 k2 q2 b) (hm:m1 * m2≤m) (h24:m≤24) (hd:d1 + d2≤d) (h8:d≤8) (hk:k1 + k2 + m≤4000) (hq:q1 + q2≤4000) :
 ∃ p,mulR a b n=(p,0)∧gathR (mulT a b)=(p,0)∧Po n m d (k1 + k2 + m) (q1 + q2) p:=by
 have hn:=polyB_n ha.right
 have hv:∀ t ∈ mulT a b,Sm (k1 + k2) (q1 + q2) t.v:=fun t ht=>by
  obtain ⟨x,hx,y,hy,rfl⟩:=mulT_mem ht
  exact (ha.v x hx).mul (hb.v y hy)
 have he:∀ t ∈ mulT a b,Pw n d t.e:=fun t ht=>by
  obtain ⟨x,hx,y,hy,rfl⟩:=mulT_mem ht
  exact zs_pw (ha.e x hx) (hb.e y hy) hd
 obtain ⟨p,e,hp⟩:=po_of (l:=mulT a b) (n:=n) (m:=m) (deg:=d) (k:=k1 + k2) (q:=q1 + q2) (by omega) (by omega) h8 h24 (by
  rw [mulT_len];exact Nat.le_trans (Nat.mul_le_mul ha.len hb.len) hm) hv he hk hq
 refine ⟨p,?_,e,hp⟩
 have g1:=degR_ub (q:=a) (d:=d1) fun x hx=>(ha.e x hx).sum
 have g2:=degR_ub (q:=b) (d:=d2) fun x hx=>(hb.e x hx).sum
 have hok:okT (mulT a b)=true:=decide_eq_true fun t ht=>(hv t ht).ok2 (by omega) (by omega)
 unfold mulR
 rw [ha.right,hb.right,hok,decide_eq_false (show ¬ 8<degR a + degR b by omega),Bool.and_false]
 exact e
theorem wD_sm {k:Int} (h0:0≤k) (h8:k≤8):Sm 4 0 (wD k):=by
 rw [wD_val]
 exact ⟨k,rfl,by omega⟩
theorem dec_getD {e:List Int} {i j:Nat}:(dec e i).getD j 0=if i=j∧j<e.length then e.getD j 0 - 1 else e.getD j 0:=by
 unfold dec
 rw [List.getD,List.getElem?_set]
 by_cases h:i=j
 ·subst h
  by_cases h2:i<e.length
  ·simp [h2,List.getD]
  ·have:e[i]? = none:=List.getElem?_eq_none (by omega)
   simp [h2,List.getD,this]
 ·simp [h,List.getD]
theorem sum_dec:∀ {e:List Int} {i:Nat},i<e.length→(dec e i).sum=e.sum - 1
 | [],i,h=>by simp at h
 | x :: e,0,_=>by show x - 1 + e.sum=x + e.sum - 1;omega
 | x :: e,i + 1,h=>by
   have ih:=sum_dec (e:=e) (i:=i) (by simpa using h)
   show x + (dec e i).sum=x + e.sum - 1
   rw [ih];omega
theorem dec_pw {d:Nat} {e:List Int} {i:Nat} (h:Pw n d e) (hi:i<n) (h0:e.getD i 0≠0):Pw n d (dec e i):=by
 have hl:=h.len
 have hs:=sum_dec (e:=e) (i:=i) (by omega)
 have h2:=h.sum
 refine ⟨by rw [dec_len,hl],fun x hx=>?_,by omega⟩
 unfold dec at hx
 rcases List.mem_or_eq_of_mem_set hx with h3|h3
 ·exact h.nn x h3
 ·have:=h.nn (e.getD i 0) (List.mem_of_getElem? (show e[i]? = some (e.getD i 0) by simp [List.getD,List.getElem?_eq_getElem (show i<e.length by omega)]))
  omega
theorem po_dif {m d k q i:Nat} {a:List Mo} (ha:Po n m d k q a) (hi:i<n) (h24:m≤24) (h8:d≤8) (hk:k + 4 + m≤4000) (hq:q≤4000) :
 ∃ p,difR a i n=(p,0)∧gathR (difT a i)=(p,0)∧Po n m d (k + 4 + m) q p:=by
 have hn:=polyB_n ha.right
 obtain ⟨p,e,hp⟩:=po_of (l:=difT a i) (n:=n) (m:=m) (deg:=d) (k:=k + 4) (q:=q) (by omega) (by omega) h8 h24 (Nat.le_trans difT_len ha.len) (fun t ht=>by
  obtain ⟨x,hx,rfl⟩:=List.mem_map.1 ht
  obtain ⟨hx,_⟩:=List.mem_filter.1 hx
  have hp:=ha.e x hx
  have h1:i<x.e.length:=by rw [hp.len];exact hi
  have hmem:=List.mem_of_getElem? (show x.e[i]? = some (x.e.getD i 0) by simp [List.getD,List.getElem?_eq_getElem h1])
  have:=sum8_le hp.nn (by have:=hp.sum;omega) _ hmem
  exact (ha.v x hx).mul (wD_sm this.1 this.2)) (fun t ht=>by
  obtain ⟨x,hx,rfl⟩:=List.mem_map.1 ht
  obtain ⟨hx,h0⟩:=List.mem_filter.1 hx
  exact dec_pw (ha.e x hx) hi (of_decide_eq_true h0)) hk hq
 refine ⟨p,?_,e,hp⟩
 unfold difR
 rw [ha.right,decide_eq_true (show (0:Int)≤i by omega),decide_eq_true (show (i:Int)<n by omega)]
 exact e
theorem zs_comm:∀ {a b:List Int},zs a b=zs b a
 | [],[]=>rfl
 | [],_ :: _=>rfl
 | _ :: _,[]=>rfl
 | x :: a,y :: b=>by
   show (x + y) :: zs a b=(y + x) :: zs b a
   rw [zs_comm,Int.add_comm]
theorem mulT_n {m1 m2 d1 d2 k1 k2 q1 q2:Nat} {a b:List Mo} (ha:Po n m1 d1 k1 q1 a) (hb:Po n m2 d2 k2 q2 b):∀ t ∈ mulT a b,t.e.length=n:=fun t ht=>by
 obtain ⟨x,hx,y,hy,rfl⟩:=mulT_mem ht
 show (zs x.e y.e).length=n
 rw [zs_len (by rw [(ha.e x hx).len,(hb.e y hy).len]),(ha.e x hx).len]
theorem app_n {m1 m2 d1 d2 k1 k2 q1 q2:Nat} {a b:List Mo} (ha:Po n m1 d1 k1 q1 a) (hb:Po n m2 d2 k2 q2 b):∀ t ∈ a.map teM ++ b.map teM,t.e.length=n:=fun t ht=>by
 rcases List.mem_append.1 ht with h|h
 ·exact (ha.te t h).1
 ·exact (hb.te t h).1
theorem difT_n {m d k q i:Nat} {a:List Mo} (ha:Po n m d k q a):∀ t ∈ difT a i,t.e.length=n:=fun t ht=>by
 obtain ⟨x,hx,rfl⟩:=List.mem_map.1 ht
 obtain ⟨hx,_⟩:=List.mem_filter.1 hx
 show (dec x.e i).length=n
 rw [dec_len,(ha.e x hx).len]
theorem ring_is {a b c:List Mo} (ha:Po n 3 3 17 6 a) (hb:Po n 3 3 17 6 b) (hc:Po n 3 3 17 6 c) :
 ∃ bc x ab ca,addR b c n=(bc,0)∧mulR a bc n=(x,0)∧mulR a b n=(ab,0)∧mulR c a n=(ca,0)∧addR ca ab n=(x,0)∧gathR (mulT a b)=(ab,0) ∧
   Po n 6 3 23 6 bc∧Po n 18 6 58 12 x∧Po n 9 6 43 12 ab∧Po n 9 6 43 12 ca:=by
 obtain ⟨bc,a1,b1,p1⟩:=po_add hb hc (m:=6) (by decide) (by decide) (by decide) (by decide) (by decide)
 obtain ⟨x,a2,b2,p2⟩:=po_mul ha p1 (m:=18) (d:=6) (by decide) (by decide) (by decide) (by decide) (by decide) (by decide)
 obtain ⟨ab,a3,b3,p3⟩:=po_mul ha hb (m:=9) (d:=6) (by decide) (by decide) (by decide) (by decide) (by decide) (by decide)
 obtain ⟨ca,a4,b4,p4⟩:=po_mul hc ha (m:=9) (d:=6) (by decide) (by decide) (by decide) (by decide) (by decide) (by decide)
 refine ⟨bc,x,ab,ca,a1,a2,a3,a4,?_,b3,p1,p2,p3,p4⟩
 rw [add_is p4.right p3.right,← b2]
 refine gathR_eq (app_n p4 p3) (mulT_n ha p1) fun g=>?_
 rw [sumG_app,gathR_sum (mulT_n hc ha) b4,gathR_sum (mulT_n ha hb) b3,sumG_mulT,sumG_mulT,sumG_mulT,sumG_swap]
 rw [sumG_congr (l:=a.map teM) (g:=fun e=>sumG (fun f=>g (zs e f)) (bc.map teM)) (h:=fun e=>sumG (fun f=>g (zs f e)) (c.map teM) + sumG (fun f=>g (zs e f)) (b.map teM)) fun t _=>by
  rw [gathR_sum (app_n hb hc) b1,sumG_app,sumG_congr (l:=c.map teM) (g:=fun f=>g (zs t.e f)) (h:=fun f=>g (zs f t.e)) fun y _=>by rw [zs_comm]]
  grind]
 rw [sumG_add]
theorem powD_add {x:Dyadic} {k:Nat}:∀ {j:Nat},powD x (k + j)=powD x k * powD x j
 | 0=>by show powD x k=powD x k * 1;grind
 | j + 1=>by
   show powD x (k + j) * x=powD x k * (powD x j * x)
   rw [powD_add];grind
theorem monV_c {c:Dyadic} {xs:List Nu} {e:List Int}:∀ i,monV c xs e i=c * monV 1 xs e i
 | 0=>by show c=c * 1;grind
 | i + 1=>by
   show monV c xs e i * _=c * (monV 1 xs e i * _)
   rw [monV_c i];grind
theorem monV_zs {xs:List Nu} {e f:List Int} {d1 d2:Nat} (he:Pw n d1 e) (hf:Pw n d2 f):∀ i,i≤n→monV 1 xs (zs e f) i=monV 1 xs e i * monV 1 xs f i
 | 0,_=>by show (1:Dyadic)=1 * 1;grind
 | i + 1,hi=>by
   have ih:=monV_zs (xs:=xs) he hf i (by omega)
   have l1:=he.len
   have l2:=hf.len
   have g:=zs_get (a:=e) (b:=f) (k:=i) (by omega) (by omega)
   have e1:=he.nn (e.getD i 0) (List.mem_of_getElem? (show e[i]? = some (e.getD i 0) by simp [List.getD,List.getElem?_eq_getElem (show i<e.length by omega)]))
   have e2:=hf.nn (f.getD i 0) (List.mem_of_getElem? (show f[i]? = some (f.getD i 0) by simp [List.getD,List.getElem?_eq_getElem (show i<f.length by omega)]))
   have hz:((zs e f).getD i 0).toNat=(e.getD i 0).toNat + (f.getD i 0).toNat:=by
    have:(zs e f).getD i 0=e.getD i 0 + f.getD i 0:=by rw [List.getD,g];rfl
    rw [this];omega
   show monV 1 xs (zs e f) i * powD _ ((zs e f).getD i 0).toNat=monV 1 xs e i * powD _ _ * (monV 1 xs f i * powD _ _)
   rw [ih,hz,powD_add];grind
theorem valV_sum {q:List Mo} {xs:List Nu}:∀ k,k≤q.length→valV q xs k=sumG (fun e=>monV 1 xs e xs.length) ((q.take k).map teM)
 | 0,_=>rfl
 | k + 1,hk=>by
   have ih:=valV_sum (q:=q) (xs:=xs) k (by omega)
   show valV q xs k + monV (gM q k).c.val xs (gM q k).e xs.length=_
   rw [ih,List.take_add_one,gM_at (by omega),Option.toList_some,List.map_append,sumG_app,monV_c]
   show _=_ + (monV 1 xs (gM q k).e xs.length * (gM q k).c.val + 0)
   grind
theorem valV_all {q:List Mo} {xs:List Nu}:valV q xs q.length=sumG (fun e=>monV 1 xs e xs.length) (q.map teM):=by
 rw [valV_sum _ (Nat.le_refl _),List.take_length]
theorem valV_mul {m1 m2 d1 d2 k1 k2 q1 q2:Nat} {a b ab:List Mo} {xs:List Nu} (ha:Po n m1 d1 k1 q1 a) (hb:Po n m2 d2 k2 q2 b) (h:gathR (mulT a b)=(ab,0)) (hx:xs.length=n):valV ab xs ab.length=valV a xs a.length * valV b xs b.length:=by
 rw [valV_all,valV_all,valV_all,gathR_sum (mulT_n ha hb) h,sumG_mulT]
 rw [sumG_congr (l:=a.map teM) (h:=fun e=>sumG (fun e=>monV 1 xs e xs.length) (b.map teM) * monV 1 xs e xs.length) fun t ht=>by
  rw [sumG_congr (l:=b.map teM) (h:=fun f=>monV 1 xs t.e xs.length * monV 1 xs f xs.length) fun y hy=>monV_zs (ha.te t ht).2.1 (hb.te y hy).2.1 _ (by omega),sumG_mul]
  grind,sumG_mul]
 grind
theorem wD_add {x y:Int}:wD (x + y)=wD x + wD y:=by
 rw [wD_val,wD_val,wD_val]
 exact (owp_add x y 0).symm
theorem dec_zs:∀ {a b:List Int} {i:Nat},i<a.length→i<b.length→dec (zs a b) i=zs (dec a i) b∧dec (zs a b) i=zs a (dec b i)
 | [],b,i,h,_=>by simp at h
 | x :: a,[],i,_,h=>by simp at h
 | x :: a,y :: b,0,_,_=>by
   show (x + y - 1) :: zs a b=(x - 1 + y) :: zs a b∧(x + y - 1) :: zs a b=(x + (y - 1)) :: zs a b
   rw [show x + y - 1=x - 1 + y by omega,show x - 1 + y=x + (y - 1) by omega];exact ⟨rfl,rfl⟩
 | x :: a,y :: b,i + 1,ha,hb=>by
   have ih:=dec_zs (a:=a) (b:=b) (i:=i) (by simpa using ha) (by simpa using hb)
   show (x + y) :: dec (zs a b) i=(x + y) :: zs (dec a i) b∧(x + y) :: dec (zs a b) i=(x + y) :: zs a (dec b i)
   exact ⟨by rw [ih.1],by rw [ih.2]⟩
theorem derive_is {a b:List Mo} {i j:Nat} (ha:Po n 4 4 18 6 a) (hb:Po n 4 4 18 6 b) (hi:i<n) (hj:j<n) :
 ∃ ab x da db u v dj dij,mulR a b n=(ab,0)∧difR ab i n=(x,0)∧difR a i n=(da,0)∧difR b i n=(db,0)∧mulR da b n=(u,0)∧mulR a db n=(v,0)∧addR u v n=(x,0) ∧
   difR da j n=(dij,0)∧difR a j n=(dj,0)∧difR dj i n=(dij,0)∧WfM ab∧WfM x∧WfM da∧WfM db∧WfM u∧WfM v∧WfM dj∧WfM dij:=by
 obtain ⟨ab,a1,b1,p1⟩:=po_mul ha hb (m:=16) (d:=8) (by decide) (by decide) (by decide) (by decide) (by decide) (by decide)
 obtain ⟨x,a2,b2,p2⟩:=po_dif p1 hi (by decide) (by decide) (by decide) (by decide)
 obtain ⟨da,a3,b3,p3⟩:=po_dif ha hi (by decide) (by decide) (by decide) (by decide)
 obtain ⟨db,a4,b4,p4⟩:=po_dif hb hi (by decide) (by decide) (by decide) (by decide)
 obtain ⟨u,a5,b5,p5⟩:=po_mul p3 hb (m:=16) (d:=8) (by decide) (by decide) (by decide) (by decide) (by decide) (by decide)
 obtain ⟨v,a6,b6,p6⟩:=po_mul ha p4 (m:=16) (d:=8) (by decide) (by decide) (by decide) (by decide) (by decide) (by decide)
 obtain ⟨dij,a7,b7,p7⟩:=po_dif p3 hj (by decide) (by decide) (by decide) (by decide)
 obtain ⟨dj,a8,b8,p8⟩:=po_dif ha hj (by decide) (by decide) (by decide) (by decide)
 obtain ⟨dji,a9,b9,p9⟩:=po_dif p8 hi (by decide) (by decide) (by decide) (by decide)
 have h4:n≤4:=by have:=polyB_n ha.right;omega
 have hx:addR u v n=(x,0):=by
  rw [add_is p5.right p6.right,← b2]
  refine gathR_eq (app_n p5 p6) (difT_n p1) fun g=>?_
  rw [sumG_app,gathR_sum (mulT_n p3 hb) b5,gathR_sum (mulT_n ha p4) b6,sumG_mulT,sumG_mulT,gathR_sum (difT_n ha) b3,sumG_difT,sumG_difT,gathR_sum (mulT_n ha hb) b1,sumG_mulT]
  rw [sumG_congr (l:=a.map teM) (g:=fun e=>sumG (fun f=>g (zs e f)) (db.map teM)) (h:=fun e=>sumG (fun f=>wD (f.getD i 0) * g (zs e (dec f i))) (b.map teM)) fun t _=>by
   rw [gathR_sum (difT_n hb) b4,sumG_difT]]
  rw [← sumG_add]
  refine sumG_congr fun t ht=>?_
  rw [← sumG_mul,← sumG_add]
  refine sumG_congr fun y hy=>?_
  have l1:=(ha.te t ht).1
  have l2:=(hb.te y hy).1
  obtain ⟨e1,e2⟩:=dec_zs (a:=t.e) (b:=y.e) (i:=i) (by omega) (by omega)
  have e3:(zs t.e y.e).getD i 0=t.e.getD i 0 + y.e.getD i 0:=by rw [List.getD,zs_get (by omega) (by omega)];rfl
  rw [e3,wD_add,← e1,← e2];grind
 have hd:dji=dij:=by
  have:gathR (difT dj i)=gathR (difT da j):=by
   refine gathR_eq (difT_n p8) (difT_n p3) fun g=>?_
   rw [sumG_difT,sumG_difT,gathR_sum (difT_n ha) b8,gathR_sum (difT_n ha) b3,sumG_difT,sumG_difT]
   refine sumG_congr fun t ht=>?_
   by_cases h:i=j
   ·rw [h]
   ·rw [dec_getD,dec_getD,if_neg (fun h2=>h h2.1.symm),if_neg (fun h2=>h h2.1)]
    have:dec (dec t.e j) i=dec (dec t.e i) j:=by
     show List.set (dec t.e j) i ((dec t.e j).getD i 0 - 1)=List.set (dec t.e i) j ((dec t.e i).getD j 0 - 1)
     rw [dec_getD,dec_getD,if_neg (fun h2=>h h2.1.symm),if_neg (fun h2=>h h2.1)]
     exact (List.set_comm _ _ (fun h2=>h h2.symm))
    rw [this];grind
  rw [b9,b7] at this
  injection this
 subst hd
 exact ⟨ab,x,da,db,u,v,dj,dji,a1,a2,a3,a4,a5,a6,hx,a7,a8,a9,p1.wf (by decide) (by decide) (by decide) h4,p2.wf (by decide) (by decide) (by decide) h4,p3.wf (by decide) (by decide) (by decide) h4,
  p4.wf (by decide) (by decide) (by decide) h4,p5.wf (by decide) (by decide) (by decide) h4,p6.wf (by decide) (by decide) (by decide) h4,p8.wf (by decide) (by decide) (by decide) h4,p7.wf (by decide) (by decide) (by decide) h4⟩
end Go.V
namespace Go.V
open Go Go.RowKit Go.Proofs
theorem values_is {n:Nat} {a b ab:List Mo} {m:List Dyadic} (ha:Po n 3 3 17 6 a) (hb:Po n 3 3 17 6 b) (hab:Po n 9 6 43 12 ab) (h:gathR (mulT a b)=(ab,0)) (hm:m.length=n) (hx:∀ x ∈ m,Sm 14 6 x) :
 ∃ u v,OkD u∧OkD v∧OkD (u * v)∧atR a (m.map nuOf)=(nuOf u,0)∧atR b (m.map nuOf)=(nuOf v,0)∧atR ab (m.map nuOf)=(nuOf (u * v),0)∧WfU (m.map nuOf):=by
 have hn:=polyB_n ha.right
 have hx2:∀ x ∈ m,Sm 18 9 x:=fun x hxm=>((hx x hxm).lift 3).mono (by decide)
 have sq:∀ {p:List Mo},Po n 3 3 17 6 p→SmQ m.length p:=fun hp=>⟨fun x hxm=>by
  obtain ⟨d,h1,h2⟩:=hp.c x hxm
  exact ⟨d,h1,h2.mono (by decide)⟩,fun x hxm=>by
  have:=hp.e x hxm
  exact ⟨by rw [this.len,hm],this.nn,by have:=this.sum;omega⟩,by have:=hp.len;omega⟩
 have ea:=atR_is (by rw [hm];exact ha.right) (sq ha) hx2 (by omega)
 have eb:=atR_is (by rw [hm];exact hb.right) (sq hb) hx2 (by omega)
 have sa:=valV_smS (sq ha) hx2 (by omega) a.length (Nat.le_refl _)
 have sb:=valV_smS (sq hb) hx2 (by omega) b.length (Nat.le_refl _)
 have la:=ha.len
 have lb:=hb.len
 have ho:=(sa.mul sb).ok2 (by omega) (by decide)
 have hmul:=valV_mul ha hb h (xs:=m.map nuOf) (by rw [List.length_map,hm])
 have hall:allU (m.map nuOf)=true:=decide_eq_true fun y hy=>by
  obtain ⟨x,hxm,rfl⟩:=List.mem_map.1 hy
  rw [rightB_nuOf];exact decide_eq_true ((hx2 x hxm).ok2 (by decide) (by decide))
 refine ⟨_,_,ea.2,eb.2,ho,ea.1,eb.1,?_,⟨by rw [List.length_map];omega,fun y hy=>?_⟩⟩
 ·unfold atR
  rw [List.length_map,hm,hab.right,hall,hmul]
  exact numR_ok ho
 ·obtain ⟨x,hxm,rfl⟩:=List.mem_map.1 hy
  exact ((hx2 x hxm).ok2 (by decide) (by decide)).sz.wl
set_option maxHeartbeats 8000000 in
theorem p_PolyRings {w:List Nat} (hb:B64 w):PC Tryz.prog 8 [W64 w] fun d=>d=bl true:=by
 have pK:=p_known10
 refine PB (rs:=[.tmp 2]) Tryz.func8 ?_
 repeat (first|(with_reducible first|refine pv_seq fun K hK=>?_|((first|refine hK _ _ ?_|(clear hK;refine hK _ _ ?_)|(clear hK;clear hK;refine hK _ _ ?_));clear hK;try clear K))| refine W ?_|exact Z|with_reducible intro b)
 refine p_Of (fun b0=>?_)
 repeat (first|(with_reducible first|refine pv_seq fun K hK=>?_|((first|refine hK _ _ ?_|(clear hK;refine hK _ _ ?_)|(clear hK;clear hK;refine hK _ _ ?_));clear hK;try clear K))| refine W0 ?_|exact Z|with_reducible intro b)
 refine p_dDim (i:=0) (by simp -implicitDefEqProofs only [updS,upS,if_true];rfl) hb (by omega) (fun n hn1 hn4=>?_)
 repeat (first|(with_reducible first|refine pv_seq fun K hK=>?_|((first|refine hK _ _ ?_|(clear hK;refine hK _ _ ?_)|(clear hK;clear hK;refine hK _ _ ?_));clear hK;try clear K))| refine W0 ?_|exact Z|with_reducible intro b)
 refine p_dPoly (n:=n) (most:=3) (deg:=3) (i:=1) (by simp -implicitDefEqProofs only [updS,upS,if_true];rfl) hb (by omega) hn1 hn4 (by decide) (by decide) (fun a j1 ha hj1=>?_)
 unfold MM
 repeat (first|(with_reducible first|refine pv_seq fun K hK=>?_|((first|refine hK _ _ ?_|(clear hK;refine hK _ _ ?_)|(clear hK;clear hK;refine hK _ _ ?_));clear hK;try clear K))| refine W0 ?_|exact Z|with_reducible intro b)
 refine p_dPoly (n:=n) (most:=3) (deg:=3) (i:=j1) (by simp -implicitDefEqProofs only [updS_apply,if_true,eq_self];try rfl) hb (by omega) hn1 hn4 (by decide) (by decide) (fun b j2 hbb hj2=>?_)
 unfold MM
 repeat (first|(with_reducible first|refine pv_seq fun K hK=>?_|((first|refine hK _ _ ?_|(clear hK;refine hK _ _ ?_)|(clear hK;clear hK;refine hK _ _ ?_));clear hK;try clear K))| refine W0 ?_|exact Z|with_reducible intro b)
 refine p_dPoly (n:=n) (most:=3) (deg:=3) (i:=j2) (by simp -implicitDefEqProofs only [updS_apply,if_true,eq_self];try rfl) hb (by omega) hn1 hn4 (by decide) (by decide) (fun c j3 hc hj3=>?_)
 unfold MM
 have pa:=ha.po
 have pb:=hbb.po
 have pc:=hc.po
 clear ha hbb hc
 obtain ⟨bc,x,ab,ca,e1,e2,e3,e4,e5,gm,t1,t2,t3,t4⟩:=ring_is pa pb pc
 have wa:=pa.wf (by decide) (by decide) (by decide) hn4
 have wb:=pb.wf (by decide) (by decide) (by decide) hn4
 have wc:=pc.wf (by decide) (by decide) (by decide) hn4
 have w1:=t1.wf (by decide) (by decide) (by decide) hn4
 have w2:=t2.wf (by decide) (by decide) (by decide) hn4
 have w3:=t3.wf (by decide) (by decide) (by decide) hn4
 have w4:=t4.wf (by decide) (by decide) (by decide) hn4
 have q1:=p_pAdd (n:=(n:Int)) wb wc
 have q2:=p_pMul (n:=(n:Int)) wa w1
 have q3:=p_pMul (n:=(n:Int)) wa wb
 have q4:=p_pMul (n:=(n:Int)) wc wa
 have q5:=p_pAdd (n:=(n:Int)) w4 w3
 have q6:=p_pSame w2 w2
 have q7:=p_pRight (n:=(n:Int)) w2
 rw [e1] at q1
 rw [e2] at q2
 rw [e3] at q3
 rw [e4] at q4
 rw [e5] at q5
 rw [sameP_self] at q6
 rw [t2.right] at q7
 have hval:=fun m hm hx=>values_is (m:=m) pa pb t3 gm hm hx
 clear e1 e2 e3 e4 e5 gm t1 t2 t3 t4 pa pb pc w1 w2 w4 wc
 unfold MM LM at q1 q2 q3 q4 q5
 unfold MM at q6 q7
 repeat (first|with_reducible refine pv_stopQ 14 ?_|(with_reducible first|refine pv_seq fun K hK=>?_|((first|refine hK _ _ ?_|(clear hK;refine hK _ _ ?_)|(clear hK;clear hK;refine hK _ _ ?_));clear hK;try clear K))| refine W ?_|exact Z|with_reducible intro b)
 refine ⟨fun K q0 hC=>?_⟩
 have J:∀ (e:DEnv) (S:Store) (m:List Dyadic),m.length=n→(∀ x ∈ m,Sm 14 6 x)→e 5=.g (eS eM a)→e 6=.g (eS eM b)→e 12=.g (eS eM ab)→e 18=.g (eS eU (m.map nuOf))→K e S:=by
  as_aux_lemma =>
  intro e S m hm hx g5 g6 g12 g18
  refine q0 _ _ ?_
  clear q0 hC
  obtain ⟨u,v,ou,ov,ouv,f1,f2,f3,wu⟩:=hval m hm hx
  have r1:=p_pAt wa wu
  have r2:=p_pAt wb wu
  have r3:=p_pAt w3 wu
  have r4:=p_nMulD ou ov
  have r5:=p_nSameD (a:=u * v) (b:=u * v) ouv
  rw [f1] at r1
  rw [f2] at r2
  rw [f3] at r3
  rw [numR_ok ouv] at r4
  rw [decide_eq_true rfl] at r5
  clear f1 f2 f3 hval
  generalize nuOf (u * v)=z at *
  generalize nuOf u=u at *
  generalize nuOf v=v at *
  obtain ⟨n1,m1,w1⟩:=u
  obtain ⟨n2,m2,w2⟩:=v
  obtain ⟨n3,m3,w3⟩:=z
  simp only [MM,UU,NE,NU] at r1 r2 r3 r4 r5
  have ft:=And.intro g5 (And.intro g6 (And.intro g12 g18))
  exact Wk
 clear q0 hval
 obtain ⟨I,mk,el⟩:=hide fun e S=>∃ (t:Nat) (m:List Dyadic),t≤n∧m.length=t∧(∀ x ∈ m,Sm 14 6 x)∧e 3=.ptr (.r 0 0) b0 0 0 2∧e 4=i64 n∧e 5=.g (eS eM a)∧e 6=.g (eS eM b)∧e 12=.g (eS eM ab)∧e 19=i64 t∧RowD S (.l 117) 3 (e 18) (rS eU (m.map nuOf))∧S (.r 0 0)=some ⟨b0,2,0,[[W64 w,i64 ((j3 + t:Nat):Int)]]⟩
 repeat (first|(with_reducible first|refine pv_seq fun K hK=>?_|((first|refine hK _ _ ?_|(clear hK;refine hK _ _ ?_)|(clear hK;clear hK;refine hK _ _ ?_));clear hK;try clear K))| refine W0 ?_|exact Z|with_reducible intro b)
 refine pv_loop I (fun e _=>n - (intD (e 19)).toNat) ?_ ?_
 ·exact mk _ _ ⟨0,[],Nat.zero_le _,rfl,fun x hx=>(by cases hx),Zr,Zr,Zr,Zr,Zr,Zr,.inl ⟨Zr,rfl⟩,by simp only [updS_apply];rfl⟩
 ·intro e S hI
  obtain ⟨t,m,ht,hm,hx,g3,g4,g5,g6,g12,g19,hw,s0⟩:=el e S hI
  clear el hI
  have ft:=And.intro g3 (And.intro g4 (And.intro g5 (And.intro g6 (And.intro g12 g19))))
  repeat (first|(with_reducible first|refine pv_seq fun K hK=>?_|((first|refine hK _ _ ?_|(clear hK;refine hK _ _ ?_)|(clear hK;clear hK;refine hK _ _ ?_));clear hK;try clear K))| refine W0 ?_|exact Z|with_reducible intro b)
  refine pv_cdD (fun ht1=>?_) (fun ht1=>?_)
  ·repeat (first|(with_reducible first|refine pv_seq fun K hK=>?_|((first|refine hK _ _ ?_|(clear hK;refine hK _ _ ?_)|(clear hK;clear hK;refine hK _ _ ?_));clear hK;try clear K))| refine W0 ?_|exact Z|with_reducible intro b)
   refine p_smallD (i:=j3 + t) s0 hb (by omega) fun d hd _=>?_
   have hnew:=rS_u (l:=m) (x:=d)
   generalize nuOf d=q at *
   obtain ⟨n1,e1,w1⟩:=q
   repeat (first|(with_reducible first|refine pv_seq fun K hK=>?_|((first|refine hK _ _ ?_|(clear hK;refine hK _ _ ?_)|(clear hK;clear hK;refine hK _ _ ?_));clear hK;try clear K))| refine W0 ?_|exact Z|with_reducible intro b)
   refine RowD.appL (hw.up (updS_ne (by simp))) (by decide) rfl (by simp [D.one,W64]) ?_ ?_ fun d' S3 hr3 hS3=>?_
   ·rw [rS_len];simp;omega
   ·rw [rS_len];simp;omega
   repeat (first|(with_reducible first|refine pv_seq fun K hK=>?_|((first|refine hK _ _ ?_|(clear hK;refine hK _ _ ?_)|(clear hK;clear hK;refine hK _ _ ?_));clear hK;try clear K))| refine W0 ?_|exact Z|with_reducible intro b)
   refine ⟨mk _ _ ⟨t + 1,m ++ [d],by omega,by simp [hm],fun x hxm=>?_,Zr,Zr,Zr,Zr,Zr,Zr,by rw [← hnew];exact hr3,?_⟩,by simp only [intD];omega⟩
   ·rcases List.mem_append.1 hxm with h|h
    ·exact hx x h
    ·rw [List.mem_singleton.1 h];exact hd
   ·rw [hS3 _ (by decide)];simp only [updS_apply];rfl
  ·obtain rfl:t=n:=by omega
   repeat (first|(with_reducible first|refine pv_seq fun K hK=>?_|((first|refine hK _ _ ?_|(clear hK;refine hK _ _ ?_)|(clear hK;clear hK;refine hK _ _ ?_));clear hK;try clear K))| refine W0 ?_|exact Z|with_reducible intro b)
   refine hC _ _ (Recast.rowSlot 18 hw fun S2 hS2=>?_)
   exact J _ _ m hm hx g5 g6 g12 rfl
end Go.V
namespace Go.V
open Go Go.RowKit Go.Proofs
set_option maxHeartbeats 8000000 in
theorem p_PolyDerives {w:List Nat} (hb:B64 w):PC Tryz.prog 9 [W64 w] fun d=>d=bl true:=by
 have pK:=p_known10
 refine PB (rs:=[.tmp 2]) Tryz.func9 ?_
 repeat (first|(with_reducible first|refine pv_seq fun K hK=>?_|((first|refine hK _ _ ?_|(clear hK;refine hK _ _ ?_)|(clear hK;clear hK;refine hK _ _ ?_));clear hK;try clear K))| refine W ?_|exact Z|with_reducible intro b)
 refine p_Of (fun b0=>?_)
 repeat (first|(with_reducible first|refine pv_seq fun K hK=>?_|((first|refine hK _ _ ?_|(clear hK;refine hK _ _ ?_)|(clear hK;clear hK;refine hK _ _ ?_));clear hK;try clear K))| refine W0 ?_|exact Z|with_reducible intro b)
 refine p_dDim (i:=0) (by simp -implicitDefEqProofs only [updS,upS,if_true];rfl) hb (by omega) (fun n hn1 hn4=>?_)
 repeat (first|(with_reducible first|refine pv_seq fun K hK=>?_|((first|refine hK _ _ ?_|(clear hK;refine hK _ _ ?_)|(clear hK;clear hK;refine hK _ _ ?_));clear hK;try clear K))| refine W0 ?_|exact Z|with_reducible intro b)
 refine p_dPoly (n:=n) (most:=4) (deg:=4) (i:=1) (by simp -implicitDefEqProofs only [updS,upS,if_true];rfl) hb (by omega) hn1 hn4 (by decide) (by decide) (fun a j1 ha hj1=>?_)
 unfold MM
 repeat (first|(with_reducible first|refine pv_seq fun K hK=>?_|((first|refine hK _ _ ?_|(clear hK;refine hK _ _ ?_)|(clear hK;clear hK;refine hK _ _ ?_));clear hK;try clear K))| refine W0 ?_|exact Z|with_reducible intro b)
 refine p_dPoly (n:=n) (most:=4) (deg:=4) (i:=j1) (by simp -implicitDefEqProofs only [updS_apply,if_true,eq_self];try rfl) hb (by omega) hn1 hn4 (by decide) (by decide) (fun b j2 hbb hj2=>?_)
 unfold MM
 repeat (first|(with_reducible first|refine pv_seq fun K hK=>?_|((first|refine hK _ _ ?_|(clear hK;refine hK _ _ ?_)|(clear hK;clear hK;refine hK _ _ ?_));clear hK;try clear K))| refine W0 ?_|exact Z|with_reducible intro b)
 refine p_dN (n:=n) (i:=j2) (by simp -implicitDefEqProofs only [updS_apply,if_true,eq_self];try rfl) hb (by omega) (by omega) (by omega) (fun i hi=>?_)
 repeat (first|(with_reducible first|refine pv_seq fun K hK=>?_|((first|refine hK _ _ ?_|(clear hK;refine hK _ _ ?_)|(clear hK;clear hK;refine hK _ _ ?_));clear hK;try clear K))| refine W0 ?_|exact Z|with_reducible intro b)
 refine p_dN (n:=n) (i:=j2 + 1) (by simp -implicitDefEqProofs only [updS_apply,if_true,eq_self];try rfl) hb (by omega) (by omega) (by omega) (fun j hj=>?_)
 have pa:=ha.po
 have pb:=hbb.po
 obtain ⟨ab,x,da,db,u,v,dj,dij,e1,e2,e3,e4,e5,e6,e7,e8,e9,e10,w1,w2,w3,w4,w5,w6,w7,w8⟩:=derive_is (i:=i) (j:=j) pa pb hi hj
 have wa:=pa.wf (by decide) (by decide) (by decide) hn4
 have wb:=pb.wf (by decide) (by decide) (by decide) hn4
 have q1:=p_pMul (n:=(n:Int)) wa wb
 have q2:=p_pDiff (i:=(i:Int)) (n:=(n:Int)) w1
 have q3:=p_pDiff (i:=(i:Int)) (n:=(n:Int)) wa
 have q4:=p_pDiff (i:=(i:Int)) (n:=(n:Int)) wb
 have q5:=p_pMul (n:=(n:Int)) w3 wb
 have q6:=p_pMul (n:=(n:Int)) wa w4
 have q7:=p_pAdd (n:=(n:Int)) w5 w6
 have q8:=p_pSame w2 w2
 have r1:=p_pDiff (i:=(j:Int)) (n:=(n:Int)) w3
 have r2:=p_pDiff (i:=(j:Int)) (n:=(n:Int)) wa
 have r3:=p_pDiff (i:=(i:Int)) (n:=(n:Int)) w7
 have r4:=p_pSame w8 w8
 rw [e1] at q1
 rw [e2] at q2
 rw [e3] at q3
 rw [e4] at q4
 rw [e5] at q5
 rw [e6] at q6
 rw [e7] at q7
 rw [e8] at r1
 rw [e9] at r2
 rw [e10] at r3
 rw [sameP_self] at q8 r4
 clear e1 e2 e3 e4 e5 e6 e7 e8 e9 e10 w1 w2 w3 w4 w5 w6 w7 w8 wa wb pa pb ha hbb
 unfold MM LM at q1 q2 q3 q4 q5 q6 q7 r1 r2 r3
 unfold MM at q8 r4
 exact Wk
end Go.V
