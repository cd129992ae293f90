/- Which polynomials are known; which lists are light. Which lists of monomials are light. What sums, products and derivatives answer is well-formed. The statements PolyRights, PolyReckons. The statement PolyValues. The deck's dimensions. The statement PolyMakes. Ranges over small boxes, plain: no step goes over, each value is within, parts give parts. The statement PolyHolds. Terms by sums over them, plain: what is gathered is told by the sums alone. Sums, products and derivatives of small polynomials. Small polynomials, plain: sums, products, derivatives are there, and their laws. The statement PolyRings. The statement PolyDerives. The document's polynomials as rows of the caller's own. The statement PolyDrawn. -/
import Derived.Test.YtgapammfekmihaaGreatDoorZcI4
set_option linter.unusedSimpArgs false
set_option linter.unusedVariables false
set_option maxRecDepth 100000
namespace Go.V
open Go Go.RowKit Go.Proofs
def k1:Nu:=⟨false,0,[1]⟩
def k2:Nu:=⟨false,1,[1]⟩
def kIn:List Mo:=[⟨k1,[0]⟩,⟨k1,[2]⟩,⟨k1,[2]⟩]
def kP:List Mo:=[⟨k2,[2]⟩,⟨k1,[0]⟩]
theorem kn_mk:pmkR kIn 1=(kP,0):=by kernel_rfl
def kQ:List Mo:=[⟨⟨false,2,[1]⟩,[1]⟩]
def kS:List Mo:=[⟨k2,[2]⟩,⟨⟨false,2,[1]⟩,[1]⟩,⟨k1,[0]⟩]
def kT:List Mo:=[⟨⟨false,3,[1]⟩,[3]⟩,⟨⟨false,2,[1]⟩,[1]⟩]
def kV:Nu:=⟨false,0,[9]⟩
theorem kn_dif:difR kP 0 1=(kQ,0):=by kernel_rfl
theorem kn_add:addR kP kQ 1=(kS,0):=by kernel_rfl
theorem kn_mul:mulR kP kQ 1=(kT,0):=by kernel_rfl
theorem kn_at:atR kP [k2]=(kV,0):=by kernel_rfl
theorem kn_rg:rgR kP [⟨nu0,k2⟩] 16=(⟨k1,kV⟩,0):=by kernel_rfl
theorem kn_deg:degR kT=3:=by kernel_rfl
theorem kn_poly:polyB kP 1=true:=by kernel_rfl
theorem kn_same:sameP kP kP=true:=by kernel_rfl
theorem kn_wfP:WfM kP:=⟨by decide,fun m hm=>by
 simp only [kP,List.mem_cons,List.not_mem_nil,or_false] at hm
 rcases hm with rfl|rfl<;>exact ⟨⟨by decide,by decide⟩,by decide⟩⟩
theorem kn_wfQ:WfM kQ:=⟨by decide,fun m hm=>by
 simp only [kQ,List.mem_cons,List.not_mem_nil,or_false] at hm
 subst hm;exact ⟨⟨by decide,by decide⟩,by decide⟩⟩
theorem kn_wfT:WfM kT:=⟨by decide,fun m hm=>by
 simp only [kT,List.mem_cons,List.not_mem_nil,or_false] at hm
 rcases hm with rfl|rfl<;>exact ⟨⟨by decide,by decide⟩,by decide⟩⟩
theorem kn_wfI:WfM kIn:=⟨by decide,fun m hm=>by
 simp only [kIn,List.mem_cons,List.not_mem_nil,or_false] at hm
 rcases hm with rfl|rfl|rfl<;>exact ⟨⟨by decide,by decide⟩,by decide⟩⟩
theorem kn_wl (x:Nu) (h:B64 x.w:=by decide) (h2:x.w.length≤65536:=by decide):Wl 65536 x:=⟨h,h2⟩
set_option maxHeartbeats 4000000 in
theorem p_known10:PC Tryz.prog 11 [] fun d=>d=bl true:=by
 have pMk:=p_pMake (q:=kIn) (n:=1) kn_wfI (by decide)
 rw [kn_mk] at pMk
 have pD:=p_pDiff (q:=kP) (i:=0) (n:=1) kn_wfP
 rw [kn_dif] at pD
 have pA:=p_pAdd (a:=kP) (b:=kQ) (n:=1) kn_wfP kn_wfQ
 rw [kn_add] at pA
 have pM:=p_pMul (a:=kP) (c:=kQ) (n:=1) kn_wfP kn_wfQ
 rw [kn_mul] at pM
 have pV:=p_pAt (q:=kP) (xs:=[k2]) kn_wfP ⟨by decide,fun x hx=>by rw [List.mem_singleton.1 hx];exact kn_wl _⟩
 rw [kn_at] at pV
 have pR:=p_pRange (q:=kP) (bx:=[⟨nu0,k2⟩]) (p:=16) kn_wfP ⟨by decide,fun x hx=>by rw [List.mem_singleton.1 hx];exact ⟨kn_wl _,kn_wl _⟩⟩
 rw [kn_rg] at pR
 have pW:=p_hWords (xs:=[9]) (ys:=[9]) (by decide) (by decide) (by decide) (by decide)
 rw [decide_eq_true rfl] at pW
 have pG:=p_pDegree kn_wfT
 rw [kn_deg] at pG
 have pRt:=p_pRight (n:=1) kn_wfP
 rw [kn_poly] at pRt
 have pS:=p_pSame kn_wfP kn_wfP
 rw [kn_same] at pS
 have pH:=p_HasI (k:=65536) (a:=⟨k1,kV⟩) (x:=kV) ⟨kn_wl _,kn_wl _⟩ (by decide)
 rw [show hasR ⟨k1,kV⟩ kV=true by kernel_rfl] at pH
 have pH1:=p_HasI (k:=65536) (a:=⟨k1,kV⟩) (x:=k1) ⟨kn_wl _,kn_wl _⟩ (by decide)
 rw [show hasR ⟨k1,kV⟩ k1=true by kernel_rfl] at pH1
 have hP:((kP.length:Int)=2)=True:=eq_true rfl
 have hP0:kP[0]? = some ⟨⟨false,1,[1]⟩,[2]⟩:=rfl
 have hPl:0<kP.length:=by decide
 have hQl:0<kQ.length:=by decide
 have hQ:((kQ.length:Int)=1)=True:=eq_true rfl
 have hQ0:kQ[0]? = some ⟨⟨false,2,[1]⟩,[1]⟩:=rfl
 have hS:((kS.length:Int)=3)=True:=eq_true rfl
 have hT:((kT.length:Int)=2)=True:=eq_true rfl
 simp only [k1,k2,kV,nu0,NE,NU,LM,MM,II,UU,IE,IV] at pMk pD pA pM pV pR pG pRt pS pH pH1
 refine PB (rs:=[.tmp 0]) Tryz.func11 ?_
 have ft:=And.intro hP (And.intro hP0 (And.intro hQ (And.intro hQ0 (And.intro hS hT))))
 repeat (first|with_reducible refine pv_stop 1 ?_|(with_reducible first|refine pv_seq fun K hK=>?_|((first|refine hK _ _ ?_|(clear hK;refine hK _ _ ?_)|(clear hK;clear hK;refine hK _ _ ?_));clear hK;try clear K))| refine W ?_|exact Z|with_reducible intro b)
 refine ⟨fun K q hC=>?_⟩
 repeat (first|(with_reducible first|refine pv_seq fun K hK=>?_|((first|refine hK _ _ ?_|(clear hK;refine hK _ _ ?_)|(clear hK;clear hK;refine hK _ _ ?_));clear hK;try clear K))| refine W0 ?_|exact Z|with_reducible intro b)
 refine hC _ _ (Recast.join (Recast.frzCell (k2:=.l 1) (k:=.l 15) (by repeat first|exact updS_at|refine (updS_ne (by decide)).trans ?_) 0 2 rfl rfl (by decide) (by repeat first|exact updS_at|refine (updS_ne (by decide)).trans ?_) (gs:=[[.lit (.int .u64 1)]]) rfl (by decide) (Recast.frzCell (k2:=.l 2) (k:=.l 17) (by repeat first|exact updS_at|refine (updS_ne (by decide)).trans ?_) 0 2 rfl rfl (by decide) (by repeat first|exact updS_at|refine (updS_ne (by decide)).trans ?_) (gs:=[[.lit (.int .u64 1)]]) rfl (by decide) ?_)))
 rw [show G.sl [[G.lit (.int .u64 1)]]=eS (eK .u64) [1] from rfl]
 refine q _ _ ?_
 clear q hC
 repeat (first|(with_reducible first|refine pv_seq fun K hK=>?_|((first|refine hK _ _ ?_|(clear hK;refine hK _ _ ?_)|(clear hK;clear hK;refine hK _ _ ?_));clear hK;try clear K))| refine W0 ?_|exact Z|with_reducible intro b)
 refine PFC.frzCell (k2:=.l 29) (k:=.l 21) (by repeat first|exact updS_at|refine (updS_ne (by decide)).trans ?_) 0 3 rfl rfl (by decide) (by repeat first|exact updS_at|refine (updS_ne (by decide)).trans ?_) (gs:=[[.lit (.int .i64 0)]]) rfl (by decide) ?_
 refine PFC.frzCell (k2:=.l 29) (k:=.l 24) (by repeat first|exact updS_at|refine (updS_ne (by decide)).trans ?_) 1 3 rfl rfl (by decide) (by repeat first|exact updS_at|refine (updS_ne (by decide)).trans ?_) (gs:=[[.lit (.int .i64 2)]]) rfl (by decide) ?_
 refine PFC.frzCell (k2:=.l 29) (k:=.l 27) (by repeat first|exact updS_at|refine (updS_ne (by decide)).trans ?_) 2 3 rfl rfl (by decide) (by repeat first|exact updS_at|refine (updS_ne (by decide)).trans ?_) (gs:=[[.lit (.int .i64 2)]]) rfl (by decide) ?_
 refine PFC.coe ?_
 try simp -implicitDefEqProofs only [ft,go_sem,seval]
 exact Wk
end Go.V
namespace Go.V
open Go Go.RowKit Go.Proofs
def lightM (m:Mo):Prop:=m.e.length≤6∧m.c.w.length≤70
instance (m:Mo):Decidable (lightM m):=inferInstanceAs (Decidable (_∧_))
def lightQ (q:List Mo):Prop:=q.length≤30∧∀ m ∈ q,lightM m
instance (q:List Mo):Decidable (lightQ q):=inferInstanceAs (Decidable (_∧_))
def lightA (ls:List (List Mo)):Prop:=∀ q ∈ ls,lightQ q
instance (ls:List (List Mo)):Decidable (lightA ls):=inferInstanceAs (Decidable (∀ q ∈ ls,lightQ q))
end Go.V
namespace Go.V
open Go Go.RowKit Go.Proofs
end Go.V
namespace Go.V
open Go Go.RowKit Go.Proofs
theorem atR_wl {q:List Mo} {xs:List Nu}:Wl 65536 (atR q xs).1:=by
 unfold atR numR
 split
 ·by_cases h1:(nuOf (valV q xs q.length)).Ok
  ·have o1:OkD (valV q xs q.length):=h1
   rw [if_pos h1];exact o1.sz.wl
  ·rw [if_neg h1];exact wl0
 ·exact wl0
theorem rgR_wi {q:List Mo} {b:List Iv} {p:Int}:Wi 65536 (rgR q b p).1:=by
 unfold rgR
 split
 ·exact rgN_wi _
 ·exact wi0
set_option maxHeartbeats 2000000 in
theorem p_values {q:List Mo} {xs:List Nu} {bx:List Iv} {p:Int} (wq:WfM q) (wx:WfU xs) (wb:WfB bx):PC Tryz.prog 28 [MM q,UU xs,II bx,i64 p] fun d=>d=bl true:=by
 have p1:=p_pAt wq wx
 have p2:=p_rPAt wq wx
 have p3:=p_pRange (p:=p) wq wb
 have p4:=p_rPRange (p:=p) wq wb
 have w1:=atR_wl (q:=q) (xs:=xs)
 have w2:=rgR_wi (q:=q) (b:=bx) (p:=p)
 generalize atR q xs=u at *
 generalize rgR q bx p=v at *
 obtain ⟨u,e1⟩:=u
 obtain ⟨v,e2⟩:=v
 simp only at w1 w2
 have p5:=p_rSame (x:=u) (y:=u) (by have:=w1.len;omega)
 rw [decide_eq_true rfl] at p5
 have p6:=same_iv (a:=v) (by have:=w2.lo.len;omega) (by have:=w2.hi.len;omega)
 obtain ⟨n1,x1,y1⟩:=u
 obtain ⟨⟨n2,x2,y2⟩,⟨n3,x3,y3⟩⟩:=v
 have b1:(e1=e1)=True:=eq_true rfl
 have b2:(e2=e2)=True:=eq_true rfl
 simp only [MM,UU,II,NE,IE,NU,IV] at *
 refine PB (rs:=[.tmp 8]) Tryz.func28 ?_
 have ft:=And.intro b1 b2
 exact Wk
end Go.V
namespace Go.V
open Go Go.RowKit Go.Proofs
theorem p_dDim {k:Nm} {S:Store} {Q:D→Store→Prop} {b i:Nat} {w:List Nat} (hS:S k=some ⟨b,2,0,[[W64 w,i64 i]]⟩) (hb:B64 w) (hi:i≤900000000)
 (hQ:∀ n:Nat,1≤n→n≤4→Q (i64 n) (updS S k (some ⟨b,2,0,[[W64 w,i64 ((i + 1:Nat):Int)]]⟩))):PFC Tryz.prog 22 [.ptr k b 0 0 2] S Q:=by
 refine PFB (rs:=[.tmp 2]) Tryz.func22 ?_
 repeat (first|(with_reducible first|refine pv_seq fun K hK=>?_|((first|refine hK _ _ ?_|(clear hK;refine hK _ _ ?_)|(clear hK;clear hK;refine hK _ _ ?_));clear hK;try clear K))| refine W0 ?_|exact Z|with_reducible intro b)
 refine p_dN (n:=4) (i:=i) (by simp -implicitDefEqProofs only [updS,upS];exact hS) hb (by omega) (by decide) (by decide) (fun r hr=>?_)
 have hq:=hQ (1 + r) (by omega) (by omega)
 repeat (first|(with_reducible first|refine pv_seq fun K hK=>?_|((first|refine hK _ _ ?_|(clear hK;refine hK _ _ ?_)|(clear hK;clear hK;refine hK _ _ ?_));clear hK;try clear K))| refine W0 ?_|exact Z|with_reducible intro b)
 exact hq
end Go.V
namespace Go.V
open Go Go.RowKit Go.Proofs
theorem has_D {x y t:Dyadic} (ox:OkD x) (oy:OkD y) (ot:OkD t) (h1:x≤t) (h2:t≤y):hasR (ivD x y) (nuOf t)=true:=by
 unfold hasR
 rw [rightI_D ox oy,rightB_nuOf,decide_eq_true ot,decide_eq_true (show x≤y by grind)]
 unfold ivD
 rw [val_nuOf,val_nuOf,val_nuOf,decide_eq_true h1,decide_eq_true h2];rfl
theorem in_S {k q:Nat} {a b:Iv} (ha:SmV k q a) (hb:SmV k q b) (h:inV b a) (hk:k≤4000) (hq:q≤4000):PC Tryz.prog 43 [IV b,IV a] fun d=>d=bl true:=by
 obtain ⟨x,y,rfl,ox,oy,h1⟩:=ha.v hk hq
 obtain ⟨u,v,rfl,ou,ov,h2⟩:=hb.v hk hq
 have p:=p_InI (wi_D ou ov) (wi_D ox oy)
 unfold inV at h
 rw [ivD_l,ivD_h,ivD_l,ivD_h] at h
 rw [endsR_in ox oy ou ov h.1 h2 h.2] at p
 exact p
theorem inS_has {a:Iv} {t:Dyadic} (h:inS a t):hasV a t:=by
 obtain ⟨x,y,rfl,hxy,ht,_⟩:=h
 unfold hasV;rw [ivD_l,ivD_h];exact ht.in hxy
theorem inS_sm {a:Iv} {t:Dyadic} (h:inS a t) (ha:SmV 14 6 a):Sm 18 9 t:=by
 obtain ⟨x,y,e,hxy,ht,_⟩:=h
 obtain ⟨x',y',e',sx,sy,_⟩:=ha
 have h1:=congrArg (fun a=>a.lo.val) (e.symm.trans e')
 have h2:=congrArg (fun a=>a.hi.val) (e.symm.trans e')
 simp only [ivD_l,ivD_h] at h1 h2
 subst h1;subst h2
 exact ht.sm sx sy
def powV (p:Nat) (a:Iv) (j:Nat):Iv:=ivD (rd p false (loP a.lo.val a.hi.val j)) (rd p true (hiP a.lo.val a.hi.val j))
theorem powV_sm {p k q j:Nat} {a:Iv} (ha:SmV k q a) (h8:8≤p) (h256:p≤256) (hj:j≤8) (hk:k≤100) (hq:q≤100):pwI a (j:Int) p=(powV p a j,0)∧SmV (1 + k * j + 1) (q * j) (powV p a j):=by
 obtain ⟨x,y,rfl,hx,hy,hxy⟩:=ha
 have ok:∀ {d:Dyadic},Sm k q d→OkD d:=fun h=>(h.bx).ok (by omega) (by omega)
 have h1:k * j≤100 * 8:=Nat.mul_le_mul hk hj
 have h2:q * j≤100 * 8:=Nat.mul_le_mul hq hj
 unfold powV
 rw [ivD_l,ivD_h]
 have sl:=loP_sm (j:=j) hx hy
 have sh:=hiP_sm (j:=j) hx hy
 have hm:=pow_in (x:=x) (y:=y) (t:=x) (k:=j) (Dyadic.le_refl _) hxy
 exact ⟨pwI_ok (ok hx) (ok hy) hxy h8 h256 hj (sl.rdOk (by omega) (by omega) h8 h256) (sh.rdOk (by omega) (by omega) h8 h256),_,_,rfl,sl.rd,sh.rd,rd_le_rd (Dyadic.le_trans hm.1 hm.2)⟩
theorem powV_has {p j:Nat} {a:Iv} {t:Dyadic} (ha:hasV a t):hasV (powV p a j) (powD t j):=by
 unfold hasV powV at *
 rw [ivD_l,ivD_h]
 have:=pow_in (k:=j) ha.1 ha.2
 exact ⟨Dyadic.le_trans (dn_le p _) this.1,Dyadic.le_trans this.2 (le_up p _)⟩
theorem powV_in {p j:Nat} {a a':Iv} (hp:1≤p) (ha:inV a' a) (oa:a'.lo.val≤a'.hi.val):inV (powV p a' j) (powV p a j):=by
 unfold inV powV at *
 rw [ivD_l,ivD_h,ivD_l,ivD_h]
 have:=pow_mono (k:=j) ha.1 oa ha.2
 exact ⟨rd_mono hp this.1,rd_mono hp this.2⟩
def ovV (p:Nat) (b:List Iv) (z:List Int) (c:Iv):Nat→Iv
 | 0=>c
 | i + 1=>if z.getD i 0=0 then ovV p b z c i else mulV p (ovV p b z c i) (powV p (gI b i) (z.getD i 0).toNat)
def rgV (p:Nat) (b:List Iv) (q:List Mo):Nat→Iv
 | 0=>iv0
 | k + 1=>addV p (rgV p b q k) (ovV p b (gM q k).e ⟨(gM q k).c,(gM q k).c⟩ b.length)
theorem point_has {d:Dyadic}:hasV ⟨nuOf d,nuOf d⟩ d:=by
 unfold hasV
 exact ⟨by show (nuOf d).val≤d;rw [val_nuOf];exact Dyadic.le_refl _,by show d≤(nuOf d).val;rw [val_nuOf];exact Dyadic.le_refl _⟩
structure SmB (b:List Iv):Prop where
 s:∀ i,i<b.length→SmV 18 9 (gI b i)
theorem ovV_is {p:Nat} {b:List Iv} {z:List Int} {d:Dyadic} (hb:SmB b) (hz:Pw b.length 6 z) (hd:Sm 19 6 d) (h8:8≤p) (h256:p≤256) (hn:b.length≤4) :
 ∀ i,i≤b.length→∃ u:Nat,(u:Int)=(z.take i).sum∧u≤6∧ovN p b z ⟨nuOf d,nuOf d⟩ i=(ovV p b z ⟨nuOf d,nuOf d⟩ i,0)∧SmV (19 + 3 * i + 18 * u) (6 + 9 * u) (ovV p b z ⟨nuOf d,nuOf d⟩ i)
 | 0,_=>⟨0,rfl,by omega,rfl,d,d,rfl,hd,hd,Dyadic.le_refl _⟩
 | i + 1,hi=>by
   obtain ⟨u,hu,hu6,e,s⟩:=ovV_is hb hz hd h8 h256 hn i (by omega)
   have hl:=hz.len
   have q2:=zget (l:=z) (i:=i) (by omega)
   have hz0:=hz.nn _ (List.mem_of_getElem? q2)
   have hTs:=sum_take_succ q2
   have hT6:=sum_take_le (l:=z) (i + 1) hz.nn
   have h6:=hz.sum
   obtain ⟨kk,hk⟩:∃ kk:Nat,z.getD i 0=kk:=⟨(z.getD i 0).toNat,by omega⟩
   rw [hTs,hk]
   refine ⟨u + kk,by omega,by omega,?_⟩
   have hsu:=ovN_succ (p:=(p:Int)) (b:=b) (z:=z) (v0:=⟨nuOf d,nuOf d⟩) (i:=i) (by rw [e])
   rw [hsu]
   unfold ovV
   by_cases h0:z.getD i 0=0
   ·rw [if_pos h0,if_pos h0]
    have:kk=0:=by omega
    subst this
    exact ⟨e,s.mono (by omega)⟩
   ·rw [if_neg h0,if_neg h0,hk,Int.toNat_natCast]
    have pw:=powV_sm (p:=p) (j:=kk) (hb.s i (by omega)) h8 h256 (by omega) (by omega) (by omega)
    rw [pw.1,if_pos rfl,e]
    have mu:=mulV_sm (p:=p) s pw.2 h8 h256 (by omega) (by omega)
    refine ⟨mu.1,?_⟩
    have:=mu.2
    rw [show 6 + 9 * u + 9 * kk=6 + 9 * (u + kk) by omega] at this
    exact this.mono (by omega)
theorem ovV_isA {p:Nat} {b:List Iv} {z:List Int} {d:Dyadic} (hb:SmB b) (hz:Pw b.length 6 z) (hd:Sm 19 6 d) (h8:8≤p) (h256:p≤256) (hn:b.length≤4) :
 ovN p b z ⟨nuOf d,nuOf d⟩ b.length=(ovV p b z ⟨nuOf d,nuOf d⟩ b.length,0)∧SmV 200 60 (ovV p b z ⟨nuOf d,nuOf d⟩ b.length):=by
 obtain ⟨u,_,hu,e,s⟩:=ovV_is hb hz hd h8 h256 hn b.length (Nat.le_refl _)
 refine ⟨e,?_⟩
 have:=s.lift (60 - (6 + 9 * u))
 rw [show 6 + 9 * u + (60 - (6 + 9 * u))=60 by omega] at this
 exact this.mono (by omega)
theorem ovV_has {p:Nat} {b:List Iv} {z:List Int} {d:Dyadic} {xs:List Dyadic} (hx:∀ i,i<b.length→hasV (gI b i) (gU (xs.map nuOf) i).val) :
 ∀ i,i≤b.length→hasV (ovV p b z ⟨nuOf d,nuOf d⟩ i) (monV d (xs.map nuOf) z i)
 | 0,_=>point_has
 | i + 1,hi=>by
   have ih:=ovV_has (p:=p) (z:=z) (d:=d) hx i (by omega)
   unfold ovV
   show hasV _ (monV d (xs.map nuOf) z i * powD (gU (xs.map nuOf) i).val (z.getD i 0).toNat)
   by_cases h0:z.getD i 0=0
   ·rw [if_pos h0,h0]
    show hasV _ (monV d (xs.map nuOf) z i * 1)
    rw [Dyadic.mul_one];exact ih
   ·rw [if_neg h0]
    exact mulV_has ih (powV_has (hx i (by omega)))
theorem ovV_in {p:Nat} {b c:List Iv} {z:List Int} {d:Dyadic} (hb:SmB b) (hc:SmB c) (hl:b.length=c.length) (hz:Pw b.length 6 z) (hd:Sm 19 6 d) (h8:8≤p) (h256:p≤256) (hn:b.length≤4) (hi2:∀ i,i<b.length→inV (gI c i) (gI b i)) :
 ∀ i,i≤b.length→inV (ovV p c z ⟨nuOf d,nuOf d⟩ i) (ovV p b z ⟨nuOf d,nuOf d⟩ i)
 | 0,_=>inV_refl
 | i + 1,hi=>by
   have ih:=ovV_in hb hc hl hz hd h8 h256 hn hi2 i (by omega)
   unfold ovV
   by_cases h0:z.getD i 0=0
   ·rw [if_pos h0,if_pos h0];exact ih
   ·rw [if_neg h0,if_neg h0]
    have hz':Pw c.length 6 z:=hl ▸ hz
    obtain ⟨u,_,_,_,s⟩:=ovV_is (p:=p) hc hz' hd h8 h256 (by omega) i (by omega)
    have hl2:=hz.len
    have q2:=zget (l:=z) (i:=i) (by omega)
    have hz0:=hz.nn _ (List.mem_of_getElem? q2)
    have hT6:=sum_take_le (l:=z) (i + 1) hz.nn
    have hTs:=sum_take_succ q2
    have hT0:0≤(z.take i).sum:=by
     have:=sum_take_le (l:=z.take i) 0 (fun x hx=>hz.nn x (List.mem_of_mem_take hx))
     simpa using this
    have h6:=hz.sum
    have pw:=powV_sm (p:=p) (j:=(z.getD i 0).toNat) (hc.s i (by omega)) h8 h256 (by omega) (by omega) (by omega)
    exact mulV_in (by omega) ih (powV_in (by omega) (hi2 i (by omega)) (hc.s i (by omega)).le) s.le pw.2.le
structure SmQ (n:Nat) (q:List Mo):Prop where
 c:∀ m ∈ q,∃ d,m.c=nuOf d∧Sm 19 6 d
 e:∀ m ∈ q,Pw n 6 m.e
 l:q.length≤24
theorem rgV_is {p:Nat} {b:List Iv} {q:List Mo} (hb:SmB b) (hq:SmQ b.length q) (h8:8≤p) (h256:p≤256) (hn:b.length≤4):∀ k,k≤q.length→rgN p b q k=(rgV p b q k,0)∧SmV (200 + 2 * k) 60 (rgV p b q k)
 | 0,_=>⟨rfl,SmV.zero⟩
 | k + 1,hk=>by
   have ih:=rgV_is hb hq h8 h256 hn k (by omega)
   have hl:=hq.l
   have hm:=gM_mem (l:=q) (i:=k) (by omega)
   obtain ⟨d,hc,hd⟩:=hq.c _ hm
   have ov:=ovV_isA (p:=p) hb (hq.e _ hm) hd h8 h256 hn
   have hsu:=rgN_succ (p:=(p:Int)) (b:=b) (q:=q) (k:=k) (by rw [ih.1])
   rw [hsu]
   unfold rgV ovM
   rw [hc,ov.1,if_pos rfl,ih.1]
   have ad:=addV_sm (p:=p) ih.2 (ov.2.mono (m:=200 + 2 * k) (by omega)) h8 h256 (by omega) (by omega)
   exact ⟨ad.1,ad.2.mono (by omega)⟩
theorem rgV_has {p:Nat} {b:List Iv} {q:List Mo} {xs:List Dyadic} (hq:SmQ b.length q) (hl:xs.length=b.length) (hx:∀ i,i<b.length→hasV (gI b i) (gU (xs.map nuOf) i).val):∀ k,k≤q.length→hasV (rgV p b q k) (valV q (xs.map nuOf) k)
 | 0,_=>by
   unfold hasV
   have:Nu.val nu0=0:=dy0 _ _
   exact ⟨by show Nu.val nu0≤(0:Dyadic);rw [this];exact Dyadic.le_refl _,by show (0:Dyadic)≤Nu.val nu0;rw [this];exact Dyadic.le_refl _⟩
 | k + 1,hk=>by
   have ih:=rgV_has (p:=p) hq hl hx k (by omega)
   obtain ⟨d,hc,hd⟩:=hq.c _ (gM_mem (l:=q) (i:=k) (by omega))
   have hm:=ovV_has (p:=p) (z:=(gM q k).e) (d:=d) hx b.length (Nat.le_refl _)
   unfold rgV
   show hasV _ (valV q (xs.map nuOf) k + monV (gM q k).c.val (xs.map nuOf) (gM q k).e (xs.map nuOf).length)
   rw [hc,val_nuOf,List.length_map,hl]
   exact addV_has ih hm
theorem rgV_in {p:Nat} {b c:List Iv} {q:List Mo} (hb:SmB b) (hc:SmB c) (hl:b.length=c.length) (hq:SmQ b.length q) (h8:8≤p) (h256:p≤256) (hn:b.length≤4) (hi2:∀ i,i<b.length→inV (gI c i) (gI b i)):∀ k,k≤q.length→inV (rgV p c q k) (rgV p b q k)
 | 0,_=>inV_refl
 | k + 1,hk=>by
   have ih:=rgV_in hb hc hl hq h8 h256 hn hi2 k (by omega)
   have hm:=gM_mem (l:=q) (i:=k) (by omega)
   obtain ⟨d,hcd,hd⟩:=hq.c _ hm
   have ov:=ovV_in (p:=p) hb hc hl (hq.e _ hm) hd h8 h256 hn hi2 b.length (Nat.le_refl _)
   unfold rgV
   rw [hcd,← hl]
   exact addV_in (by omega) ih ov
theorem SmB.wf {b:List Iv} (hb:SmB b) (hl:b.length≤4):WfB b∧allR b=true:=by
 have h:∀ x ∈ b,Wi 65536 x∧rightI x=true:=fun x hx=>by
  obtain ⟨i,hi⟩:=List.getElem?_of_mem hx
  have hil:i<b.length:=(List.getElem?_eq_some_iff.1 hi).1
  have:=((hb.s i hil).v (by decide) (by decide)).ok
  rw [gI_at hil] at hi
  injection hi with hi
  rwa [hi] at this
 exact ⟨⟨by omega,fun x hx=>(h x hx).1⟩,decide_eq_true fun x hx=>(h x hx).2⟩
theorem rgR_is {p:Nat} {b:List Iv} {q:List Mo} (hp:polyB q b.length=true) (hb:SmB b) (hq:SmQ b.length q) (h8:8≤p) (h256:p≤256) (hn:b.length≤4):rgR q b p=(rgV p b q q.length,0)∧SmV 300 60 (rgV p b q q.length):=by
 have h:=rgV_is (p:=p) hb hq h8 h256 hn q.length (Nat.le_refl _)
 have hl:=hq.l
 unfold rgR
 rw [hp,okP_of h8 h256,(hb.wf hn).2]
 exact ⟨h.1,h.2.mono (by omega)⟩
theorem monV_smS {z:List Int} {d:Dyadic} {xs:List Dyadic} (hz:Pw xs.length 6 z) (hd:Sm 19 6 d) (hx:∀ x ∈ xs,Sm 18 9 x):∀ i,i≤xs.length→∃ u:Nat,(u:Int)=(z.take i).sum∧u≤6∧Sm (19 + i + 18 * u) (6 + 9 * u) (monV d (xs.map nuOf) z i)
 | 0,_=>⟨0,rfl,by omega,hd⟩
 | i + 1,hi=>by
   obtain ⟨u,hu,hu6,s⟩:=monV_smS hz hd hx i (by omega)
   have hl:=hz.len
   have q2:=zget (l:=z) (i:=i) (by omega)
   have hz0:=hz.nn _ (List.mem_of_getElem? q2)
   have hTs:=sum_take_succ q2
   have hT6:=sum_take_le (l:=z) (i + 1) hz.nn
   have h6:=hz.sum
   obtain ⟨kk,hk⟩:∃ kk:Nat,z.getD i 0=kk:=⟨(z.getD i 0).toNat,by omega⟩
   rw [hTs,hk]
   refine ⟨u + kk,by omega,by omega,?_⟩
   show Sm _ _ (monV d (xs.map nuOf) z i * powD (gU (xs.map nuOf) i).val (z.getD i 0).toNat)
   have hxi:(gU (xs.map nuOf) i).val=xs.getD i 0:=by
    unfold gU
    rw [List.getD,List.getElem?_map]
    cases h:xs[i]? with
    | none=>have:=List.getElem?_eq_none_iff.1 h;omega
    | some y=>simp [List.getD,h,val_nuOf]
   have hxm:xs.getD i 0 ∈ xs:=List.mem_of_getElem? (show xs[i]? = some (xs.getD i 0) by simp [List.getD,List.getElem?_eq_getElem (show i<xs.length by omega)])
   rw [hxi,hk,Int.toNat_natCast]
   have:=s.mul (powD_sm (hx _ hxm) kk)
   rw [show 6 + 9 * u + 9 * kk=6 + 9 * (u + kk) by omega] at this
   exact this.mono (by omega)
theorem valV_smS {q:List Mo} {xs:List Dyadic} (hq:SmQ xs.length q) (hx:∀ x ∈ xs,Sm 18 9 x) (hn:xs.length≤4):∀ k,k≤q.length→Sm (200 + k) 60 (valV q (xs.map nuOf) k)
 | 0,_=>Sm.zero
 | k + 1,hk=>by
   have ih:=valV_smS hq hx hn k (by omega)
   have hm:=gM_mem (l:=q) (i:=k) (by omega)
   obtain ⟨d,hc,hd⟩:=hq.c _ hm
   obtain ⟨u,_,hu,s⟩:=monV_smS (hq.e _ hm) hd hx xs.length (Nat.le_refl _)
   show Sm _ _ (valV q (xs.map nuOf) k + monV (gM q k).c.val (xs.map nuOf) (gM q k).e (xs.map nuOf).length)
   rw [hc,val_nuOf,List.length_map]
   have:=s.lift (60 - (6 + 9 * u))
   rw [show 6 + 9 * u + (60 - (6 + 9 * u))=60 by omega] at this
   exact (ih.add (this.mono (m:=200 + k) (by omega))).mono (by omega)
theorem atR_is {q:List Mo} {xs:List Dyadic} (hp:polyB q xs.length=true) (hq:SmQ xs.length q) (hx:∀ x ∈ xs,Sm 18 9 x) (hn:xs.length≤4):atR q (xs.map nuOf)=(nuOf (valV q (xs.map nuOf) q.length),0)∧OkD (valV q (xs.map nuOf) q.length):=by
 have s:=valV_smS hq hx hn q.length (Nat.le_refl _)
 have hl:=hq.l
 have ok:OkD (valV q (xs.map nuOf) q.length):=s.ok2 (by omega) (by decide)
 have ha:allU (xs.map nuOf)=true:=decide_eq_true fun y hy=>by
  obtain ⟨x,hx2,rfl⟩:=List.mem_map.1 hy
  rw [rightB_nuOf];exact decide_eq_true ((hx x hx2).ok2 (by decide) (by decide))
 refine ⟨?_,ok⟩
 unfold atR
 rw [List.length_map,hp,ha]
 exact numR_ok ok
end Go.V
namespace Go.V
open Go Go.RowKit Go.Proofs
theorem gU_nu {l:List Dyadic} {i:Nat} (hi:i<l.length):(gU (l.map nuOf) i).val=gD l i:=by
 unfold gU gD
 rw [List.getD,List.getElem?_map]
 simp [List.getD,List.getElem?_eq_getElem hi,val_nuOf]
set_option maxHeartbeats 4000000 in
theorem p_PolyHolds {w:List Nat} (hb:B64 w):PC Tryz.prog 10 [W64 w] fun d=>d=bl true:=by
 have pK:=p_known10
 refine PB (rs:=[.tmp 2]) Tryz.func10 ?_
 repeat (first|(with_reducible first|refine pv_seq fun K hK=>?_|((first|refine hK _ _ ?_|(clear hK;refine hK _ _ ?_)|(clear hK;clear hK;refine hK _ _ ?_));clear hK;try clear K))| refine W ?_|exact Z|with_reducible intro b)
 refine p_Of (fun b0=>?_)
 repeat (first|(with_reducible first|refine pv_seq fun K hK=>?_|((first|refine hK _ _ ?_|(clear hK;refine hK _ _ ?_)|(clear hK;clear hK;refine hK _ _ ?_));clear hK;try clear K))| refine W0 ?_|exact Z|with_reducible intro b)
 refine p_dDim (i:=0) (by simp -implicitDefEqProofs only [updS,upS,if_true];rfl) hb (by omega) (fun n hn1 hn4=>?_)
 repeat (first|(with_reducible first|refine pv_seq fun K hK=>?_|((first|refine hK _ _ ?_|(clear hK;refine hK _ _ ?_)|(clear hK;clear hK;refine hK _ _ ?_));clear hK;try clear K))| refine W0 ?_|exact Z|with_reducible intro b)
 refine p_dPoly (n:=n) (most:=5) (deg:=6) (i:=1) (by simp -implicitDefEqProofs only [updS,upS,if_true];rfl) hb (by omega) hn1 hn4 (by decide) (by decide) (fun q j1 hq hj1=>?_)
 unfold MM
 repeat (first|(with_reducible first|refine pv_seq fun K hK=>?_|((first|refine hK _ _ ?_|(clear hK;refine hK _ _ ?_)|(clear hK;clear hK;refine hK _ _ ?_));clear hK;try clear K))| refine W0 ?_|exact Z|with_reducible intro b)
 refine p_dSmallBox (n:=n) (i:=j1) (by simp -implicitDefEqProofs only [updS_apply,if_true,eq_self];try rfl) hb (by omega) (by omega) (fun bx j2 lb sb hj2=>?_)
 unfold II
 repeat (first|(with_reducible first|refine pv_seq fun K hK=>?_|((first|refine hK _ _ ?_|(clear hK;refine hK _ _ ?_)|(clear hK;clear hK;refine hK _ _ ?_));clear hK;try clear K))| refine W0 ?_|exact Z|with_reducible intro b)
 refine p_dPrec (i:=j2) (by simp -implicitDefEqProofs only [updS_apply,if_true,eq_self];try rfl) hb (by omega) (fun p j3 h8 h256 hj3=>?_)
 repeat (first|(with_reducible first|refine pv_seq fun K hK=>?_|((first|refine hK _ _ ?_|(clear hK;refine hK _ _ ?_)|(clear hK;clear hK;refine hK _ _ ?_));clear hK;try clear K))| refine W0 ?_|exact Z|with_reducible intro b)
 refine p_dInBox (l:=bx) (i:=j3) (by simp -implicitDefEqProofs only [updS_apply,if_true,eq_self];try rfl) hb (by omega) (by omega) (fun a ha=>(sb a ha).v (by decide) (by decide)) (fun xs lx hx=>?_)
 unfold UL
 repeat (first|(with_reducible first|refine pv_seq fun K hK=>?_|((first|refine hK _ _ ?_|(clear hK;refine hK _ _ ?_)|(clear hK;clear hK;refine hK _ _ ?_));clear hK;try clear K))| refine W0 ?_|exact Z|with_reducible intro b)
 refine p_dPartBox (l:=bx) (i:=j3 + bx.length) (by simp -implicitDefEqProofs only [updS_apply,if_true,eq_self];try rfl) hb (by omega) (by omega) sb (fun cx lc sc hc=>?_)
 unfold II
 obtain rfl:n=bx.length:=lb.symm
 have wq:=hq.wf (by omega) (by decide)
 have hSB:SmB bx:=⟨fun i hi=>((sb _ (gI_mem hi)).lift 3).mono (by omega)⟩
 have hSC:SmB cx:=⟨fun i hi=>sc _ (gI_mem hi)⟩
 have hSQ:SmQ bx.length q:=⟨fun m hm=>by obtain ⟨d,h1,_,h3⟩:=hq.c m hm;exact ⟨d,h1,h3⟩,hq.e,by have:=hq.len;omega⟩
 have hSQx:SmQ xs.length q:=by rw [lx];exact hSQ
 have hSQc:SmQ cx.length q:=by rw [lc];exact hSQ
 have hpx:polyB q (xs.length:Int)=true:=by rw [lx];exact hq.right
 have hpc:polyB q (cx.length:Int)=true:=by rw [lc];exact hq.right
 have hxs:∀ x ∈ xs,Sm 18 9 x:=fun x hxm=>by
  obtain ⟨i,hi⟩:=List.getElem?_of_mem hxm
  have hil:i<xs.length:=(List.getElem?_eq_some_iff.1 hi).1
  have:=inS_sm (hx i (by omega)) (sb _ (gI_mem (by omega)))
  unfold gD at this
  rw [List.getD,hi] at this
  exact this
 have hhas:∀ i,i<bx.length→hasV (gI bx i) (gU (xs.map nuOf) i).val:=fun i hi=>by
  rw [gU_nu (by omega)];exact inS_has (hx i hi)
 have hA:=atR_is hpx hSQx hxs (by omega)
 have hR:=rgR_is (p:=p) hq.right hSB hSQ h8 h256 hn4
 have hS:=rgR_is (p:=p) hpc hSC hSQc h8 h256 (by omega)
 have hrv:=rgV_has (p:=p) hSQ lx hhas q.length (Nat.le_refl _)
 have hsr:=rgV_in (p:=p) hSB hSC lc.symm hSQ h8 h256 hn4 hc q.length (Nat.le_refl _)
 have wx:WfU (xs.map nuOf):=⟨by rw [List.length_map];omega,fun y hy=>by
  obtain ⟨x,hxm,rfl⟩:=List.mem_map.1 hy
  exact ((hxs x hxm).ok2 (by decide) (by decide)).sz.wl⟩
 have wb:=(hSB.wf hn4).1
 have wc:=(hSC.wf (by omega)).1
 have pA:=p_pAt wq wx
 have pR:=p_pRange (p:=(p:Int)) wq wb
 have pS:=p_pRange (p:=(p:Int)) wq wc
 have pV:=p_values (p:=(p:Int)) wq wx wb
 rw [hA.1] at pA
 rw [hR.1] at pR
 rw [hS.1] at pS
 have pI:=in_S hR.2 hS.2 hsr (by decide) (by decide)
 obtain ⟨x1,y1,e1,ox,oy,_⟩:=hR.2.v (by decide) (by decide)
 rw [e1] at pR pI hrv
 have ov:=hA.2
 generalize valV q (xs.map nuOf) q.length=v at *
 generalize rgV p cx q q.length=s at *
 unfold hasV at hrv
 rw [ivD_l,ivD_h] at hrv
 have pH:=p_HasI (wi_D ox oy) (x:=nuOf v) ov.sz.b
 rw [has_D ox oy ov hrv.1 hrv.2] at pH
 clear hsr hrv e1 hR hS hA
 generalize ivD x1 y1=r at *
 generalize nuOf v=u at *
 obtain ⟨n1,m1,w1⟩:=u
 obtain ⟨⟨n2,m2,w2⟩,⟨n3,m3,w3⟩⟩:=r
 obtain ⟨⟨n4,m4,w4⟩,⟨n5,m5,w5⟩⟩:=s
 simp only [MM,UU,II,NE,IE,NU,IV] at pA pR pS pV pI pH
 exact Wk
end Go.V
namespace Go.V
open Go Go.RowKit Go.Proofs
end Go.V
namespace Go.V
open Go Go.RowKit Go.Proofs
variable {n:Nat}
end Go.V
namespace Go.V
open Go Go.RowKit Go.Proofs
end Go.V
namespace Go.V
open Go Go.RowKit Go.Proofs
end Go.V
namespace Go.V
open Go Go.RowKit Go.Proofs
section
variable {P:Program} {f:FuncId} {args:List D} {S:Store} {K:D→Store→Prop}
end
end Go.V
namespace Go.V
open Go Go.RowKit Go.Proofs
end Go.V
