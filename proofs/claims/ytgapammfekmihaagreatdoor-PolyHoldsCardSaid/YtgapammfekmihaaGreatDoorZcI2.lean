/- The document's polynomials of monomials over values as data; the seat's deck: powers, monomials, polynomials. slices.SortFunc over values as data: by the contract of the shelf. No program in sight. Rows that a call answers and that its caller may change; slices.Clone of integers; sums of any length. Plain laws: terms gathered in any order, and sorted, are the document's. No program in sight. Package poly's keys: the powers of a monomial as an array; what its map holds. Package poly: which lists hold monomials alone. slices.SortFunc at monomials. -/
import Derived.Test.YtgapammfekmihaaGreatDoorZcI1
import Derived.Test.YtgapammfekmihaaGreatDoorZcPC
import Derived.Shelf.SlSortCmp.WholeK
set_option linter.unusedSimpArgs false
set_option linter.unusedVariables false
set_option maxRecDepth 100000
namespace Go.V
open Go Go.RowKit Go.Proofs
def qT16_20_9:List (Nat × Nat):=[(0,0),(1,0),(2,0),(3,0),(4,0),(5,1),(7,0),(8,0),(9,0),(10,0),(11,2),(6,4),(12,0),(13,3),(14,3),(15,0)]
attribute [go_sem] qT16_20_9
theorem rS_t {l:List Te} {t:Te}:rS eT l ++ [[bl (fS t.v),W32 (D32 (fN t.v)),i64 (fE t.v),.g (eS eZ t.e)]]=rS eT (l ++ [t]):=by rw [← rS_app];rfl
theorem allM_no {q:List Mo} {n:Int} {i:Nat} (hi:i<q.length) (h:monoB (gM q i) n=false):allM q n=false:=decide_eq_false fun h2=>by rw [h2 _ (gM_mem hi)] at h;cases h
theorem allM_yes {q:List Mo} {n:Int} (h:∀ i,i<q.length→monoB (gM q i) n=true):allM q n=true:=decide_eq_true fun m hm=>by
 obtain ⟨i,hi⟩:=List.mem_iff_getElem?.1 hm
 have hil:i<q.length:=(List.getElem?_eq_some_iff.1 hi).1
 have:=h i hil
 rw [gM_at hil] at hi
 injection hi with hi
 rwa [hi] at this
theorem monoB_right {m:Mo} {n:Int} (h:monoB m n=true):rightB m.c=true:=by
 unfold monoB at h
 rw [Bool.and_eq_true] at h
 exact h.2
set_option maxHeartbeats 2000000 in
theorem p_rPMake {q:List Mo} {n:Int} (hq:WfM q) (hl:q.length≤10000):PC Tryz.prog 20 [MM q,i64 n] fun d=>d=LM (pmkR q n):=by
 unfold MM
 by_cases h1:1≤n
 ·by_cases h4:n≤4
  ·have k1:(n<1)=False:=eq_false (by omega)
   have k2:(4<n)=False:=eq_false (by omega)
   generalize hr:pmkR q n=r
   have hno:allM q n=false→r=([],1):=fun h=>by rw [← hr];unfold pmkR;rw [h,Bool.and_false];rfl
   have hyes:allM q n=true→r=gathR (q.map teM):=fun h=>by rw [← hr];unfold pmkR;rw [h,decide_eq_true h1,decide_eq_true h4];rfl
   clear hr
   have d1:=@dl 9 qT16_20_9
   refine PB (rs:=[.tmp 4,.tmp 5]) Tryz.func20 ?_
   have ft:=And.intro k1 k2
   repeat (first|(with_reducible first|refine pv_seq fun K hK=>?_|((first|refine hK _ _ ?_|(clear hK;refine hK _ _ ?_)|(clear hK;clear hK;refine hK _ _ ?_));clear hK;try clear K))| refine W0 ?_|exact Z|with_reducible intro b)
   have J:∀ (e:DEnv) (S:Store),(∀ j,j<q.length→monoB (gM q j) n=true)→RowZ S (.l 41) 4 (e 6) (rS eT (q.map teM))→K e S:=by
    intro e S hz hw
    have hry:=hyes (allM_yes hz)
    have pG:=p_gather (l:=q.map teM) (M:=135168) (Q:=65536) (by rw [List.length_map];omega) (fun t ht=>by
     obtain ⟨m,hm,rfl⟩:=List.mem_map.1 ht
     obtain ⟨i,hi⟩:=List.mem_iff_getElem?.1 hm
     have hil:i<q.length:=(List.getElem?_eq_some_iff.1 hi).1
     have h5:=hz i hil
     rw [gM_at hil] at hi
     injection hi with hi
     rw [hi] at h5
     obtain ⟨d,hd,e⟩:=right_is (hq.w m hm).c.b (monoB_right h5)
     show Sm _ _ m.c.val
     rw [e,val_nuOf]
     exact okD_sm hd) (fun t ht=>by
     obtain ⟨m,hm,rfl⟩:=List.mem_map.1 ht
     exact (hq.w m hm).n) (by rw [List.length_map];omega)
    rw [← hry] at pG
    unfold TT LM at pG
    obtain ⟨r1,r2⟩:=r
    have ft:=true_and
    repeat (first|(with_reducible first|refine pv_seq fun K hK=>?_|((first|refine hK _ _ ?_|(clear hK;refine hK _ _ ?_)|(clear hK;clear hK;refine hK _ _ ?_));clear hK;try clear K))| refine W0 ?_|exact Z|with_reducible intro b)
    refine PFC.coe ?_
    refine hw.toD.coe1 fun S' _ _=>?_
    exact Wk
   clear hK
   obtain ⟨I,mk,el⟩:=hide fun e S=>∃ i:Nat,i≤q.length∧e 0=.g (eS eM q)∧e 1=i64 n∧e 7=i64 i∧(∀ j,j<i→monoB (gM q j) n=true)∧RowZ S (.l 41) 4 (e 6) (rS eT ((q.take i).map teM))
   refine pv_loop I (fun e _=>q.length - (intD (e 7)).toNat) ?_ ?_
   ·have ft:=true_and
    exact mk _ _ ⟨0,Nat.zero_le _,Zr,Zr,Zr,fun j hj=>by omega,.inl ⟨Zr,rfl⟩⟩
   ·intro e S hI
    obtain ⟨i,hi,g0,g1,g7,hz,hw⟩:=el e S hI
    clear el hI
    have ft:=And.intro g0 (And.intro g1 g7)
    repeat (first|(with_reducible first|refine pv_seq fun K hK=>?_|((first|refine hK _ _ ?_|(clear hK;refine hK _ _ ?_)|(clear hK;clear hK;refine hK _ _ ?_));clear hK;try clear K))| refine W0 ?_|exact Z|with_reducible intro b)
    refine pv_cdD (fun ht=>?_) (fun ht=>?_)
    ·have hil:i<q.length:=by omega
     have q1:=gM_at hil
     have wm:=hq.at_ hil
     have pM:=p_rMono (n:=n) wm h4
     have hno:=fun h=>hno (allM_no hil h)
     have hz2:monoB (gM q i) n=true→∀ j,j<i + 1→monoB (gM q j) n=true:=fun h j hj=>by
      rcases Nat.lt_or_ge j i with h1|h1
      ·exact hz j h1
      ·obtain rfl:j=i:=by omega
       exact h
     have hrt:=fun (h:monoB (gM q i) n=true)=>right_is wm.c.b (monoB_right h)
     have htk:(q.take (i + 1)).map teM=(q.take i).map teM ++ [teM (gM q i)]:=by rw [List.take_add_one,q1,List.map_append];rfl
     have hlt:((q.take i).map teM).length=i:=by rw [List.length_map,List.length_take];omega
     clear hyes J
     generalize monoB (gM q i) n=t at *
     generalize gM q i=m at *
     obtain ⟨⟨n1,e1,w1⟩,z⟩:=m
     cases t
     ·have h:=hno rfl
      subst h
      have ft:=And.intro g0 (And.intro g1 (And.intro g7 q1))
      exact Wk
     ·obtain ⟨d,hd,hc⟩:=hrt rfl
      have pO:=p_rOf hd
      simp only at hc
      rw [← hc] at pO
      have hv:teM ⟨⟨n1,e1,w1⟩,z⟩=⟨d,z⟩:=by unfold teM;simp only;rw [hc,val_nuOf]
      rw [hv] at htk
      have hnew:=rS_t (l:=(q.take i).map teM) (t:=⟨d,z⟩)
      unfold VA at pO
      simp only at hnew
      have ft:=And.intro g0 (And.intro g1 (And.intro g7 q1))
      repeat' (first|(with_reducible first|refine pv_seq fun K hK=>?_|((first|refine hK _ _ ?_|(clear hK;refine hK _ _ ?_)|(clear hK;clear hK;refine hK _ _ ?_));clear hK;try clear K))| refine W ?_|exact Z|with_reducible intro b|with_reducible refine And.intro ?_ ?_|(refine RowZ.appL (hw.up (by rfl)) (by decide) rfl (by simp [D.one,W32]) ?_ ?_ fun d' S' hr' hS'=>?_))
      all_goals first|(rw [rS_len,hlt];omega)|(simp only [intD];omega)|exact mk _ _ ⟨i + 1,by omega,Zr,Zr,Zr,hz2 rfl,by rw [htk,← hnew];exact hr'⟩
    ·obtain rfl:i=q.length:=by omega
     rw [List.take_length] at hw
     repeat (first|(with_reducible first|refine pv_seq fun K hK=>?_|((first|refine hK _ _ ?_|(clear hK;refine hK _ _ ?_)|(clear hK;clear hK;refine hK _ _ ?_));clear hK;try clear K))| refine W0 ?_|exact Z|with_reducible intro b)
     exact J _ _ hz hw
  ·have k1:(n<1)=False:=eq_false (by omega)
   have k2:(4<n)=True:=eq_true (by omega)
   have hr:pmkR q n=([],1):=by unfold pmkR;rw [decide_eq_false h4,Bool.and_false];rfl
   rw [hr]
   have d1:=@dl 9 qT16_20_9
   refine PB (rs:=[.tmp 4,.tmp 5]) Tryz.func20 ?_
   have ft:=And.intro k1 k2
   exact Wk
 ·have k1:(n<1)=True:=eq_true (by omega)
  have hr:pmkR q n=([],1):=by unfold pmkR;rw [decide_eq_false h1];rfl
  rw [hr]
  have d1:=@dl 9 qT16_20_9
  refine PB (rs:=[.tmp 4,.tmp 5]) Tryz.func20 ?_
  have ft:=k1
  exact Wk
theorem rZ_at {z:List Int} {k:Nat} (h:k<z.length):(rS eZ z)[k]? = some [i64 (z.getD k 0)]:=by
 rw [rS_get,zget h];rfl
theorem rZ_set {z:List Int} {k:Nat} {x:Int}:(rS eZ z).set k [i64 x]=rS eZ (z.set k x):=by
 unfold rS gl
 rw [List.map_set,List.map_set];rfl
theorem rZ_rep {n:Nat}:List.replicate n [i64 0]=rS eZ (List.replicate n 0):=by
 unfold rS gl
 rw [List.map_replicate,List.map_replicate];rfl
theorem sum_inc:∀ {z:List Int} {k:Nat},k<z.length→(z.set k (z.getD k 0 + 1)).sum=z.sum + 1
 | x :: z,0,_=>by show (x + 1) + z.sum=x + z.sum + 1;omega
 | x :: z,k + 1,h=>by
   have:=sum_inc (z:=z) (k:=k) (by simpa using h)
   show x + (z.set k (z.getD k 0 + 1)).sum=x + z.sum + 1
   omega
theorem nn_inc {z:List Int} {k:Nat} (hk:k<z.length) (h:∀ x ∈ z,0≤x):∀ x ∈ z.set k (z.getD k 0 + 1),0≤x:=fun x hx=>by
 rcases List.mem_or_eq_of_mem_set hx with h1|h1
 ·exact h x h1
 ·have:=h _ (List.mem_of_getElem? (zget hk));omega
structure Pw (n deg:Nat) (z:List Int):Prop where
 len:z.length=n
 nn:∀ x ∈ z,0≤x
 sum:z.sum≤deg
set_option maxHeartbeats 2000000 in
theorem p_dPowers {k:Nm} {S:Store} {Q:D→Store→Prop} {bd i n deg:Nat} {w:List Nat} (hS:S k=some ⟨bd,2,0,[[W64 w,i64 i]]⟩) (hb:B64 w) (hi:i≤700000000) (h1:1≤n) (h4:n≤4) (h8:deg≤8)
 (hQ:∀ (z:List Int) (j:Nat),Pw n deg z→j≤i + 9→Q (.g (eS eZ z)) (updS S k (some ⟨bd,2,0,[[W64 w,i64 j]]⟩))) :
 PFC Tryz.prog 63 [.ptr k bd 0 0 2,i64 n,i64 deg] S Q:=by
 refine PFB (rs:=[.tmp 6]) Tryz.func63 ?_
 repeat (first|(with_reducible first|refine pv_seq fun K hK=>?_|((first|refine hK _ _ ?_|(clear hK;refine hK _ _ ?_)|(clear hK;clear hK;refine hK _ _ ?_));clear hK;try clear K))| refine W0 ?_|exact Z|with_reducible intro b)
 refine p_dN (n:=deg + 1) (i:=i) (by simp -implicitDefEqProofs only [updS,upS];exact hS) hb (by omega) (by omega) (by omega) (fun r hr=>?_)
 repeat (first|(with_reducible first|refine pv_seq fun K hK=>?_|((first|refine hK _ _ ?_|(clear hK;refine hK _ _ ?_)|(clear hK;clear hK;refine hK _ _ ?_));clear hK;try clear K))| refine W0 ?_|exact Z|with_reducible intro b)
 have J:∀ (e:DEnv) (T:Store) (z:List Int) (j b7:Nat),Pw n deg z→j≤i + 9→e 7=.own (.l 10) b7 0 n n 1→T (.l 10)=some ⟨b7,1,0,rS eZ z⟩→Dk S k T (some ⟨bd,2,0,[[W64 w,i64 j]]⟩)→K e T:=by
  intro e T z j b7 hz hj g7 s7 hd
  have hw:RowD T (.l 10) 1 (e 7) (rS eZ z):=by rw [g7];exact RowD.own (by rw [rS_len,hz.len]) s7
  repeat (first|(with_reducible first|refine pv_seq fun K hK=>?_|((first|refine hK _ _ ?_|(clear hK;refine hK _ _ ?_)|(clear hK;clear hK;refine hK _ _ ?_));clear hK;try clear K))| refine W0 ?_|exact Z|with_reducible intro b)
  exact hw.coeD fun T2 _ hT2=>by rw [(hd.of hT2).dn];exact hQ z j hz hj
 clear hK
 obtain ⟨I,mk,el⟩:=hide fun e T=>∃ (t j b7:Nat) (z:List Int),t + z.sum.toNat≤deg∧z.length=n∧(∀ x ∈ z,0≤x)∧0≤z.sum∧j≤i + 1 + z.sum.toNat∧e 0=.ptr (.up k) bd 0 0 2∧e 1=i64 n∧e 8=i64 t∧e 7=.own (.l 10) b7 0 n n 1∧T (.l 10)=some ⟨b7,1,0,rS eZ z⟩∧Dk S k T (some ⟨bd,2,0,[[W64 w,i64 j]]⟩)
 refine pv_loop I (fun e _=>(intD (e 8)).toNat) ?_ ?_
 ·have hsum:(List.replicate n (0:Int)).sum=0:=by simp
  refine mk _ _ ⟨r,i + 1,_,List.replicate n 0,by rw [hsum];simp;omega,by simp,fun x hx=>by rw [(List.mem_replicate.1 hx).2];decide,by rw [hsum];decide,by omega,Zr,Zr,Zr,Zr,?_,?_⟩
  ·rw [← rZ_rep];simp only [updS_apply];rfl
  ·exact ((Dk.up hS).l).set
 ·intro e T hI
  obtain ⟨t,j,b7,z,htz,hzl,hnn,hs0,hj,g0,g1,g8,g7,s7,hd⟩:=el e T hI
  clear el hI
  have ft:=And.intro g0 (And.intro g1 (And.intro g8 g7))
  repeat (first|(with_reducible first|refine pv_seq fun K hK=>?_|((first|refine hK _ _ ?_|(clear hK;refine hK _ _ ?_)|(clear hK;clear hK;refine hK _ _ ?_));clear hK;try clear K))| refine W0 ?_|exact Z|with_reducible intro b)
  refine pv_cdD (fun ht=>?_) (fun ht=>?_)
  ·obtain ⟨t,rfl⟩:∃ t2,t=t2 + 1:=⟨t - 1,by omega⟩
   have hm0:(intD (e 8)).toNat=t + 1:=by rw [g8];exact Int.toNat_natCast _
   repeat (first|(with_reducible first|refine pv_seq fun K hK=>?_|((first|refine hK _ _ ?_|(clear hK;refine hK _ _ ?_)|(clear hK;clear hK;refine hK _ _ ?_));clear hK;try clear K))| refine W0 ?_|exact Z|with_reducible intro b)
   refine p_dN (n:=n) hd.at_ hb (by omega) (by omega) (by omega) (fun c hc=>?_)
   have q1:=rZ_at (z:=z) (k:=c) (by omega)
   have hset:=rZ_set (z:=z) (k:=c) (x:=z.getD c 0 + 1)
   have hsi:=sum_inc (z:=z) (k:=c) (by omega)
   have hni:=nn_inc (z:=z) (k:=c) (by omega) hnn
   have hsub:(((t + 1:Nat):Int) - 1)=(t:Int):=by omega
   have hx8:z.getD c 0≤8:=by
    have:=le_sum hnn c (by omega)
    omega
   have hx0:0≤z.getD c 0:=hnn _ (List.mem_of_getElem? (zget (by omega)))
   generalize z.getD c 0=x at *
   have hc2:(c:Int).toNat=c:=by omega
   have ft:=And.intro g0 (And.intro g1 (And.intro g8 (And.intro g7 (And.intro s7 (And.intro q1 hsub)))))
   repeat (first|(with_reducible first|refine pv_seq fun K hK=>?_|((first|refine hK _ _ ?_|(clear hK;refine hK _ _ ?_)|(clear hK;clear hK;refine hK _ _ ?_));clear hK;try clear K))| refine W0 ?_|exact Z|with_reducible intro b)
   exact ⟨mk _ _ ⟨t,j + 1,b7,z.set c (x + 1),by rw [hsi];omega,by rw [List.length_set];exact hzl,hni,by rw [hsi];omega,by rw [hsi];omega,Zr,Zr,Zr,Zr,by rw [← hset];simp only [updS_apply];rfl,(hd.set).l⟩,by simp only [intD];omega⟩
  ·obtain rfl:t=0:=by omega
   have ft:=And.intro g0 (And.intro g1 (And.intro g7 g8))
   repeat (first|(with_reducible first|refine pv_seq fun K hK=>?_|((first|refine hK _ _ ?_|(clear hK;refine hK _ _ ?_)|(clear hK;clear hK;refine hK _ _ ?_));clear hK;try clear K))| refine W0 ?_|exact Z|with_reducible intro b)
   exact J _ _ z j b7 ⟨hzl,hnn,by omega⟩ (by omega) g7 s7 hd
structure DrM (n deg:Nat) (m:Mo):Prop where
 c:∃ d,m.c=nuOf d∧Sm 14 6 d
 e:Pw n deg m.e
theorem DrM.wm {n deg:Nat} {m:Mo} (h:DrM n deg m) (hn:n≤100000):Wm m:=by
 obtain ⟨d,hd,hs⟩:=h.c
 exact ⟨by rw [hd];exact ((hs.ok (by decide) (by decide)).sz).wl,by rw [h.e.len];exact hn⟩
set_option maxHeartbeats 2000000 in
theorem p_dMonos {k:Nm} {S:Store} {Q:D→Store→Prop} {bd i n most deg:Nat} {w:List Nat} (hS:S k=some ⟨bd,2,0,[[W64 w,i64 i]]⟩) (hb:B64 w) (hi:i≤500000000) (h1:1≤n) (h4:n≤4) (h8:deg≤8) (hm:most≤1000)
 (hQ:∀ (q:List Mo) (j:Nat),q.length≤most→(∀ m ∈ q,DrM n deg m)→j≤i + 1 + 10 * most→Q (MM q) (updS S k (some ⟨bd,2,0,[[W64 w,i64 j]]⟩))) :
 PFC Tryz.prog 23 [.ptr k bd 0 0 2,i64 n,i64 most,i64 deg] S Q:=by
 refine PFB (rs:=[.tmp 8]) Tryz.func23 ?_
 repeat (first|(with_reducible first|refine pv_seq fun K hK=>?_|((first|refine hK _ _ ?_|(clear hK;refine hK _ _ ?_)|(clear hK;clear hK;refine hK _ _ ?_));clear hK;try clear K))| refine W0 ?_|exact Z|with_reducible intro b)
 refine p_dN (n:=most + 1) (i:=i) (by simp -implicitDefEqProofs only [updS,upS];exact hS) hb (by omega) (by omega) (by omega) (fun r hr=>?_)
 repeat (first|(with_reducible first|refine pv_seq fun K hK=>?_|((first|refine hK _ _ ?_|(clear hK;refine hK _ _ ?_)|(clear hK;clear hK;refine hK _ _ ?_));clear hK;try clear K))| refine W0 ?_|exact Z|with_reducible intro b)
 have J:∀ (e:DEnv) (T:Store) (q:List Mo) (j:Nat),q.length≤most→(∀ m ∈ q,DrM n deg m)→j≤i + 1 + 10 * most→RowZ T (.l 28) 4 (e 9) (rS eM q)→Dk S k T (some ⟨bd,2,0,[[W64 w,i64 j]]⟩)→K e T:=by
  intro e T q j hq hd hj hw hk
  repeat (first|(with_reducible first|refine pv_seq fun K hK=>?_|((first|refine hK _ _ ?_|(clear hK;refine hK _ _ ?_)|(clear hK;clear hK;refine hK _ _ ?_));clear hK;try clear K))| refine W0 ?_|exact Z|with_reducible intro b)
  exact hw.toD.coeD fun T2 _ hT2=>by rw [(hk.of hT2).dn];exact hQ q j hq hd hj
 clear hK
 obtain ⟨I,mk,el⟩:=hide fun e T=>∃ (t j:Nat) (q:List Mo),t + q.length≤most∧(∀ m ∈ q,DrM n deg m)∧j≤i + 1 + 10 * q.length∧e 0=.ptr (.up k) bd 0 0 2∧e 1=i64 n∧e 3=i64 deg∧e 10=i64 t∧RowZ T (.l 28) 4 (e 9) (rS eM q)∧Dk S k T (some ⟨bd,2,0,[[W64 w,i64 j]]⟩)
 refine pv_loop I (fun e _=>(intD (e 10)).toNat) ?_ ?_
 ·exact mk _ _ ⟨r,i + 1,[],by simp;omega,fun m hm=>(by cases hm),by simp,Zr,Zr,Zr,Zr,.inl ⟨Zr,rfl⟩,(Dk.up hS).set⟩
 ·intro e T hI
  obtain ⟨t,j,q,htq,hd,hj,g0,g1,g3,g10,hw,hk⟩:=el e T hI
  clear el hI
  have ft:=And.intro g0 (And.intro g1 (And.intro g3 g10))
  repeat (first|(with_reducible first|refine pv_seq fun K hK=>?_|((first|refine hK _ _ ?_|(clear hK;refine hK _ _ ?_)|(clear hK;clear hK;refine hK _ _ ?_));clear hK;try clear K))| refine W0 ?_|exact Z|with_reducible intro b)
  refine pv_cdD (fun ht=>?_) (fun ht=>?_)
  ·obtain ⟨t,rfl⟩:∃ t2,t=t2 + 1:=⟨t - 1,by omega⟩
   have hsub:(((t + 1:Nat):Int) - 1)=(t:Int):=by omega
   have ft:=And.intro g0 (And.intro g1 (And.intro g10 (And.intro g3 hsub)))
   repeat (first|(with_reducible first|refine pv_seq fun K hK=>?_|((first|refine hK _ _ ?_|(clear hK;refine hK _ _ ?_)|(clear hK;clear hK;refine hK _ _ ?_));clear hK;try clear K))| refine W0 ?_|exact Z|with_reducible intro b)
   refine p_smallD hk.at_ hb (by omega) fun x sx _=>?_
   repeat (first|(with_reducible first|refine pv_seq fun K hK=>?_|((first|refine hK _ _ ?_|(clear hK;refine hK _ _ ?_)|(clear hK;clear hK;refine hK _ _ ?_));clear hK;try clear K))| refine W0 ?_|exact Z|with_reducible intro b)
   refine p_dPowers (i:=j + 1) (n:=n) (deg:=deg) (by (try simp -implicitDefEqProofs only [updS_apply,if_true,eq_self]);try rfl) hb (by omega) h1 h4 h8 fun z j2 hz hj2=>?_
   have hnew:=rS_m (l:=q) (m:=⟨nuOf x,z⟩)
   have hdr:DrM n deg ⟨nuOf x,z⟩:=⟨⟨x,rfl,sx⟩,hz⟩
   simp only at hnew
   generalize nuOf x=X at *
   obtain ⟨n1,e1,w1⟩:=X
   repeat (first|(with_reducible first|refine pv_seq fun K hK=>?_|((first|refine hK _ _ ?_|(clear hK;refine hK _ _ ?_)|(clear hK;clear hK;refine hK _ _ ?_));clear hK;try clear K))| refine W0 ?_|exact Z|with_reducible intro b)
   refine RowZ.appL (hw.up ?_) (by decide) rfl (by simp [D.one,W64]) ?_ ?_ fun d' S3 hr3 hS3=>?_
   ·simp only [updS_apply,reduceCtorEq,if_false]
   ·rw [rS_len];simp only [List.length_singleton];omega
   ·rw [rS_len];simp only [List.length_singleton];omega
   repeat (first|(with_reducible first|refine pv_seq fun K hK=>?_|((first|refine hK _ _ ?_|(clear hK;refine hK _ _ ?_)|(clear hK;clear hK;refine hK _ _ ?_));clear hK;try clear K))| refine W0 ?_|exact Z|with_reducible intro b)
   refine ⟨mk _ _ ⟨t,j2,q ++ [⟨⟨n1,e1,w1⟩,z⟩],by simp;omega,fun m hm=>?_,by simp;omega,Zr,Zr,Zr,Zr,by rw [← hnew];exact hr3,?_⟩,by simp only [intD];omega⟩
   ·rcases List.mem_append.1 hm with h|h
    ·exact hd m h
    ·rw [List.mem_singleton.1 h];exact hdr
   ·exact ((hk.set.set).l).of hS3
  ·obtain rfl:t=0:=by omega
   repeat (first|(with_reducible first|refine pv_seq fun K hK=>?_|((first|refine hK _ _ ?_|(clear hK;refine hK _ _ ?_)|(clear hK;clear hK;refine hK _ _ ?_));clear hK;try clear K))| refine W0 ?_|exact Z|with_reducible intro b)
   exact J _ _ q j (by omega) hd (by omega) hw hk
structure DrP (n most deg:Nat) (q:List Mo):Prop where
 right:polyB q (n:Int)=true
 len:q.length≤most
 c:∀ m ∈ q,∃ d,m.c=nuOf d∧d≠0∧Sm (14 + most) 6 d
 e:∀ m ∈ q,Pw n deg m.e
theorem DrP.wf {n most deg:Nat} {q:List Mo} (h:DrP n most deg q) (hn:n≤100000) (hm:most≤1000):WfM q:=⟨by have:=h.len;omega,fun m hm2=>by
 obtain ⟨d,hd,_,hs⟩:=h.c m hm2
 exact ⟨by rw [hd];exact (((hs.ok2 (by omega) (by decide))).sz).wl,by rw [(h.e m hm2).len];exact hn⟩⟩
theorem drP_of {n most deg:Nat} {q:List Mo} (h1:1≤n) (h4:n≤4) (h8:deg≤8) (hm:most≤24) (hl:q.length≤most) (h:∀ m ∈ q,DrM n deg m):∃ p,pmkR q (n:Int)=(p,0)∧DrP n most deg p:=by
 have hall:allM q (n:Int)=true:=decide_eq_true fun m hm=>by
  obtain ⟨d,hd,hs⟩:=(h m hm).c
  have he:=(h m hm).e
  unfold monoB
  have hsum:=he.sum
  rw [decide_eq_true (show ((m.e.length:Nat):Int)=n by rw [he.len]),decide_eq_true he.nn,decide_eq_true (show m.e.sum≤8 by omega),hd,rightB_nuOf,decide_eq_true (hs.ok (by decide) (by decide))];rfl
 have hv:∀ t ∈ q.map teM,Sm 14 6 t.v:=fun t ht=>by
  obtain ⟨m,hm,rfl⟩:=List.mem_map.1 ht
  obtain ⟨d,hd,hs⟩:=(h m hm).c
  show Sm 14 6 m.c.val
  rw [hd,val_nuOf];exact hs
 have he:∀ t ∈ q.map teM,Pw n deg t.e:=fun t ht=>by
  obtain ⟨m,hm,rfl⟩:=List.mem_map.1 ht
  exact (h m hm).e
 have hlm:(q.map teM).length=q.length:=List.length_map _
 have hsm:=gathN_sm hv (q.map teM).length (Nat.le_refl _)
 have hel:=gathN_all (P:=Pw n deg) he (q.map teM).length (Nat.le_refl _)
 have hsm2:∀ y ∈ gathN (q.map teM) (q.map teM).length,Sm (14 + most) 6 y.v:=fun y hy=>(hsm y hy).mono (by omega)
 have hlen:=gathN_len (q.map teM) (q.map teM).length
 obtain ⟨p,e1,e2,e3⟩:=gathR_ok (n:=n) (l:=q.map teM) h1 h4 (by omega) (fun t ht=>⟨(he t ht).len,(he t ht).nn,by have:=(he t ht).sum;omega⟩) (fun y hy=>(hsm2 y hy).ok2 (by omega) (by decide))
 refine ⟨p,?_,e3,?_,?_,?_⟩
 ·unfold pmkR
  rw [hall,decide_eq_true (show (1:Int)≤n by omega),decide_eq_true (show (n:Int)≤4 by omega)]
  exact e1
 ·rw [e2,List.length_map]
  exact Nat.le_trans (List.length_filter_le _ _) (by omega)
 ·intro m hm
  rw [e2] at hm
  obtain ⟨t,ht,rfl⟩:=List.mem_map.1 hm
  obtain ⟨ht,h0⟩:=List.mem_filter.1 ht
  exact ⟨t.v,rfl,of_decide_eq_true h0,hsm2 t ht⟩
 ·intro m hm
  rw [e2] at hm
  obtain ⟨t,ht,rfl⟩:=List.mem_map.1 hm
  exact hel t (List.mem_filter.1 ht).1
set_option maxHeartbeats 1000000 in
theorem p_dPoly {k:Nm} {S:Store} {Q:D→Store→Prop} {bd i n most deg:Nat} {w:List Nat} (hS:S k=some ⟨bd,2,0,[[W64 w,i64 i]]⟩) (hb:B64 w) (hi:i≤500000000) (h1:1≤n) (h4:n≤4) (h8:deg≤8) (hm:most≤24)
 (hQ:∀ (q:List Mo) (j:Nat),DrP n most deg q→j≤i + 1 + 10 * most→Q (MM q) (updS S k (some ⟨bd,2,0,[[W64 w,i64 j]]⟩))) :
 PFC Tryz.prog 25 [.ptr k bd 0 0 2,i64 n,i64 most,i64 deg] S Q:=by
 refine PFB (rs:=[.tmp 8]) Tryz.func25 ?_
 repeat (first|(with_reducible first|refine pv_seq fun K hK=>?_|((first|refine hK _ _ ?_|(clear hK;refine hK _ _ ?_)|(clear hK;clear hK;refine hK _ _ ?_));clear hK;try clear K))| refine W0 ?_|exact Z|with_reducible intro b)
 refine p_dMonos (i:=i) (n:=n) (most:=most) (deg:=deg) (by simp -implicitDefEqProofs only [updS,upS];exact hS) hb hi h1 h4 h8 (by omega) fun q j hq hd hj=>?_
 have pM:=p_rPMake (n:=(n:Int)) (q:=q) ⟨by omega,fun m hm=>(hd m hm).wm (by omega)⟩ (by omega)
 obtain ⟨p,e1,e2⟩:=drP_of h1 h4 h8 hm hq hd
 rw [e1] at pM
 have hq2:=hQ p j e2 hj
 unfold MM LM at *
 repeat (first|(with_reducible first|refine pv_seq fun K hK=>?_|((first|refine hK _ _ ?_|(clear hK;refine hK _ _ ?_)|(clear hK;clear hK;refine hK _ _ ?_));clear hK;try clear K))| refine W ?_|exact Z|with_reducible intro b)
 exact hq2
end Go.V
namespace Go.V
open Go Go.RowKit Go.Proofs Go.Shelf Go.Sort
theorem ext_grow {W w':World} (h:Ext W w'):∃ q os,w'=grow (W.drewN q) os:=by
 refine ⟨w'.drawn - W.drawn,w'.heap.extract W.heap.size w'.heap.size,?_⟩
 have hh:w'.heap=W.heap ++ w'.heap.extract W.heap.size w'.heap.size:=by
  apply Array.ext_getElem?
  intro i
  have hs:=h.size
  rw [Array.getElem?_append]
  split
  ·rename_i hi;exact h.block i hi
  ·rename_i hi
   rw [Array.getElem?_extract]
   split
   ·congr 1;omega
   ·rw [Array.getElem?_eq_none (by omega)]
 have hd:=h.dr
 have ho:=h.os
 have ht:=h.tape
 have hu:=h.output
 cases w'
 cases W
 simp only at hh hd ho ht hu
 simp only [grow,World.drewN]
 subst ho;subst ht;subst hu
 congr 1
 omega
theorem grow_ext (w:World) (os:Array Obj):Ext w (grow w os) :=
 ⟨⟨rfl,rfl,rfl,by simp [grow],fun k hk=>by show (w.heap ++ os)[k]? = w.heap[k]?;rw [Array.getElem?_append_left hk]⟩,Nat.le_refl _⟩
theorem ahead_rel {I:CI} {S:Store} {w:World} (h:Rel I S w) (n:Nat):Rel I S (Sort.ahead w n)∧Stp I S w I S (Sort.ahead w n) :=
 ⟨⟨⟨h.gi.old,h.gi.gl⟩,h.has,h.inj,fun G hG=>⟨(h.gho G hG).rec_,(h.gho G hG).kind,(h.gho G hG).rd⟩⟩,
  ⟨rfl,rfl,rfl,Nat.le_refl _,Nat.le_add_right _ _,fun _ _ h=>h,fun _ _ h=>.inl h,HEv.refl _ _,fun _ _ _ _=>rfl,fun k B hk=>.inr ⟨k,B,hk,rfl⟩,fun G hG=>.inr ⟨G,hG,rfl⟩⟩⟩
theorem putCells_at {c F:Array Value} {k:Nat} (hk:k<c.size) (hF:k<F.size):(putCells id 0 F c)[k]? = some F[k]! := by
 unfold putCells
 rw [Array.getElem?_mapIdx,Array.getElem?_eq_getElem hk]
 simp [hF]
section
variable {P:Program} {ρ:Ren} {α:Type} {f:α→List G} {s:Nat}
set_option maxHeartbeats 2000000 in
theorem PFC.sort (L:SlLaysF0.n6 P ρ) (aE:∀ w,(isAgg (ρ.t 24)).run P w=.ok true w) (zE:∀ w,(Go.sizeOf (ρ.t 24)).run P w=.ok s w) (hs:0<s) (hf:∀ x,(f x).length=s) (cf:α→α→Int) (hO:SWO (ltOf cf)) {g:FuncId}
 (eg:∀ args w,(callFunc g args).run P w=.ok (.enter g args) w) {xs:List α} (hcmp:∀ x ∈ xs,∀ y ∈ xs,PC P g [.agg ((f x).map D.g),.agg ((f y).map D.g)] fun d=>d=.g (.lit (.int .i64 (cf x y)))) {S:Store} {k:Nm} {b cap:Nat}
 (hk:S k=some ⟨b,s,0,rS f xs⟩) (hn:0<xs.length) (h62:xs.length<4611686018427387904) :
 PFC P (ρ.f 6) [.own k b 0 xs.length cap s,.fn g [] []] S fun d S'=>d=.tup []∧∃ ys,ys.Perm xs∧ys.Pairwise (fun x y=>¬ cf y x<0)∧S'=updS S k (some ⟨b,s,0,rS f ys⟩):=by
 intro w I vs hR hv
 obtain ⟨v1,r,rfl,hv1,hv⟩:=hv.uncons
 obtain ⟨v2,r,rfl,hv2,hv⟩:=hv.uncons
 obtain rfl:=hv.unnil
 obtain ⟨cur,el,c1,c2,c3,c4,c5,c6⟩:=(hR.has k _ hk).ex
 simp only at c1 c2 c3 c4 c5
 obtain rfl:v1=.slice (some ⟨b,0,none⟩) xs.length cap:=by
  cases hv1 with|own _ _ _ _ _ _ cur0 el0 fr h1 h2 h3 hb hs0=>simp
 obtain rfl:v2=.func (.func g) #[] #[]:=by
  cases hv2 with|fn _ _ _ vs us h1 h2 h3 h4 =>
   rw [List.eq_nil_of_length_eq_zero h1,List.eq_nil_of_length_eq_zero h2]
 have hblk:b<w.heap.size:=hR.lt hk
 rw [rS_len] at c2
 obtain ⟨n,hnn⟩:∃ n,n=xs.length:=⟨_,rfl⟩
 rw [← hnn] at hn h62 c2 ⊢
 obtain ⟨x0,hx0⟩:∃ x,xs[0]? = some x:=⟨xs[0]'(by omega),List.getElem?_eq_getElem (by omega)⟩
 obtain ⟨pl,hpl⟩:∃ pl:Nat→Nat,pl=fun i=>if i<n then i else 0:=⟨_,rfl⟩
 have pl_lt:∀ i,pl i<n:=fun i=>by rw [hpl];simp only;split<;>omega
 have pl_id:∀ i,i<n→pl i=i:=fun i hi=>by rw [hpl];simp only;rw [if_pos hi]
 obtain ⟨at_,hat⟩:∃ at_:Nat→α,at_=fun i=>xs.getD (pl i) x0:=⟨_,rfl⟩
 have at_get:∀ i,xs[pl i]? = some (at_ i):=fun i=>by
  have:=pl_lt i
  rw [hat];simp [List.getD,List.getElem?_eq_getElem (show pl i<xs.length by omega)]
 have at_mem:∀ i,at_ i ∈ xs:=fun i=>List.mem_of_getElem? (at_get i)
 obtain ⟨enc,henc⟩:∃ enc:Nat→List Value,enc=fun i=>(cur.toList.drop (pl i * s)).take s:=⟨_,rfl⟩
 have room:∀ i,i<n→i * s + s≤cur.size:=fun i hi=>by
  have:(i + 1) * s≤n * s:=Nat.mul_le_mul_right _ hi
  rw [Nat.add_mul] at this;omega
 have enc_len:∀ i,(enc i).length=s:=fun i=>by
  have:=room _ (pl_lt i)
  rw [henc];simp;omega
 have enc_get:∀ i j,j<s→(enc i)[j]? = cur[pl i * s + j]? := fun i j hj=>by
  rw [henc];simp only [List.getElem?_take,if_pos hj,List.getElem?_drop,Array.getElem?_toList]
 have enc_rd:∀ i j x u,(f (at_ i))[j]? = some x→(enc i)[j]? = some u→RdG I w.heap x u:=fun i j x u hx hu=>by
  have hj:j<s:=by rw [← hf (at_ i)];exact (List.getElem?_eq_some_iff.1 hx).1
  have h1:(rS f xs)[pl i]? = some ((f (at_ i)).map D.g):=by rw [rS_get,at_get];rfl
  obtain ⟨u',h2,h3⟩:=c4 (pl i) _ j (.g x) h1 (by rw [List.getElem?_map,hx];rfl)
  rw [enc_get i j hj,h2] at hu
  injection hu with hu
  subst hu
  exact h3.g_inv
 have enc_one:∀ i,∀ v ∈ enc i,v.oneCell'=true:=fun i v hv=>by
  obtain ⟨j,hj⟩:=List.getElem?_of_mem hv
  have hjs:j<s:=by rw [← enc_len i];exact (List.getElem?_eq_some_iff.1 hj).1
  have hx:(f (at_ i))[j]? = some ((f (at_ i))[j]'(by rw [hf];exact hjs)):=List.getElem?_eq_getElem _
  exact (enc_rd i j _ v hx hj).one
 have flat_at:∀ (d:Array Nat),d.size=n→∀ i j,i<n→j<s→(flatK enc s d)[i * s + j]! = (enc d[i]!)[j]! := fun d hd i j hi hj=>by
  have lt:i * s + j<d.size * s:=by rw [hd];have:=Nat.mul_le_mul_right s (show i + 1≤n from hi);rw [Nat.add_mul,Nat.one_mul] at this;omega
  have e1:(i * s + j) / s=i:=(blk_iff s i _ hs).1 ⟨by omega,by omega⟩
  have e2:(i * s + j) % s=j:=by rw [Nat.mod_eq_sub_div_mul,e1];omega
  rw [get_flatK _ _ _ _ lt,e1,e2]
 have part:∀ t,t<n * s→t / s<n∧t % s<s∧t=t / s * s + t % s:=fun t ht =>
  ⟨by rw [Nat.div_lt_iff_lt_mul hs];exact ht,Nat.mod_lt _ hs,by have:=Nat.div_add_mod t s;rw [Nat.mul_comm] at this;omega⟩
 have hH:HoldsK enc s w b 0 (Array.range n):=by
  intro t ht
  rw [size_flatK,Array.size_range] at ht
  obtain ⟨h1,h2,h3⟩:=part t ht
  have hlt:t<cur.size:=by omega
  have hfl:=flat_at (Array.range n) (by simp) (t / s) (t % s) h1 h2
  rw [← h3] at hfl
  have hr:(Array.range n)[t / s]! = t / s:=by simp [h1]
  rw [hr] at hfl
  have hg:=enc_get (t / s) (t % s) h2
  rw [pl_id _ h1,← h3] at hg
  have hcur:cur[t]? = some cur[t]:=Array.getElem?_eq_getElem hlt
  rw [hcur] at hg
  have he:(enc (t / s))[t % s]! = cur[t]:=by rw [List.getElem!_eq_getElem?_getD,hg];rfl
  constructor
  ·simp only [Nat.zero_add,id,World.cell?,c1,hfl,he]
   simp [hcur]
  ·simp [World.frozen?,c1]
 have hO':SWO (ltOf fun i j:Nat=>cf (at_ i) (at_ j)):=⟨fun x=>hO.irrefl _,fun x y z=>hO.trans _ _ _,fun x y z=>hO.ntrans _ _ _⟩
 have blk_at:∀ (m:Nat) (dk:Array Nat),(putRowK enc s (Sort.ahead w m) b 0 dk).heap[b]? = some (.cells (putCells id 0 (flatK enc s dk) cur) el (0,0)):=fun m dk=>by
  show (w.heap.modify b (onCells (putCells id 0 (flatK enc s dk))))[b]? = _
  rw [Array.getElem?_modify,if_pos rfl,c1];rfl
 have blk_ne:∀ (m:Nat) (dk:Array Nat) (q:Nat),q≠b→(putRowK enc s (Sort.ahead w m) b 0 dk).heap[q]? = w.heap[q]? := fun m dk q hq=>by
  show (w.heap.modify b (onCells (putCells id 0 (flatK enc s dk))))[q]? = _
  rw [Array.getElem?_modify,if_neg (fun e=>hq e.symm)]
 have psize:∀ (m:Nat) (dk:Array Nat),(putRowK enc s (Sort.ahead w m) b 0 dk).heap.size=w.heap.size:=fun m dk=>by
  show (w.heap.modify b (onCells (putCells id 0 (flatK enc s dk)))).size=_
  simp
 have pcells:∀ F:Array Value,(putCells id 0 F cur).size=cur.size:=fun F=>by simp [putCells]
 have hev1:∀ (m:Nat) (dk:Array Nat),HEv I w.heap (putRowK enc s (Sort.ahead w m) b 0 dk).heap:=fun m dk b' cur' el' fr' hb'=>by
  by_cases hbb:b'=b
  ·subst hbb
   rw [c1] at hb'
   injection hb' with hb'
   injection hb' with e1 e2 e3
   subst e1;subst e2;subst e3
   exact ⟨_,blk_at m dk,pcells _,fun j hj=>by have:=c5 j hj;omega⟩
  ·exact ⟨cur',by rw [blk_ne m dk b' hbb];exact hb',rfl,fun _ _=>rfl⟩
 have hC:CmpLays P g #[] enc s (fun i j=>cf (at_ i) (at_ j)) b 0 (Array.range n).size w:=by
  intro m os dk _ x y
  have hE2:=grow_ext (putRowK enc s (Sort.ahead w m) b 0 dk) os
  have hIs:∀ b j,I b j→I b j:=fun _ _ h=>h
  have hHE:HEv I w.heap (sortWorldK enc s w b 0 m dk os).heap:=(hev1 m dk).trans hIs (hev_ext hE2)
  have hG:GI I (sortWorldK enc s w b 0 m dk os):=hR.gi.mono hIs hHE fun b j hj=>by
   have h1:=hR.old b j hj
   have h2:=hE2.size
   rw [psize] at h2
   exact Nat.lt_of_lt_of_le h1 h2
  have rd:∀ i,RdD I (sortWorldK enc s w b 0 m dk os).heap (.agg ((f (at_ i)).map D.g)) (.agg (enc i).toArray):=fun i=>by
   refine RdD.ofL ⟨by rw [enc_len,List.length_map,hf],fun j d u hd hu=>?_⟩
   rw [List.getElem?_map] at hd
   cases hx:(f (at_ i))[j]? with
   | none=>rw [hx] at hd;cases hd
   | some x =>
     rw [hx] at hd
     injection hd with hd
     subst hd
     exact .g ((enc_rd i j x u hx hu).mono hIs hHE)
  have hp:=hcmp (at_ x) (at_mem x) (at_ y) (at_mem y) (sortWorldK enc s w b 0 m dk os) I [.agg (enc x).toArray,.agg (enc y).toArray] hG (.cons (rd x) (.cons (rd y) .nil))
  unfold FC at hp
  rw [eg] at hp
  refine Calls.mono hp ?_
  rintro e w' ⟨v,rfl,I',d,hE,_,_,_,hd,rfl⟩
  rw [hd.lit_inv]
  exact ⟨rfl,ext_grow hE⟩
 have hcon:=AnyQ.slices_SortFunc L s aE zE enc enc_len enc_one (fun i j=>cf (at_ i) (at_ j)) hO' g #[] b 0 cap (Array.range n) w eg hC hH hblk (by simpa using h62)
 rw [Array.size_range] at hcon
 have e6:∀ args w,(callFunc (ρ.f 6) args).run P w=.ok (.enter (ρ.f 6) args) w:=L.f6.enters rfl
 unfold FC
 rw [e6]
 refine Calls.mono hcon ?_
 rintro e w' ⟨rfl,d',m,os,hp,hso,rfl⟩
 obtain ⟨hsz,_,hperm⟩:=hp
 rw [Array.size_range] at hsz
 have hd'l:d'.toList.Perm (List.range n):=by
  have h1:(d'.extract 0 n)=d':=by rw [← hsz];exact Array.extract_size
  have h2:((Array.range n).extract 0 n)=Array.range n:=by
   have:(Array.range n).extract 0 (Array.range n).size=Array.range n:=Array.extract_size
   rwa [Array.size_range] at this
  rw [h1,h2] at hperm
  simpa using hperm
 have hxs:(List.range n).map at_=xs:=by
  apply List.ext_getElem?
  intro i
  rw [List.getElem?_map]
  by_cases hi:i<n
  ·rw [List.getElem?_range hi]
   have:=at_get i
   rw [pl_id i hi] at this
   rw [this];rfl
  ·rw [List.getElem?_eq_none (by simpa using hi),List.getElem?_eq_none (by omega)];rfl
 refine ⟨.tuple #[],rfl,I,updS S k (some ⟨b,s,0,rS f (d'.toList.map at_)⟩),.tup [],?_⟩
 obtain ⟨r1,s1⟩:=ahead_rel hR m
 have hsize':(putCells id 0 (flatK enc s d') cur).size=cur.size:=pcells _
 have dget:∀ i,i<n→d'.toList[i]? = some d'[i]! := fun i hi=>by
  rw [Array.getElem?_toList,Array.getElem?_eq_getElem (by omega),getElem!_pos d' i (by omega)]
 obtain ⟨r2,s2⟩:=r1.write (B:=⟨b,s,0,rS f xs⟩) hk (w':=putRowK enc s (Sort.ahead w m) b 0 d') (xs:=cur.toList) (ys:=(putCells id 0 (flatK enc s d') cur).toList) (el:=el)
  (by unfold Row;simpa using c1) (by unfold Row;simpa using blk_at m d')
  ⟨rfl,rfl,rfl,psize m d',fun q hq=>blk_ne m d' q hq,rfl⟩ (by simpa using hsize') (els:=rS f (d'.toList.map at_)) (Nat.zero_le _)
  (by rw [rS_len,List.length_map,Array.length_toList,hsz,Array.length_toList,hsize'];exact c2)
  (fun i es he=>by
    rw [rS_get] at he
    cases hi:(d'.toList.map at_)[i]? with
    | none=>rw [hi] at he;cases he
    | some y=>rw [hi] at he;injection he with he;rw [← he,List.length_map,hf])
  (fun j hj=>by simp at hj)
  (fun i es j d he hd=>by
    rw [rS_get,List.getElem?_map] at he
    have hi:i<n:=by
     rcases Nat.lt_or_ge i n with h|h
     ·exact h
     ·rw [List.getElem?_eq_none (by rw [Array.length_toList];omega)] at he;cases he
    rw [dget i hi] at he
    injection he with he
    subst he
    rw [List.getElem?_map] at hd
    cases hx:(f (at_ d'[i]!))[j]? with
    | none=>rw [hx] at hd;cases hd
    | some x =>
      rw [hx] at hd
      injection hd with hd
      subst hd
      have hj:j<s:=by rw [← hf (at_ d'[i]!)];exact (List.getElem?_eq_some_iff.1 hx).1
      have hlen:=enc_len d'[i]!
      have hu:(enc d'[i]!)[j]? = some (enc d'[i]!)[j]! := by rw [List.getElem?_eq_getElem (by omega),getElem!_pos (enc d'[i]!) j (by omega)]
      refine ⟨(enc d'[i]!)[j]!,?_,.g (enc_rd _ j x _ hx hu)⟩
      have hlt:i * s + j<n * s:=by have:=Nat.mul_le_mul_right s (show i + 1≤n from hi);rw [Nat.add_mul,Nat.one_mul] at this;omega
      show (putCells id 0 (flatK enc s d') cur).toList[i * s + j]? = _
      rw [Array.getElem?_toList,putCells_at (by omega) (by rw [size_flatK,hsz];exact hlt),flat_at d' hsz i j hi hj])
 have hE2:=grow_ext (putRowK enc s (Sort.ahead w m) b 0 d') os
 have r3:=r2.ext hE2 (fun _ _ h=>h) (fun _ _ h=>.inl h) (fun b' j hj=>Nat.lt_of_lt_of_le (r2.old b' j hj) hE2.size)
 have s3:=Stp.of_ext (S:=updS S k (some ⟨b,s,0,rS f (d'.toList.map at_)⟩)) hE2 (fun _ _ (h:I _ _)=>h) (fun _ _ h=>.inl h) r2.old
 refine ⟨(s1.trans s2).trans s3,r3,RdD.ofT .nil,rfl,d'.toList.map at_,?_,?_,rfl⟩
 ·have:=hd'l.map at_
  rwa [hxs] at this
 ·rw [List.pairwise_iff_getElem]
  intro i j hi hj hij
  simp only [List.length_map,Array.length_toList] at hi hj
  have h1:=hso i j (Nat.zero_le _) hij (by omega)
  rw [getElem!_pos d' i (by omega),getElem!_pos d' j (by omega)] at h1
  simpa [ltOf] using h1
end
end Go.V
namespace Go.V
open Go Go.RowKit Go.Proofs
theorem pfc_own {P:Program} {f:FuncId} {args:List D} {S:Store} {K:D→Store→Prop} {k:IntKind} {el:TypeId} {xs:List Nat} (nm:Nm) (h47:xs.length≤140737488355328)
 (h:∀ w I vs,GI I w→RdL I w.heap args vs→FC P f vs.toArray w fun r w'=>Ext w w'∧w'.ownsRow w.heap.size el 1 r xs.length (wc k xs))
 (hK:∀ d S',RowZ S' nm 1 d (rS (eK k) xs)→Keep nm S S'→K d S'):PFC P f args S K:=by
 intro w I vs hR hv
 refine (h w I vs hR.gi hv).mono ?_
 rintro r w' ⟨hE,hlen,hown⟩
 have hIs:∀ b j,I b j→I b j:=fun _ _ h=>h
 have r1:=hR.ext hE hIs (fun _ _ h=>.inl h) (fun b j hj=>Nat.lt_of_lt_of_le (hR.old b j hj) hE.size)
 have s1:=Stp.of_ext (S:=S) hE hIs (fun _ _ h=>.inl h) hR.old
 rcases hown with ⟨rfl,h0⟩|⟨g,cap,cur,rfl,hgb,hb,hn,hcm,hcs,htake⟩
 ·have hx:xs=[]:=List.eq_nil_of_length_eq_zero h0
  subst hx
  exact ⟨I,S,.nil,s1,r1,.nil,hK _ _ .nil .rfl⟩
 ·have hcell:∀ (i x:Nat),xs[i]? = some x→cur[i]? = some (.int k (x:Int)):=by
   intro i x hx
   have hi:i<xs.length:=(List.getElem?_eq_some_iff.1 hx).1
   have h3:(cur.toList.take (xs.length * 1))[i]? = (wc k xs)[i]? := by rw [htake]
   rw [List.getElem?_take,if_pos (by omega)] at h3
   simp only [Array.getElem?_toList] at h3
   rw [h3]
   simp [wc,hx]
  have hlt:∀ q B,S q=some B→B.b≠g:=fun q B hq e=>by have:=hR.lt hq;omega
  refine ⟨I,updS S nm (some ⟨g,1,0,rS (eK k) xs⟩),.own nm g 0 xs.length cap 1,⟨s1.os,s1.tape,s1.output,s1.size,s1.dr,s1.sub,s1.new,s1.ev,s1.frame,fun q C hq=>?_,s1.liveG⟩,⟨r1.gi,fun q C hq=>?_,fun q q' C C' hq hq' hbb=>?_,r1.gho⟩,?_,hK _ _ (.inr ⟨g,cap,by rw [rS_len],updS_at⟩) .upd⟩
  ·rw [updS_apply] at hq
   split at hq
   ·injection hq with hq;subst hq;exact .inl hgb
   ·exact s1.live q C hq
  ·rw [updS_apply] at hq
   split at hq
   ·injection hq with hq;subst hq
    refine ⟨cur,el,hb,by rw [rS_len];show xs.length * 1≤cur.size;omega,fun i es he=>?_,fun i es j d he hd=>?_,fun j hj=>?_,Nat.zero_le _⟩
    ·rw [rS_get] at he
     cases hx:xs[i]? with
     | none=>rw [hx] at he;cases he
     | some x=>rw [hx] at he;injection he with he;rw [← he];rfl
    ·rw [rS_get] at he
     cases hx:xs[i]? with
     | none=>rw [hx] at he;cases he
     | some x =>
       rw [hx] at he
       injection he with he
       subst he
       match j with
       | 0 =>
         simp only [eK,List.map_cons,List.map_nil,List.getElem?_cons_zero,Option.some.injEq] at hd
         subst hd
         exact ⟨_,by simpa using hcell i x hx,.g (.lit _ rfl)⟩
       | j + 1=>simp [eK] at hd
    ·have:=hR.old g j hj;omega
   ·exact r1.has q C hq
  ·rw [updS_apply] at hq hq'
   split at hq<;>split at hq'
   ·rename_i e1 e2;rw [e1,e2]
   ·rename_i e1 _;injection hq with hq;subst hq;exact (hlt q' C' hq' hbb.symm).elim
   ·rename_i _ e2;injection hq' with hq';subst hq';exact (hlt q C hq hbb).elim
   ·exact r1.inj q q' C C' hq hq' hbb
  ·have:=RdD.own (I:=I) (H:=w'.heap) nm g 0 xs.length cap 1 cur el (0,0) hn hcm h47 hb (by omega)
   simpa using this
theorem TInt:SlT Tryz.prog 43 3 1 8 (.int .i64 0):=⟨Tryz.underlying43,by kernel_rfl⟩
theorem cloneI {w:World} {v:Value} {B:Nat} {xs:List Nat} (h:Ws .i64 B w.heap v xs) (hl:xs.length≤17592186044416):FC Tryz.prog 57 #[v] w fun r w'=>Ext w w'∧w'.ownsRow w.heap.size 3 1 r xs.length (wc .i64 xs):=by
 refine FC.body (l:=[v]) (rs:=[.tmp 2]) mixed Tryz.func57 rfl (by kernel_rfl) (by kernel_rfl) (Nat.le_of_ble_eq_true rfl) rfl ?_
 rcases h.1.addr with ⟨rfl,h0⟩|⟨ad,cap,rfl⟩
 ·obtain rfl:=List.eq_nil_of_length_eq_zero h0
  repeat (first
   | (with_reducible refine vc_seq fun K hK=>?_)
   | (with_reducible refine vc_reg ?_)
   | (with_reducible refine vc_skip ?_)
   | (with_reducible refine vc_block ?_)
   | (with_reducible refine vc_scope ?_)
   | (with_reducible refine vc_label ?_)
   | (with_reducible refine vc_condT ?_ ?_;· simp only [opsV,dV,modeV,pureV,guardV,undef,opV,callV,intV,arith,ne_eq,Nat.min_def,vsB,seval,true_and]<;>rfl)
   | (with_reducible refine vc_condF ?_ ?_;· simp only [opsV,dV,modeV,pureV,guardV,undef,opV,callV,intV,arith,ne_eq,Nat.min_def,vsB,seval,true_and]<;>rfl)
   | (with_reducible refine vc_exit ?_;simp only [↓reduceIte,Nat.reduceEqDiff])
   | (with_reducible refine vc_ret ?_;simp only [retV,resL,one])
   | (with_reducible refine hK _ _ ?_;clear hK)
   | (clear hK;with_reducible refine hK _ _ ?_;clear hK)
   | (clear hK;clear hK;with_reducible refine hK _ _ ?_;clear hK)
   | (simp only [opsV,dV,modeV,pureV,guardV,undef,opV,callV,intV,arith,ne_eq,Nat.min_def,vsB,seval,true_and]))
  unfold binV
  refine ⟨_,_,eq_nil_none Tryz.underlying43,?_⟩
  repeat (first
   | (with_reducible refine vc_seq fun K hK=>?_)
   | (with_reducible refine vc_reg ?_)
   | (with_reducible refine vc_skip ?_)
   | (with_reducible refine vc_block ?_)
   | (with_reducible refine vc_scope ?_)
   | (with_reducible refine vc_label ?_)
   | (with_reducible refine vc_condT ?_ ?_;· simp only [opsV,dV,modeV,pureV,guardV,undef,opV,callV,intV,arith,ne_eq,Nat.min_def,vsB,seval,true_and]<;>rfl)
   | (with_reducible refine vc_condF ?_ ?_;· simp only [opsV,dV,modeV,pureV,guardV,undef,opV,callV,intV,arith,ne_eq,Nat.min_def,vsB,seval,true_and]<;>rfl)
   | (with_reducible refine vc_exit ?_;simp only [↓reduceIte,Nat.reduceEqDiff])
   | (with_reducible refine vc_ret ?_;simp only [retV,resL,one])
   | (with_reducible refine hK _ _ ?_;clear hK)
   | (clear hK;with_reducible refine hK _ _ ?_;clear hK)
   | (clear hK;clear hK;with_reducible refine hK _ _ ?_;clear hK)
   | (simp only [opsV,dV,modeV,pureV,guardV,undef,opV,callV,intV,arith,ne_eq,Nat.min_def,vsB,seval,true_and]))
  exact ⟨Ext.refl _,rfl,.inl ⟨rfl,rfl⟩⟩
 ·repeat (first
   | (with_reducible refine vc_seq fun K hK=>?_)
   | (with_reducible refine vc_reg ?_)
   | (with_reducible refine vc_skip ?_)
   | (with_reducible refine vc_block ?_)
   | (with_reducible refine vc_scope ?_)
   | (with_reducible refine vc_label ?_)
   | (with_reducible refine vc_condT ?_ ?_;· simp only [opsV,dV,modeV,pureV,guardV,undef,opV,callV,intV,arith,ne_eq,Nat.min_def,vsB,seval,true_and]<;>rfl)
   | (with_reducible refine vc_condF ?_ ?_;· simp only [opsV,dV,modeV,pureV,guardV,undef,opV,callV,intV,arith,ne_eq,Nat.min_def,vsB,seval,true_and]<;>rfl)
   | (with_reducible refine vc_exit ?_;simp only [↓reduceIte,Nat.reduceEqDiff])
   | (with_reducible refine vc_ret ?_;simp only [retV,resL,one])
   | (with_reducible refine hK _ _ ?_;clear hK)
   | (clear hK;with_reducible refine hK _ _ ?_;clear hK)
   | (clear hK;clear hK;with_reducible refine hK _ _ ?_;clear hK)
   | (simp only [opsV,dV,modeV,pureV,guardV,undef,opV,callV,intV,arith,ne_eq,Nat.min_def,vsB,seval,true_and]))
  unfold binV
  refine ⟨_,_,eq_nil_some Tryz.underlying43 _ _ _,?_⟩
  repeat (first
   | (with_reducible refine vc_seq fun K hK=>?_)
   | (with_reducible refine vc_reg ?_)
   | (with_reducible refine vc_skip ?_)
   | (with_reducible refine vc_block ?_)
   | (with_reducible refine vc_scope ?_)
   | (with_reducible refine vc_label ?_)
   | (with_reducible refine vc_condT ?_ ?_;· simp only [opsV,dV,modeV,pureV,guardV,undef,opV,callV,intV,arith,ne_eq,Nat.min_def,vsB,seval,true_and]<;>rfl)
   | (with_reducible refine vc_condF ?_ ?_;· simp only [opsV,dV,modeV,pureV,guardV,undef,opV,callV,intV,arith,ne_eq,Nat.min_def,vsB,seval,true_and]<;>rfl)
   | (with_reducible refine vc_exit ?_;simp only [↓reduceIte,Nat.reduceEqDiff])
   | (with_reducible refine vc_ret ?_;simp only [retV,resL,one])
   | (with_reducible refine hK _ _ ?_;clear hK)
   | (clear hK;with_reducible refine hK _ _ ?_;clear hK)
   | (clear hK;clear hK;with_reducible refine hK _ _ ?_;clear hK)
   | (simp only [opsV,dV,modeV,pureV,guardV,undef,opV,callV,intV,arith,ne_eq,Nat.min_def,vsB,seval,true_and]))
  obtain ⟨b2,w1,hs,hn⟩:=slice_lit (w:=w) TInt [] (by simp) (by simp)
  refine ⟨_,w1,hs,?_⟩
  try simp only [opsV,dV,modeV,pureV,guardV,undef,opV,callV,intV,arith,ne_eq,Nat.min_def,vsB,seval,true_and]
  have own:w1.ownsRow w.heap.size 3 1 (.slice (some ⟨b2,0,none⟩) 0 0) 0 []:=by
   refine ⟨rfl,.inr ⟨b2,0,#[],rfl,hn.fresh,?_,Nat.le_refl _,Nat.zero_le _,rfl,rfl⟩⟩
   exact hn.row
  obtain ⟨v',w2,h1,h2,h3⟩:=append_own (P:=Tryz.prog) TInt rfl (by decide) own (by have:=hn.ext.size;omega) (h.up hn.ext).1 (fun j _=>rfl) (by omega) (by omega) (t':=43) rfl (ty:=43)
  refine ⟨v',w2,h1,?_⟩
  repeat (first
   | (with_reducible refine vc_seq fun K hK=>?_)
   | (with_reducible refine vc_reg ?_)
   | (with_reducible refine vc_skip ?_)
   | (with_reducible refine vc_block ?_)
   | (with_reducible refine vc_scope ?_)
   | (with_reducible refine vc_label ?_)
   | (with_reducible refine vc_condT ?_ ?_;· simp only [opsV,dV,modeV,pureV,guardV,undef,opV,callV,intV,arith,ne_eq,Nat.min_def,vsB,seval,true_and]<;>rfl)
   | (with_reducible refine vc_condF ?_ ?_;· simp only [opsV,dV,modeV,pureV,guardV,undef,opV,callV,intV,arith,ne_eq,Nat.min_def,vsB,seval,true_and]<;>rfl)
   | (with_reducible refine vc_exit ?_;simp only [↓reduceIte,Nat.reduceEqDiff])
   | (with_reducible refine vc_ret ?_;simp only [retV,resL,one])
   | (with_reducible refine hK _ _ ?_;clear hK)
   | (clear hK;with_reducible refine hK _ _ ?_;clear hK)
   | (clear hK;clear hK;with_reducible refine hK _ _ ?_;clear hK)
   | (simp only [opsV,dV,modeV,pureV,guardV,undef,opV,callV,intV,arith,ne_eq,Nat.min_def,vsB,seval,true_and]))
  simp only [List.nil_append,wc_range,Nat.zero_add] at h2
  refine ⟨?_,h2⟩
  refine Bel.grown hn.ext (run_drawn _ _ h1) h3 (by have:=hn.ext.size;omega) ?_
  intro k hk
  simp only [Value.ownBlock,Option.some.injEq] at hk
  rw [← hk];exact hn.fresh
theorem nat_list {z:List Int} (h:∀ x ∈ z,0≤x):∃ xs:List Nat,z=xs.map fun x:Nat=>(x:Int):=by
 induction z with
 | nil=>exact ⟨[],rfl⟩
 | cons x z ih =>
   obtain ⟨xs,e⟩:=ih fun y hy=>h y (List.mem_cons_of_mem _ hy)
   have:=h x List.mem_cons_self
   exact ⟨x.toNat :: xs,by rw [e,List.map_cons];congr 1;omega⟩
theorem eS_nat {xs:List Nat}:eS eZ (xs.map fun x:Nat=>(x:Int))=eS (eK .i64) xs:=by
 unfold eS;rw [List.map_map];rfl
theorem rS_nat {xs:List Nat}:rS eZ (xs.map fun x:Nat=>(x:Int))=rS (eK .i64) xs:=by
 unfold rS;rw [List.map_map];rfl
theorem nat_bound (xs:List Nat):∃ B:Nat,∀ x ∈ xs,x<B:=by
 induction xs with
 | nil=>exact ⟨0,fun x hx=>by cases hx⟩
 | cons x xs ih =>
   obtain ⟨B,hB⟩:=ih
   refine ⟨max B (x + 1),fun y hy=>?_⟩
   rcases List.mem_cons.1 hy with rfl|hy
   ·omega
   ·have:=hB y hy;omega
theorem fc_clone {z:List Int} (hz:∀ x ∈ z,0≤x) (hl:z.length≤100000):∃ xs:List Nat,rS eZ z=rS (eK .i64) xs∧eS eZ z=eS (eK .i64) xs∧xs.length=z.length∧∀ w I vs,GI I w→RdL I w.heap [ZI z] vs→FC Tryz.prog 57 vs.toArray w fun r w'=>Ext w w'∧w'.ownsRow w.heap.size 3 1 r xs.length (wc .i64 xs):=by
 obtain ⟨xs,rfl⟩:=nat_list hz
 rw [List.length_map] at hl
 obtain ⟨B,hB⟩:=nat_bound xs
 refine ⟨xs,rS_nat,eS_nat,by rw [List.length_map],fun w I vs hG hv=>?_⟩
 obtain ⟨v,rfl,hr⟩:=hv.one
 unfold ZI at hr
 rw [eS_nat] at hr
 exact cloneI (rd_ws hr.g_inv hB) (by omega)
theorem p_CloneO {z:List Int} (hz:∀ x ∈ z,0≤x) (hl:z.length≤100000) {S:Store} {K:D→Store→Prop} (nm:Nm) (hK:∀ d S',RowZ S' nm 1 d (rS eZ z)→Keep nm S S'→K d S'):PFC Tryz.prog 57 [ZI z] S K:=by
 obtain ⟨xs,e1,_,e3,h⟩:=fc_clone hz hl
 rw [e1] at hK
 exact pfc_own nm (by omega) h hK
theorem p_Clone {z:List Int} (hz:∀ x ∈ z,0≤x) (hl:z.length≤100000):PC Tryz.prog 57 [ZI z] fun d=>d=ZI z:=by
 obtain ⟨xs,rfl⟩:=nat_list hz
 rw [List.length_map] at hl
 obtain ⟨B,hB⟩:=nat_bound xs
 refine pc_new fun w I vs hG hv=>?_
 obtain ⟨v,rfl,hr⟩:=hv.one
 unfold ZI at hr ⊢
 rw [eS_nat] at hr
 refine (cloneI (rd_ws hr.g_inv hB) (by omega)).mono ?_
 rintro r w' ⟨hE,ho⟩
 have hW:OW 3 .i64 B w' w.heap.size r xs:=⟨ho,hB,by omega⟩
 refine ⟨hE,_,.g (own_rd hW),?_⟩
 rw [eS_nat]
structure Sy (k H:Nat) (x:Nu):Prop where
 dg:x.w=D64 (N64 x.w)
 lo : -(H:Int)≤x.exp
 hi:x.exp≤H
 sm:Sm k H x.val
theorem Sy.wsz {k H:Nat} {x:Nu} (h:Sy k H x):N64 x.w<2 ^ k:=by
 obtain ⟨z,hz,hl⟩:=h.sm
 have h1:=h.lo
 obtain ⟨j,hj⟩:∃ j:Nat,x.exp=j - H:=⟨(x.exp + H).toNat,by omega⟩
 have e1:x.val=dy x.neg (N64 x.w * 2 ^ j) (-(H:Int)):=by
  rw [dy_shl]
  show dy x.neg (N64 x.w) x.exp=_
  congr 1;omega
 have e2:Dyadic.ofIntWithPrec z H=dy (decide (z<0)) z.natAbs (-(H:Int)):=by
  unfold dy;rw [sg_natAbs,Int.neg_neg]
 rw [e1,e2] at hz
 have h3:N64 x.w * 2 ^ j=z.natAbs:=by
  unfold dy at hz
  rw [owp_inj,sg_natAbs] at hz
  rw [← hz,sg_abs]
 have:N64 x.w * 1≤N64 x.w * 2 ^ j:=Nat.mul_le_mul_left _ (Nat.two_pow_pos j)
 omega
theorem Sy.sz {k H K:Nat} {x:Nu} (h:Sy k H x) (hk:k≤K) (hH:H≤K):Sz K x:=by
 refine ⟨by rw [h.dg];exact digs_lt (by decide) _,?_,by have:=h.lo;omega,by have:=h.hi;omega⟩
 rw [h.dg]
 refine Nat.le_trans (digs_len_le (k:=k) (by decide) (Nat.lt_of_lt_of_le h.wsz ?_)) hk
 exact Nat.pow_le_pow_left (by decide) _
theorem Sy.zero {k H:Nat}:Sy k H nu0:=⟨((digs_eq_nil (by decide)).2 rfl).symm,by show -(H:Int)≤0;omega,by show (0:Int)≤H;omega,by
 have e:Nu.val nu0=0:=dy0 _ _
 rw [e]
 exact ⟨0,by rw [show Dyadic.ofIntWithPrec 0 H=dy false 0 (-(H:Int)) by unfold dy;rw [Int.neg_neg];rfl,dy0],Nat.two_pow_pos k⟩⟩
theorem Sy.mono {k k' H:Nat} {x:Nu} (h:Sy k H x) (hk:k≤k'):Sy k' H x:=⟨h.dg,h.lo,h.hi,h.sm.mono hk⟩
theorem OkD.sy {d:Dyadic} (h:OkD d):Sy 135168 65536 (nuOf d):=by
 have h1:=h.sz.lo
 have h2:=h.sz.hi
 refine ⟨?_,h1,h2,by rw [val_nuOf];exact okD_sm h⟩
 rw [nuOf_f]
 exact (congrArg _ (nval_digs (by decide) _)).symm
theorem p_eAddS {k H:Nat} {a b:Nu} (ha:Sy k H a) (hb:Sy k H b) (hk:k≤10000000) (hH:H≤10000000):PC Tryz.prog 58 [NU a,NU b] fun d=>∃ z,d=NU z∧Sy (k + 1) H z∧z.val=a.val + b.val:=by
 have hm:k + H≤67108864:=by omega
 refine (p_eAddX (ha.sz (K:=k + H) (by omega) (by omega)) (hb.sz (K:=k + H) (by omega) (by omega)) hm).mono ?_
 rintro d ⟨z,rfl,_,hv,he,hw⟩
 refine ⟨z,rfl,⟨hw ha.dg hb.dg,?_,?_,by rw [hv];exact ha.sm.add hb.sm⟩,hv⟩
 ·have:=ha.lo;have:=hb.lo
  rcases he with he|he<;>omega
 ·have:=ha.hi;have:=hb.hi
  rcases he with he|he<;>omega
end Go.V
namespace Go.V
open Go Go.RowKit Go.Proofs
theorem cmpE_neg:∀ a b:List Int,cmpE b a = - cmpE a b
 | [],[]=>rfl
 | [],_ :: _=>rfl
 | _ :: _,[]=>rfl
 | x :: a,y :: b=>by
   have ih:=cmpE_neg a b
   unfold cmpE
   by_cases h1:x<y
   ·rw [if_neg (by omega),if_pos h1,if_pos h1];rfl
   ·by_cases h2:y<x
    ·rw [if_pos h2,if_neg h1,if_pos h2]
    ·rw [if_neg h2,if_neg h1,if_neg h1,if_neg h2];exact ih
theorem cmpE_eq:∀ {a b:List Int},cmpE a b=0→a=b
 | [],[],_=>rfl
 | [],_ :: _,h=>by exact absurd h (by show ¬ ((-1:Int)=0);decide)
 | _ :: _,[],h=>by exact absurd h (by show ¬ ((1:Int)=0);decide)
 | x :: a,y :: b,h=>by
   unfold cmpE at h
   split at h
   ·cases h
   ·split at h
    ·cases h
    ·rw [cmpE_eq h,show x=y by omega]
theorem cmpE_trans:∀ {a b c:List Int},cmpE a b<0→cmpE b c<0→cmpE a c<0
 | [],[],_,h,_=>by exact absurd h (by decide)
 | [],_ :: _,[],_,h=>by exact absurd h (by show ¬ ((1:Int)<0);decide)
 | [],_ :: _,_ :: _,_,_=>by show (-1:Int)<0;decide
 | _ :: _,[],_,h,_=>by exact absurd h (by show ¬ ((1:Int)<0);decide)
 | _ :: _,_ :: _,[],_,h=>by exact absurd h (by show ¬ ((1:Int)<0);decide)
 | x :: a,y :: b,z :: c,p,q=>by
   unfold cmpE at *
   by_cases a1:x<y
   ·by_cases a2:y<z
    ·rw [if_pos (by omega)];decide
    ·rw [if_neg a2] at q
     by_cases a3:z<y
     ·rw [if_pos a3] at q;exact absurd q (by decide)
     ·rw [if_pos (by omega)];decide
   ·rw [if_neg a1] at p
    by_cases a2:y<x
    ·rw [if_pos a2] at p;exact absurd p (by decide)
    ·rw [if_neg a2] at p
     obtain rfl:x=y:=by omega
     by_cases a3:x<z
     ·rw [if_pos a3];decide
     ·rw [if_neg a3] at q ⊢
      by_cases a4:z<x
      ·rw [if_pos a4] at q;exact absurd q (by decide)
      ·rw [if_neg a4] at q ⊢
       exact cmpE_trans p q
def aheadI (a b:Mo):Int:=cmpE b.e a.e
theorem ahead_swo:Go.Sort.SWO (Go.Proofs.ltOf aheadI) where
 irrefl x:=by unfold Go.Proofs.ltOf aheadI;rw [cmpE_self];rfl
 trans x y z h1 h2:=by
  unfold Go.Proofs.ltOf aheadI at *
  simp only [decide_eq_true_eq] at *
  exact cmpE_trans h2 h1
 ntrans x y z h1 h2:=by
  unfold Go.Proofs.ltOf aheadI at *
  simp only [decide_eq_false_iff_not] at *
  intro h
  rcases cmpE_cases y.e x.e with a|a|a
  ·exact h1 (by omega)
  ·rw [cmpE_eq a] at h2;exact h2 h
  ·rcases cmpE_cases z.e y.e with b|b|b
   ·exact h2 (by omega)
   ·rw [cmpE_eq b] at h;omega
   ·have p:cmpE x.e y.e<0:=by rw [cmpE_neg];omega
    have q:cmpE y.e z.e<0:=by rw [cmpE_neg];omega
    have r:=cmpE_trans p q
    rw [cmpE_neg] at r
    omega
theorem insT_hit {n:Nat} {t:Te} (ht:t.e.length=n):∀ {C D:List Te} {x:Te},SortT n (C ++ x :: D)→x.e=t.e→insT (C ++ x :: D) t=C ++ ⟨x.v + t.v,x.e⟩ :: D
 | [],D,x,_,he=>by
   rw [List.nil_append,insT_cons,he,ordE_self,if_neg (by decide),if_pos rfl];rfl
 | c :: C,D,x,h,he=>by
   have hc:=(List.pairwise_cons.1 h.ord).1 x (by simp)
   rw [List.cons_append,insT_cons,← he,if_pos hc]
   have hr:SortT n (C ++ x :: D):=⟨fun y hy=>h.len y (List.mem_cons_of_mem _ hy),(List.pairwise_cons.1 h.ord).2⟩
   rw [insT_hit ht hr he];rfl
theorem insT_miss {n:Nat} {t:Te} (ht:t.e.length=n):∀ {out:List Te},(∀ y ∈ out,y.e.length=n)→(∀ y ∈ out,y.e≠t.e)→(insT out t).Perm (t :: out)
 | [],_,_=>by rw [insT_nil]
 | x :: r,hl,hn=>by
   rw [insT_cons]
   split
   ·have ih:=insT_miss ht (out:=r) (fun y hy=>hl y (List.mem_cons_of_mem _ hy)) (fun y hy=>hn y (List.mem_cons_of_mem _ hy))
    exact (ih.cons x).trans (List.Perm.swap t x r)
   ·split
    ·rename_i h0
     exact absurd (ordE_eq (by rw [hl x List.mem_cons_self,ht]) h0) (hn x List.mem_cons_self)
    ·exact List.Perm.refl _
theorem acc_miss {n:Nat} {t:Te} {all out:List Te} (hp:all.Perm out) (hs:SortT n out) (ht:t.e.length=n) (hn:∀ x ∈ all,x.e≠t.e):(all ++ [t]).Perm (insT out t):=by
 refine (List.perm_append_singleton t all).trans ((hp.cons t).trans (insT_miss ht hs.len fun y hy=>hn y (hp.mem_iff.2 hy)).symm)
theorem acc_hit {n:Nat} {t x:Te} {all out:List Te} (hp:all.Perm out) (hs:SortT n out) (ht:t.e.length=n) {i:Nat} (hx:all[i]? = some x) (he:x.e=t.e):(all.set i ⟨x.v + t.v,x.e⟩).Perm (insT out t):=by
 obtain ⟨hi,hxi⟩:=List.getElem?_eq_some_iff.1 hx
 have e1:all=all.take i ++ x :: all.drop (i + 1):=by
  rw [← hxi,← List.drop_eq_getElem_cons hi,List.take_append_drop]
 have e2:all.set i ⟨x.v + t.v,x.e⟩=all.take i ++ ⟨x.v + t.v,x.e⟩ :: all.drop (i + 1):=by
  rw [List.set_eq_take_append_cons_drop,if_pos hi]
 obtain ⟨C,D,hCD⟩:=List.append_of_mem (hp.mem_iff.1 (List.mem_of_getElem? hx))
 rw [hCD] at hs hp ⊢
 rw [insT_hit ht hs he,e2]
 rw [e1] at hp
 have h3:(x :: (all.take i ++ all.drop (i + 1))).Perm (x :: (C ++ D)):=(List.perm_middle.symm.trans hp).trans List.perm_middle
 exact List.perm_middle.trans ((h3.cons_inv.cons _).trans List.perm_middle.symm)
theorem monoN_bad {out:List Te} {y:Te} (hy:y ∈ out) (hb:¬ OkD y.v):monoN out out.length=([],2):=by
 have key:∀ i,i≤out.length→(monoN out i).2=0∧(∀ j,j<i→OkD (gT out j).v)∨monoN out i=([],2):=by
  intro i
  induction i with
  | zero=>exact fun _=>.inl ⟨rfl,fun j hj=>by omega⟩
  | succ i ih =>
    intro hi
    rcases ih (by omega) with ⟨h1,h2⟩|h1
    ·unfold monoN
     rw [if_pos h1]
     by_cases h0:(gT out i).v=0
     ·rw [if_pos h0]
      refine .inl ⟨h1,fun j hj=>?_⟩
      rcases Nat.lt_or_ge j i with h|h
      ·exact h2 j h
      ·obtain rfl:j=i:=by omega
       rw [h0];exact OkD.zero
     ·rw [if_neg h0]
      by_cases ho:OkD (gT out i).v
      ·rw [numR_ok ho,if_pos rfl]
       refine .inl ⟨rfl,fun j hj=>?_⟩
       rcases Nat.lt_or_ge j i with h|h
       ·exact h2 j h
       ·obtain rfl:j=i:=by omega
        exact ho
      ·have:(numR (gT out i).v).2=2:=by unfold numR;rw [if_neg (show ¬ (nuOf (gT out i).v).Ok from ho)]
       rw [this,if_neg (by decide)]
       exact .inr rfl
    ·refine .inr ?_
     unfold monoN
     rw [h1,if_neg (by decide)]
 rcases key out.length (Nat.le_refl _) with ⟨_,h2⟩|h1
 ·obtain ⟨j,hj⟩:=List.getElem?_of_mem hy
  have hjl:j<out.length:=(List.getElem?_eq_some_iff.1 hj).1
  have e:=gT_at hjl
  rw [hj] at e
  injection e with e
  rw [e] at hb
  exact absurd (h2 j hjl) hb
 ·exact h1
def outM (all:List Te):List Mo:=(all.filter fun t=>decide (t.v≠0)).map moT
theorem outM_app {all:List Te} {t:Te}:outM (all ++ [t])=if t.v=0 then outM all else outM all ++ [moT t]:=by
 unfold outM
 rw [List.filter_append,List.map_append]
 by_cases h:t.v=0
 ·rw [if_pos h];simp [h]
 ·rw [if_neg h];simp [h]
theorem outM_len (all:List Te):(outM all).length≤all.length:=by
 unfold outM
 rw [List.length_map]
 exact List.length_filter_le _ _
theorem gathR_bad {l all:List Te} (hp:all.Perm (gathN l l.length)) {y:Te} (hy:y ∈ all) (hb:¬ OkD y.v):gathR l=([],2):=by
 unfold gathR
 rw [monoN_bad (hp.mem_iff.1 hy) hb,if_neg (by decide)]
theorem gathR_long {l all:List Te} (hp:all.Perm (gathN l l.length)) (ho:∀ y ∈ all,OkD y.v) (h:24<(outM all).length):gathR l=([],6):=by
 unfold gathR
 have e:=monoN_ok (fun y hy=>ho y (hp.mem_iff.2 hy)) (gathN l l.length).length (Nat.le_refl _)
 rw [List.take_length] at e
 have hl:(outM all).length=(((gathN l l.length).filter fun t=>decide (t.v≠0)).map moT).length:=((hp.filter _).map moT).length_eq
 rw [e,if_pos rfl,if_neg (by simp only;omega)]
theorem gathR_sorted {n:Nat} {l all:List Te} (hl:∀ t ∈ l,t.e.length=n) (hp:all.Perm (gathN l l.length)) (ho:∀ y ∈ all,OkD y.v) (h:(outM all).length≤24) {ys:List Mo} (hy:ys.Perm (outM all)) (hs:ys.Pairwise fun x y=>¬ aheadI y x<0):gathR l=(ys,0):=by
 have hso:=gathN_sort hl l.length (Nat.le_refl _)
 unfold gathR
 have e:=monoN_ok (fun y hy=>ho y (hp.mem_iff.2 hy)) (gathN l l.length).length (Nat.le_refl _)
 rw [List.take_length] at e
 have hq:(outM all).Perm (((gathN l l.length).filter fun t=>decide (t.v≠0)).map moT):=(hp.filter _).map moT
 rw [e,if_pos rfl,if_pos (by have:=hq.length_eq;simp only;omega)]
 generalize gathN l l.length=out at *
 have hqs:(((out.filter fun t=>decide (t.v≠0)).map moT)).Pairwise fun a b=>a.e.length=n∧b.e.length=n∧0<ordE a.e b.e :=
  List.Pairwise.map _ (fun a b h=>h) (List.Pairwise.filter _ (hso.ord.imp_of_mem (S:=fun a b=>a.e.length=n∧b.e.length=n∧0<ordE a.e b.e) fun ha hb h=>⟨hso.len _ ha,hso.len _ hb,h⟩))
 have hyq:=hy.trans hq
 generalize (out.filter fun t=>decide (t.v≠0)).map moT=q at *
 congr 1
 have hone:∀ a ∈ q,∀ b ∈ q,a.e=b.e→a=b:=by
  intro a ha b hb he
  rcases Classical.em (a=b) with h1|h1
  ·exact h1
  ·exfalso
   have hpn:q.Pairwise fun a b=>a.e≠b.e:=hqs.imp fun {a b} h he=>by rw [he,ordE_self] at h;exact absurd h.2.2 (by decide)
   obtain ⟨i,hi,rfl⟩:=List.getElem_of_mem ha
   obtain ⟨j,hj,rfl⟩:=List.getElem_of_mem hb
   rcases Nat.lt_trichotomy i j with h|h|h
   ·exact List.pairwise_iff_getElem.1 hpn i j hi hj h he
   ·subst h;exact h1 rfl
   ·exact List.pairwise_iff_getElem.1 hpn j i hj hi h he.symm
 have hq2:q.Pairwise fun x y=>¬ aheadI y x<0:=hqs.imp fun {a b} h=>by
  have e2:=ordE_cmpE (h.1.trans h.2.1.symm)
  unfold aheadI
  rw [cmpE_neg]
  omega
 symm
 refine List.Perm.eq_of_pairwise (le:=fun x y=>¬ aheadI y x<0) (fun a b ha hb h1 h2=>?_) hs hq2 hyq
 refine hone a (hyq.mem_iff.1 ha) b hb ?_
 unfold aheadI at h1 h2
 rw [cmpE_neg] at h2
 have:cmpE a.e b.e=0:=by omega
 exact cmpE_eq this
end Go.V
namespace Go.V
open Go Go.RowKit Go.Proofs
def qQ3_56_2:List (Nat × Nat):=[(0,0),(1,0),(2,1),(3,3)]
attribute [go_sem] qQ3_56_2
theorem Recast.arr {N:DEnv→Store→Prop} {e:DEnv} {S:Store} (i:Nat) {k:Nm} {b s n:Nat} {es:List D} (hi:e i=.ptr k b 0 0 s) (hk:S k=some ⟨b,s,0,[es]⟩) (hn:n≤s) (h47:n≤140737488355328)
 (h:N (updD e i (.arr k b n)) (updS S k (some ⟨b,1,0,es.map fun d=>[d]⟩))):Recast N e S:=fun I w e' hR he=>by
 obtain ⟨r,s1⟩:=hR.flat hk
 refine ⟨I,_,_,s1,r,fun j=>?_,h⟩
 rw [updD_apply]
 cases hj:j == i with
 | false=>exact he j
 | true =>
   rw [beq_iff_eq] at hj;subst hj
   have:=he j
   rw [hi] at this
   exact hR.arr hk hn h47 this
theorem Recast.unarr {N:DEnv→Store→Prop} {e:DEnv} {S:Store} (i:Nat) {k:Nm} {b n:Nat} (es:List D) (hi:e i=.arr k b n) (hk:S k=some ⟨b,1,0,es.map fun d=>[d]⟩)
 (h:N (updD e i (.ptr k b 0 0 es.length)) (updS S k (some ⟨b,es.length,0,[es]⟩))):Recast N e S:=fun I w e' hR he=>by
 obtain ⟨r,s1⟩:=hR.unflat hk
 refine ⟨I,_,_,s1,r,fun j=>?_,h⟩
 rw [updD_apply]
 cases hj:j == i with
 | false=>exact he j
 | true =>
   rw [beq_iff_eq] at hj;subst hj
   have:=he j
   rw [hi] at this
   exact this.unarr
def key4 (z:List Int):List Int:=z.take 4 ++ List.replicate (4 - z.length) 0
theorem key4_len (z:List Int):(key4 z).length=4:=by unfold key4;simp;omega
def kv (z:List Int):Value:=.agg ((key4 z).map (Value.int .i64)).toArray
theorem litsV_map:∀ l:List Int,litsV (l.map fun x=>D.g (.lit (.int .i64 x)))=some (l.map (Value.int .i64))
 | []=>rfl
 | x :: l=>by simp only [List.map_cons,litsV,litsV_map l,Option.map_some]
theorem keyD_kv (z:List Int):keyD (.agg ((key4 z).map i64))=some (kv z):=by
 unfold keyD kv
 have:=litsV_map (key4 z)
 simp only [show (key4 z).map i64=(key4 z).map fun x=>D.g (.lit (.int .i64 x)) from rfl,this,Option.map_some]
theorem kv_inj {a b:List Int} (hl:a.length=b.length) (h4:a.length≤4) (h:kv a=kv b):a=b:=by
 unfold kv at h
 injection h with h
 have h:=congrArg Array.toList h
 simp only [List.toList_toArray] at h
 have h:key4 a=key4 b:=by
  have inj:∀ l m:List Int,l.map (Value.int .i64)=m.map (Value.int .i64)→l=m:=by
   intro l
   induction l with
   | nil=>intro m hm;cases m with|nil=>rfl|cons y m=>simp at hm
   | cons x l ih =>
     intro m hm
     cases m with
     | nil=>simp at hm
     | cons y m =>
       simp only [List.map_cons,List.cons.injEq,Value.int.injEq,true_and] at hm
       rw [hm.1,ih m hm.2]
  exact inj _ _ h
 unfold key4 at h
 rw [List.take_of_length_le h4,List.take_of_length_le (by omega)] at h
 exact (List.append_inj h hl).1
theorem sl81 {N:DEnv→Store→Prop} {e:DEnv} {S:Store} {d:Option Nat} {t:TypeId} {r':List (Option Ci × Nat)} {x:Operand}:runD Tryz.prog N ((some ⟨d,none,.slice 81 x none none none,t⟩,0) :: r') e S=arrD 4 (pev e x) (Kq (Kd Tryz.prog N r' e d) S):=rd0_sliceA ⟨by kernel_rfl,by kernel_rfl⟩
attribute [go_sem ↓] sl81
set_option maxHeartbeats 1000000 in
theorem p_polyOf {m:Mo} (hl:m.e.length≤4):PC Tryz.prog 56 [MO m] fun d=>d=.agg ((key4 m.e).map i64):=by
 obtain ⟨⟨n1,e1,w1⟩,z⟩:=m
 simp only at hl ⊢
 have hc:List.take (if (rS eZ z).length≤4 then (rS eZ z).length else 4) (rS eZ z) ++ List.drop (if (rS eZ z).length≤4 then (rS eZ z).length else 4) [[i64 0],[i64 0],[i64 0],[i64 0]]=((key4 z).map i64).map fun d=>[d]:=by
  rcases z with _|⟨a,_|⟨b,_|⟨c,_|⟨d,_|⟨x,z⟩⟩⟩⟩⟩
  all_goals first|rfl|(exfalso;simp at hl)
 have hk:=key4_len z
 generalize key4 z=y at *
 obtain ⟨y0,y1,y2,y3,rfl⟩:∃ a b c d,y=[a,b,c,d]:=by
  match y,hk with
  | [a,b,c,d],_=>exact ⟨a,b,c,d,rfl⟩
 have d1:=@dl 2 qQ3_56_2
 refine PB (rs:=[.cell 2 81]) Tryz.func56 ?_
 repeat (first|with_reducible refine pv_stop 1 ?_|(with_reducible first|refine pv_seq fun K hK=>?_|((first|refine hK _ _ ?_|(clear hK;refine hK _ _ ?_)|(clear hK;clear hK;refine hK _ _ ?_));clear hK;try clear K))| refine W ?_|exact Z|with_reducible intro b)
 refine ⟨fun K1 q1 hC=>?_⟩
 repeat (first|(with_reducible first|refine pv_seq fun K hK=>?_|((first|refine hK _ _ ?_|(clear hK;refine hK _ _ ?_)|(clear hK;clear hK;refine hK _ _ ?_));clear hK;try clear K))| refine W0 ?_|exact Z|with_reducible intro b)
 refine hC _ _ (Recast.arr 3 (n:=4) Zr Zr (by decide) (by decide) ?_)
 refine q1 _ _ ?_
 clear q1 hC
 repeat (first|with_reducible refine pv_stop 2 ?_|(with_reducible first|refine pv_seq fun K hK=>?_|((first|refine hK _ _ ?_|(clear hK;refine hK _ _ ?_)|(clear hK;clear hK;refine hK _ _ ?_));clear hK;try clear K))| refine W ?_|exact Z|with_reducible intro b)
 refine ⟨fun K2 q2 hC=>?_⟩
 repeat (first|(with_reducible first|refine pv_seq fun K hK=>?_|((first|refine hK _ _ ?_|(clear hK;refine hK _ _ ?_)|(clear hK;clear hK;refine hK _ _ ?_));clear hK;try clear K))| refine W0 ?_|exact Z|with_reducible intro b)
 refine hC _ _ (Recast.unarr 3 [i64 y0,i64 y1,i64 y2,i64 y3] Zr (updS_at.trans (congrArg (fun e=>some (Blk.mk _ 1 0 e)) hc)) ?_)
 refine q2 _ _ ?_
 clear q2 hC
 exact Wk
theorem u81:(Tryz.prog).underlying 81=some (.array 4 3):=Tryz.underlying81
theorem c81:(Tryz.prog).cellsOf 81=4:=by kernel_rfl
theorem c3:(Tryz.prog).cellsOf 3=1:=by kernel_rfl
theorem k81:(Tryz.prog).keyType 81=true:=by kernel_rfl
theorem row81:(81:TypeId)<(Tryz.prog).types.size:=of_decide_eq_true (by kernel_rfl)
theorem mapIs:MapIs Tryz.prog 78 81 3 (.int .i64 0) where
 und:=Tryz.underlying78
 law:=deep_law_laid (by kernel_rfl) (m:=2) (by omega) row81 (by kernel_rfl) (by rw [u81])
 zero:=fun w=>by kernel_rfl
 one:=rfl
theorem wf8 {x:Int} (h0:0≤x) (h8:x≤8):(Lit.int .i64 x).wf=true:=by
 obtain ⟨n,rfl⟩:=Int.eq_ofNat_of_zero_le h0
 match n,h8 with
 | 0,_|1,_|2,_|3,_|4,_|5,_|6,_|7,_|8,_=>rfl
 | n + 9,h=>exact absurd h (by omega)
theorem keyOk4 {a b c d:Int} (ha:(Lit.int .i64 a).wf=true) (hb:(Lit.int .i64 b).wf=true) (hc:(Lit.int .i64 c).wf=true) (hd:(Lit.int .i64 d).wf=true):KeyOk Tryz.prog 81 (.agg #[.int .i64 a,.int .i64 b,.int .i64 c,.int .i64 d]):=by
 obtain ⟨m,hm⟩:∃ m,(Tryz.prog).types.size + 1=m + 2:=⟨(Tryz.prog).types.size - 1,by have h:0<(Tryz.prog).types.size:=Nat.lt_of_le_of_lt (Nat.zero_le _) row81;omega⟩
 have hi:∀ x:Int,(Lit.int .i64 x).wf=true→(Tryz.prog).keyLits (m + 1) 3 [.int .i64 x]=some [.int .i64 x]:=fun x hx=>by
  unfold Program.keyLits
  rw [Tryz.underlying3]
  simp [hx]
 have hf:Value.formed Tryz.prog 81 (.agg #[.int .i64 a,.int .i64 b,.int .i64 c,.int .i64 d])=true:=by
  simp [Value.formed,u81,c81]
 have hl:(Tryz.prog).keyLits (m + 2) 81 [.int .i64 a,.int .i64 b,.int .i64 c,.int .i64 d]=some [.int .i64 a,.int .i64 b,.int .i64 c,.int .i64 d]:=by
  unfold Program.keyLits
  rw [u81]
  simp [c81,c3,List.range_succ,hi a ha,hi b hb,hi c hc,hi d hd]
 unfold KeyOk keyOf
 rw [u81,hm]
 simp only [k81,hf,Bool.and_self,if_true]
 have hcs:(Value.agg #[.int .i64 a,.int .i64 b,.int .i64 c,.int .i64 d]).cells.toList=[.int .i64 a,.int .i64 b,.int .i64 c,.int .i64 d]:=rfl
 rw [hcs,hl]
 exact ⟨_,rfl⟩
theorem key4_mem {z:List Int} {x:Int} (h:x ∈ key4 z):x ∈ z∨x=0:=by
 unfold key4 at h
 rcases List.mem_append.1 h with h|h
 ·exact .inl (List.mem_of_mem_take h)
 ·exact .inr (List.mem_replicate.1 h).2
theorem keyOk {z:List Int} (h:∀ x ∈ z,0≤x∧x≤8):KeyOk Tryz.prog 81 (kv z):=by
 have hx:∀ x ∈ key4 z,(Lit.int .i64 x).wf=true:=fun x hx=>by
  rcases key4_mem hx with h1|h1
  ·exact wf8 (h x h1).1 (h x h1).2
  ·rw [h1];rfl
 unfold kv
 have hk:=key4_len z
 generalize key4 z=y at *
 match y,hk,hx with
 | [a,b,c,d],_,hx=>exact keyOk4 (hx a (by simp)) (hx b (by simp)) (hx c (by simp)) (hx d (by simp))
def mapM (ms:List Mo):List (Value × Value):=(List.range ms.length).map fun i=>(kv (gM ms i).e,.int .i64 (i:Int))
theorem mapM_mem {ms:List Mo} {p:Value × Value} (h:p ∈ mapM ms):∃ i,i<ms.length∧p=(kv (gM ms i).e,.int .i64 (i:Int)):=by
 obtain ⟨i,hi,rfl⟩:=List.mem_map.1 h
 exact ⟨i,List.mem_range.1 hi,rfl⟩
theorem mapM_of {ms:List Mo} {i:Nat} (h:i<ms.length):(kv (gM ms i).e,Value.int .i64 (i:Int)) ∈ mapM ms:=List.mem_map.2 ⟨i,List.mem_range.2 h,rfl⟩
theorem mapM_app {ms:List Mo} {m:Mo}:mapM (ms ++ [m])=mapM ms ++ [(kv m.e,.int .i64 (ms.length:Int))]:=by
 unfold mapM
 rw [List.length_append,List.length_singleton,List.range_succ,List.map_append,List.map_singleton]
 congr 1
 ·refine List.map_congr_left fun i hi=>?_
  have:=List.mem_range.1 hi
  have e:gM (ms ++ [m]) i=gM ms i:=by simp [gM,List.getD,List.getElem?_append_left this]
  rw [e]
 ·have e:gM (ms ++ [m]) ms.length=m:=by simp [gM,List.getD]
  rw [e]
theorem mapM_set {ms:List Mo} {j:Nat} {m:Mo} (h:m.e=(gM ms j).e):mapM (ms.set j m)=mapM ms:=by
 unfold mapM
 rw [List.length_set]
 refine List.map_congr_left fun i hi=>?_
 have:=List.mem_range.1 hi
 congr 2
 by_cases hij:j=i
 ·subst hij
  have e:gM (ms.set j m) j=m:=by simp [gM,List.getD,this]
  rw [e,h]
 ·have e:gM (ms.set j m) i=gM ms i:=by simp [gM,List.getD,List.getElem?_set,hij]
  rw [e]
structure Acc (q:List Mo) (n i:Nat) (ms:List Mo):Prop where
 sy:∀ m ∈ ms,Sy (135168 + i) 65536 m.c
 perm:(ms.map teM).Perm (gathN (q.map teM) i)
theorem Acc.zero {q:List Mo} {n:Nat}:Acc q n 0 []:=⟨fun m hm=>(by cases hm),List.Perm.refl _⟩
theorem gT_teM {q:List Mo} {i:Nat} (h:i<q.length):gT (q.map teM) i=teM (gM q i):=by
 simp [gT,List.getD,gM_at h]
theorem gath_next {q:List Mo} {i:Nat} (h:i<q.length):gathN (q.map teM) (i + 1)=insT (gathN (q.map teM) i) (teM (gM q i)):=by
 show insT _ (gT (q.map teM) i)=_
 rw [gT_teM h]
theorem Acc.sort {q:List Mo} {n i:Nat} (hq:∀ m ∈ q,m.e.length=n) (hi:i≤q.length):SortT n (gathN (q.map teM) i) :=
 gathN_sort (fun t ht=>by obtain ⟨m,hm,rfl⟩:=List.mem_map.1 ht;exact hq m hm) i (by rw [List.length_map];exact hi)
theorem Acc.all {q:List Mo} {n i:Nat} {ms:List Mo} (h:Acc q n i ms) {P:List Int→Prop} (hP:∀ m ∈ q,P m.e) (hi:i≤q.length):∀ m ∈ ms,P m.e:=fun m hm=>by
 have:=gathN_all (P:=P) (l:=q.map teM) (fun t ht=>by obtain ⟨m,hm,rfl⟩:=List.mem_map.1 ht;exact hP m hm) i (by rw [List.length_map];exact hi)
 exact this (teM m) (h.perm.mem_iff.1 (List.mem_map_of_mem hm))
theorem Acc.len {q:List Mo} {n i:Nat} {ms:List Mo} (h:Acc q n i ms):ms.length≤i:=by
 have:=h.perm.length_eq
 rw [List.length_map] at this
 rw [this]
 exact gathN_len _ i
theorem Acc.hit {q:List Mo} {n i j:Nat} {ms:List Mo} {z:Nu} (h:Acc q n i ms) (hq:∀ m ∈ q,m.e.length=n) (hi:i<q.length) (hj:j<ms.length) (he:(gM ms j).e=(gM q i).e) (hz:Sy (135168 + i + 1) 65536 z) (hv:z.val=(gM ms j).c.val + (gM q i).c.val) :
 Acc q n (i + 1) (ms.set j ⟨z,(gM ms j).e⟩):=by
 refine ⟨fun m hm=>?_,?_⟩
 ·rcases List.mem_or_eq_of_mem_set hm with h1|h1
  ·exact (h.sy m h1).mono (by omega)
  ·rw [h1];exact hz.mono (by omega)
 ·rw [gath_next hi]
  have:=acc_hit (t:=teM (gM q i)) (x:=teM (gM ms j)) (i:=j) h.perm (Acc.sort hq (by omega)) (hq _ (gM_mem hi)) (by rw [List.getElem?_map,gM_at hj];rfl) he
  rw [List.map_set]
  have e:teM ⟨z,(gM ms j).e⟩=⟨(teM (gM ms j)).v + (teM (gM q i)).v,(teM (gM ms j)).e⟩:=by unfold teM;simp only;rw [hv]
  rw [e]
  exact this
theorem Acc.miss {q:List Mo} {n i:Nat} {ms:List Mo} {z:Nu} (h:Acc q n i ms) (hq:∀ m ∈ q,m.e.length=n) (hi:i<q.length) (hne:∀ m ∈ ms,m.e≠(gM q i).e) (hz:Sy (135168 + i + 1) 65536 z) (hv:z.val=(gM q i).c.val) :
 Acc q n (i + 1) (ms ++ [⟨z,(gM q i).e⟩]):=by
 refine ⟨fun m hm=>?_,?_⟩
 ·rcases List.mem_append.1 hm with h1|h1
  ·exact (h.sy m h1).mono (by omega)
  ·rw [List.mem_singleton.1 h1];exact hz.mono (by omega)
 ·rw [gath_next hi,List.map_append]
  have e:[(⟨z,(gM q i).e⟩:Mo)].map teM=[teM (gM q i)]:=by unfold teM;simp only [List.map_cons,List.map_nil];rw [hv]
  rw [e]
  exact acc_miss h.perm (Acc.sort hq (by omega)) (hq _ (gM_mem hi)) fun t ht=>by
   obtain ⟨m,hm,rfl⟩:=List.mem_map.1 ht
   exact hne m hm
end Go.V
namespace Go.V
open Go Go.RowKit Go.Proofs
theorem p_Make1 {S:Store} {Q:D→Store→Prop} {k:Nm} {b:Nat} {m:Mo} {n:Int} (h1:S k=some ⟨b,1,0,[[i64 n]]⟩) (hm:Wm m) (hQ:Q (bl (!monoB m n)) S):PFC Tryz.prog 55 [MO m,.ptr k b 0 0 1] S Q:=by
 have pM:=p_mono (n:=n) hm
 generalize monoB m n=r at *
 obtain ⟨⟨n1,e1,w1⟩,z⟩:=m
 cases r
 ·refine PFB (rs:=[.tmp 3]) Tryz.func55 ?_
  have ft:=h1
  repeat (first|(with_reducible first|refine pv_seq fun K hK=>?_|((first|refine hK _ _ ?_|(clear hK;refine hK _ _ ?_)|(clear hK;clear hK;refine hK _ _ ?_));clear hK;try clear K))| refine W ?_|exact Z|with_reducible intro b)
  exact hQ
 ·refine PFB (rs:=[.tmp 3]) Tryz.func55 ?_
  have ft:=h1
  repeat (first|(with_reducible first|refine pv_seq fun K hK=>?_|((first|refine hK _ _ ?_|(clear hK;refine hK _ _ ?_)|(clear hK;clear hK;refine hK _ _ ?_));clear hK;try clear K))| refine W ?_|exact Z|with_reducible intro b)
  exact hQ
set_option maxHeartbeats 1000000 in
theorem p_IndexM {S:Store} {Q:D→Store→Prop} {k:Nm} {b:Nat} {q:List Mo} {n:Int} (h1:S k=some ⟨b,1,0,[[i64 n]]⟩) (hq:WfM q) (hQ:∀ t:Int,(t = -1 ↔ allM q n=true) → -1≤t→Q (i64 t) S):PFC Tryz.prog 92 [MM q,.fn 55 [] [.ptr k b 0 0 1]] S Q:=by
 have hqn:=hq.n
 unfold MM
 have hbad:∀ i,i<q.length→monoB (gM q i) n=false→¬ allM q n=true:=fun i hi h h2=>by
  have:=of_decide_eq_true h2 (gM q i) (gM_mem hi)
  rw [this] at h;cases h
 refine PFB (rs:=[.tmp 4]) Tryz.func92 ?_
 repeat (first|(with_reducible first|refine pv_seq fun K hK=>?_|((first|refine hK _ _ ?_|(clear hK;refine hK _ _ ?_)|(clear hK;clear hK;refine hK _ _ ?_));clear hK;try clear K))| refine W0 ?_|exact Z|with_reducible intro b)
 obtain ⟨I,mk,el⟩:=hide fun e T=>∃ i:Nat,i≤q.length∧e 0=.g (eS eM q)∧e 1=.fn 55 [] [.ptr (.up k) b 0 0 1]∧e 7=i64 q.length∧e 8=i64 i∧T=upS S∧∀ j,j<i→monoB (gM q j) n=true
 refine pv_loop I (fun e _=>q.length - (intD (e 8)).toNat) ?_ ?_
 ·exact mk _ _ ⟨0,Nat.zero_le _,Zr,Zr,Zr,Zr,rfl,fun j hj=>by omega⟩
 ·intro e T hI
  obtain ⟨i,hi,g0,g1,g7,g8,rfl,hz⟩:=el e T hI
  clear el hI
  have ft:=And.intro g0 (And.intro g1 (And.intro g7 g8))
  repeat (first|(with_reducible first|refine pv_seq fun K hK=>?_|((first|refine hK _ _ ?_|(clear hK;refine hK _ _ ?_)|(clear hK;clear hK;refine hK _ _ ?_));clear hK;try clear K))| refine W0 ?_|exact Z|with_reducible intro b)
  refine pv_cdD (fun ht=>?_) (fun ht=>?_)
  ·have hil:i<q.length:=by omega
   have q1:=gM_at hil
   have wm:=hq.w _ (gM_mem hil)
   have hb:=hbad i hil
   have hzs:monoB (gM q i) n=true→∀ j,j<i + 1→monoB (gM q j) n=true:=fun h j hj=>by
    rcases Nat.lt_or_ge j i with h3|h3
    ·exact hz j h3
    ·obtain rfl:j=i:=by omega
     exact h
   have pM:=fun Q'=>p_Make1 (S:=upS S) (k:=.up k) (Q:=Q') h1 wm
   clear hz
   generalize gM q i=m at *
   obtain ⟨⟨n1,e1,w1⟩,z⟩:=m
   have ft:=And.intro g0 (And.intro g1 (And.intro g7 (And.intro g8 q1)))
   repeat (first|(with_reducible first|refine pv_seq fun K hK=>?_|((first|refine hK _ _ ?_|(clear hK;refine hK _ _ ?_)|(clear hK;clear hK;refine hK _ _ ?_));clear hK;try clear K))| refine W0 ?_|exact Z|with_reducible intro b)
   refine pM _ ?_
   generalize monoB ⟨⟨n1,e1,w1⟩,z⟩ n=r at *
   cases r
   ·repeat (first|(with_reducible first|refine pv_seq fun K hK=>?_|((first|refine hK _ _ ?_|(clear hK;refine hK _ _ ?_)|(clear hK;clear hK;refine hK _ _ ?_));clear hK;try clear K))| refine W0 ?_|exact Z|with_reducible intro b)
    refine hQ i ⟨fun h=>by omega,fun h=>absurd h (hb rfl)⟩ (by omega)
   ·repeat (first|(with_reducible first|refine pv_seq fun K hK=>?_|((first|refine hK _ _ ?_|(clear hK;refine hK _ _ ?_)|(clear hK;clear hK;refine hK _ _ ?_));clear hK;try clear K))| refine W0 ?_|exact Z|with_reducible intro b)
    exact ⟨mk _ _ ⟨i + 1,by omega,Zr,Zr,Zr,Zr,rfl,hzs rfl⟩,by simp only [intD];omega⟩
  ·obtain rfl:i=q.length:=by omega
   have hall:allM q n=true:=decide_eq_true fun m hm=>by
    obtain ⟨j,hj⟩:=List.getElem?_of_mem hm
    have hjl:j<q.length:=(List.getElem?_eq_some_iff.1 hj).1
    have:=hz j hjl
    rw [gM_at hjl] at hj
    injection hj with hj
    rwa [hj] at this
   repeat (first|(with_reducible first|refine pv_seq fun K hK=>?_|((first|refine hK _ _ ?_|(clear hK;refine hK _ _ ?_)|(clear hK;clear hK;refine hK _ _ ?_));clear hK;try clear K))| refine W0 ?_|exact Z|with_reducible intro b)
   exact hQ (-1) ⟨fun _=>hall,fun _=>rfl⟩ (by omega)
theorem p_ContM {S:Store} {Q:D→Store→Prop} {k:Nm} {b:Nat} {q:List Mo} {n:Int} (h1:S k=some ⟨b,1,0,[[i64 n]]⟩) (hq:WfM q) (hQ:Q (bl (!allM q n)) S):PFC Tryz.prog 54 [MM q,.fn 55 [] [.ptr k b 0 0 1]] S Q:=by
 refine PFB (rs:=[.tmp 4]) Tryz.func54 ?_
 repeat (first|(with_reducible first|refine pv_seq fun K hK=>?_|((first|refine hK _ _ ?_|(clear hK;refine hK _ _ ?_)|(clear hK;clear hK;refine hK _ _ ?_));clear hK;try clear K))| refine W0 ?_|exact Z|with_reducible intro b)
 refine p_IndexM (S:=upS S) (k:=.up k) h1 hq fun t ht h0=>?_
 have hd:(0≤t)=((!allM q n)=true):=by
  refine propext ⟨fun h=>?_,fun h=>?_⟩
  ·cases ha:allM q n
   ·rfl
   ·have:=ht.2 ha;omega
  ·rcases Int.lt_or_le t 0 with h2|h2
   ·rw [ht.1 (by omega)] at h;cases h
   ·exact h2
 generalize (!allM q n)=r at *
 have ft:=hd
 repeat (first|(with_reducible first|refine pv_seq fun K hK=>?_|((first|refine hK _ _ ?_|(clear hK;refine hK _ _ ?_)|(clear hK;clear hK;refine hK _ _ ?_));clear hK;try clear K))| refine W0 ?_|exact Z|with_reducible intro b)
 cases r<;>exact hQ
end Go.V
namespace Go.V
open Go Go.RowKit Go.Proofs
def qQ6_136_4:List (Nat × Nat):=[(0,0),(1,0),(2,0),(3,0),(4,0),(5,0),(6,0),(7,0),(8,1),(9,0),(10,0),(11,0),(12,0),(13,1),(14,3),(15,0),(16,0)]
def qQ6_136_6:List (Nat × Nat):=[(0,0),(1,0),(2,0),(3,0),(4,0),(5,0),(6,0),(7,0),(8,0),(9,1),(10,0),(11,0),(12,0),(13,1),(14,0),(15,3),(16,0),(17,3)]
def qQ6_100_17:List (Nat × Nat):=[(0,0),(1,0),(2,0),(3,0),(4,0),(5,0),(6,0),(7,0),(8,1),(9,0),(10,0),(11,0),(12,1),(13,3),(14,0),(15,0),(16,0)]
attribute [go_sem] qQ6_136_4 qQ6_136_6 qQ6_100_17
open Go.Shelf
def laySort_ren:Go.Shelf.Ren:=⟨fun|6=>60|15=>101|14=>100|28=>144|29=>134|20=>136|21=>137|22=>138|23=>139|24=>140|25=>141|26=>142|27=>143|46=>178|47=>179|48=>180|49=>181|50=>182|57=>192|n=>n,fun|22=>22|24=>45|25=>70|3=>3|39=>99|0=>0|53=>155|55=>46|4=>4|46=>149|45=>148|50=>79|5=>5|9=>9|66=>176|70=>179|76=>190|77=>191|n=>n,fun|n=>n⟩
theorem laySort:Go.Proofs.SlLaysF0.n6 Tryz.prog laySort_ren where
 mixed:=by kernel_rfl
 f6:=⟨ "slices.SortFunc[[]fathomline/api.Mono,fathomline/api.Mono]",by decide,Tryz.func60.trans (congrArg some (by kernel_rfl))⟩
 f14:=⟨ "slices.pdqsortCmpFunc[fathomline/api.Mono]",by decide,Tryz.func100.trans (congrArg some (by kernel_rfl))⟩
 f15:=Tryz.func101.trans (congrArg some (by kernel_rfl))
 f20:=⟨ "slices.insertionSortCmpFunc[fathomline/api.Mono]",by decide,Tryz.func136.trans (congrArg some (by kernel_rfl))⟩
 f21:=⟨ "slices.heapSortCmpFunc[fathomline/api.Mono]",by decide,Tryz.func137.trans (congrArg some (by kernel_rfl))⟩
 f22:=⟨ "slices.breakPatternsCmpFunc[fathomline/api.Mono]",by decide,Tryz.func138.trans (congrArg some (by kernel_rfl))⟩
 f23:=⟨ "slices.choosePivotCmpFunc[fathomline/api.Mono]",by decide,Tryz.func139.trans (congrArg some (by kernel_rfl))⟩
 f24:=⟨ "slices.reverseRangeCmpFunc[fathomline/api.Mono]",by decide,Tryz.func140.trans (congrArg some (by kernel_rfl))⟩
 f25:=⟨ "slices.partialInsertionSortCmpFunc[fathomline/api.Mono]",by decide,Tryz.func141.trans (congrArg some (by kernel_rfl))⟩
 f26:=⟨ "slices.partitionEqualCmpFunc[fathomline/api.Mono]",by decide,Tryz.func142.trans (congrArg some (by kernel_rfl))⟩
 f27:=⟨ "slices.partitionCmpFunc[fathomline/api.Mono]",by decide,Tryz.func143.trans (congrArg some (by kernel_rfl))⟩
 f28:=Tryz.func144.trans (congrArg some (by kernel_rfl))
 f29:=Tryz.func134.trans (congrArg some (by kernel_rfl))
 f46:=⟨ "slices.siftDownCmpFunc[fathomline/api.Mono]",by decide,Tryz.func178.trans (congrArg some (by kernel_rfl))⟩
 f47:=Tryz.func179.trans (congrArg some (by kernel_rfl))
 f48:=Tryz.func180.trans (congrArg some (by kernel_rfl))
 f49:=⟨ "slices.medianAdjacentCmpFunc[fathomline/api.Mono]",by decide,Tryz.func181.trans (congrArg some (by kernel_rfl))⟩
 f50:=⟨ "slices.medianCmpFunc[fathomline/api.Mono]",by decide,Tryz.func182.trans (congrArg some (by kernel_rfl))⟩
 f57:=⟨ "slices.order2CmpFunc[fathomline/api.Mono]",by decide,Tryz.func192.trans (congrArg some (by kernel_rfl))⟩
 t0:=Tryz.underlying0
 a0:=Tryz.isAgg0
 z0:=Tryz.sizeOf0
 v0:=Tryz.zeroValue0
 t3:=Tryz.underlying3
 a3:=Tryz.isAgg3
 z3:=Tryz.sizeOf3
 v3:=Tryz.zeroValue3
 t4:=Tryz.underlying4
 a4:=Tryz.isAgg4
 z4:=Tryz.sizeOf4
 v4:=Tryz.zeroValue4
 t5:=Tryz.underlying5
 a5:=Tryz.isAgg5
 z5:=Tryz.sizeOf5
 v5:=Tryz.zeroValue5
 t9:=Tryz.underlying9
 a9:=Tryz.isAgg9
 z9:=Tryz.sizeOf9
 v9:=Tryz.zeroValue9
 t22:=Tryz.underlying22
 a22:=Tryz.isAgg22
 z22:=Tryz.sizeOf22
 v22:=Tryz.zeroValue22
 t25:=Tryz.underlying70
 a25:=Tryz.isAgg70
 z25:=Tryz.sizeOf70
 v25:=Tryz.zeroValue70
 t39:=Tryz.underlying99
 a39:=Tryz.isAgg99
 z39:=Tryz.sizeOf99
 v39:=Tryz.zeroValue99
 t45:=Tryz.underlying148
 a45:=Tryz.isAgg148
 z45:=Tryz.sizeOf148
 v45:=Tryz.zeroValue148
 t46:=Tryz.underlying149
 a46:=Tryz.isAgg149
 z46:=Tryz.sizeOf149
 v46:=Tryz.zeroValue149
 t50:=Tryz.underlying79
 a50:=Tryz.isAgg79
 z50:=Tryz.sizeOf79
 v50:=Tryz.zeroValue79
 t53:=Tryz.underlying155
 a53:=Tryz.isAgg155
 z53:=Tryz.sizeOf155
 v53:=Tryz.zeroValue155
 t55:=Tryz.underlying46
 a55:=Tryz.isAgg46
 z55:=Tryz.sizeOf46
 v55:=Tryz.zeroValue46
 t66:=Tryz.underlying176
 a66:=Tryz.isAgg176
 z66:=Tryz.sizeOf176
 v66:=Tryz.zeroValue176
 t70:=Tryz.underlying179
 a70:=Tryz.isAgg179
 z70:=Tryz.sizeOf179
 v70:=Tryz.zeroValue179
 t76:=Tryz.underlying190
 a76:=Tryz.isAgg190
 z76:=Tryz.sizeOf190
 v76:=Tryz.zeroValue190
 t77:=Tryz.underlying191
 a77:=Tryz.isAgg191
 z77:=Tryz.sizeOf191
 v77:=Tryz.zeroValue191
theorem sort_enters:∀ args w,(callFunc 46 args).run Tryz.prog w=.ok (.enter 46 args) w:=enters_of Tryz.func46 (by kernel_rfl) rfl
theorem p_SortRow {S:Store} {K:D→Store→Prop} {k:Nm} {b cap:Nat} {xs:List Mo} (hk:S k=some ⟨b,4,0,rS eM xs⟩) (hn:0<xs.length) (h5:xs.length≤100000) (he:∀ m ∈ xs,m.e.length≤100000)
 (hK:∀ ys,ys.Perm xs→ys.Pairwise (fun x y=>¬ aheadI y x<0)→K (.tup []) (updS S k (some ⟨b,4,0,rS eM ys⟩))) :
 PFC Tryz.prog 60 [.own k b 0 xs.length cap 4,.fn 46 [] []] S K :=
 (PFC.sort (f:=eM) (cap:=cap) laySort (s:=4) Tryz.isAgg45 Tryz.sizeOf45 (by decide) (fun _=>rfl) aheadI ahead_swo sort_enters (fun x hx y hy=>p_ahead (he x hx) (he y hy)) hk hn (by omega)).mono fun d S' h=>by
   obtain ⟨rfl,ys,h1,h2,rfl⟩:=h
   exact hK ys h1 h2
theorem p_Len64z:PC Tryz.prog 134 [.g (.lit (.int .u64 0))] fun d=>d=i64 0:=pc_lit fun w I vs hG hv=>by
 obtain ⟨v,rfl,hr⟩:=hv.one
 rw [hr.lit_inv]
 exact len64 0 (by decide) ⟨Ext.refl _,rfl,rfl⟩
theorem p_bLenz:PC Tryz.prog 101 [.g (.lit (.int .u64 0))] fun d=>d=i64 0:=by
 have pL:=p_Len64z
 refine PB (rs:=[.tmp 2]) Tryz.func101 ?_
 exact Wk
theorem p_insz:PC Tryz.prog 136 [.nil,i64 0,i64 0,.fn 46 [] []] fun d=>d=.tup []:=by
 have d1:=@dl 4 qQ6_136_4
 have d2:=@dl 6 qQ6_136_6
 refine PB (rs:=[]) Tryz.func136 ?_
 repeat (first|(with_reducible first|refine pv_seq fun K hK=>?_|((first|refine hK _ _ ?_|(clear hK;refine hK _ _ ?_)|(clear hK;clear hK;refine hK _ _ ?_));clear hK;try clear K))| refine W0 ?_|exact Z|with_reducible intro b)
 refine pv_loop (fun e S=>Hid (e 2=i64 0∧e 8=i64 1)) (fun _ _=>0) ?_ ?_
 ·exact ⟨Zr,Zr⟩
 ·rintro e S ⟨g2,g8⟩
  have ft:=And.intro g2 g8
  exact Wk
theorem p_pdqz:PC Tryz.prog 100 [.nil,i64 0,i64 0,i64 0,.fn 46 [] []] fun d=>d=.tup []:=by
 have pI:=p_insz
 have d1:=@dl 17 qQ6_100_17
 refine PB (rs:=[]) Tryz.func100 ?_
 repeat (first|(with_reducible first|refine pv_seq fun K hK=>?_|((first|refine hK _ _ ?_|(clear hK;refine hK _ _ ?_)|(clear hK;clear hK;refine hK _ _ ?_));clear hK;try clear K))| refine W0 ?_|exact Z|with_reducible intro b)
 refine pv_loop (fun e S=>Hid (e 0=.nil∧e 1=i64 0∧e 2=i64 0∧e 4=.fn 46 [] [])) (fun _ _=>0) ?_ ?_
 ·exact ⟨Zr,Zr,Zr,Zr⟩
 ·rintro e S ⟨g0,g1,g2,g4⟩
  have ft:=And.intro g0 (And.intro g1 (And.intro g2 g4))
  exact Wk
theorem p_SortNil:PC Tryz.prog 60 [.nil,.fn 46 [] []] fun d=>d=.tup []:=by
 have pI:=p_pdqz
 have pL:=p_bLenz
 refine PB (rs:=[]) Tryz.func60 ?_
 exact Wk
end Go.V
