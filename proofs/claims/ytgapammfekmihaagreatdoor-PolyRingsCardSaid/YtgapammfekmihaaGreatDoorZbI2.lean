/- Package poly's keys: the powers of a monomial as an array; what its map holds. Package poly: which lists hold monomials alone. slices.SortFunc at monomials. Package poly's Make over values as data. Package poly's Same and Degree, and the document's. Package poly's Degree, and the document's. slices.Grow and slices.Concat at monomials. slices.Concat at monomials; package poly's Add, and the document's. -/
import Derived.Test.YtgapammfekmihaaGreatDoorZbI1
set_option linter.unusedSimpArgs false
set_option linter.unusedVariables false
set_option maxRecDepth 100000
namespace Go.V
open Go Go.RowKit Go.Proofs
def qQ3_56_2:List (Nat × Nat):=[(0,0),(1,0),(2,1),(3,3)]
attribute [go_sem] qQ3_56_2
theorem Recast.arr {N:DEnv→Store→Prop} {e:DEnv} {S:Store} (i:Nat) {k:Nm} {b s n:Nat} {es:List D} (hi:e i=.ptr k b 0 0 s) (hk:S k=some ⟨b,s,0,[es]⟩) (hn:n≤s) (h47:n≤140737488355328)
 (h:N (updD e i (.arr k b n)) (updS S k (some ⟨b,1,0,es.map fun d=>[d]⟩))):Recast N e S:=fun I w e' hR he=>by
 obtain ⟨r,s1⟩:=hR.flat hk
 refine ⟨I,_,_,s1,r,fun j=>?_,h⟩
 rw [updD_apply]
 cases hj:j == i with
 | false=>exact he j
 | true =>
   rw [beq_iff_eq] at hj;subst hj
   have:=he j
   rw [hi] at this
   exact hR.arr hk hn h47 this
theorem Recast.unarr {N:DEnv→Store→Prop} {e:DEnv} {S:Store} (i:Nat) {k:Nm} {b n:Nat} (es:List D) (hi:e i=.arr k b n) (hk:S k=some ⟨b,1,0,es.map fun d=>[d]⟩)
 (h:N (updD e i (.ptr k b 0 0 es.length)) (updS S k (some ⟨b,es.length,0,[es]⟩))):Recast N e S:=fun I w e' hR he=>by
 obtain ⟨r,s1⟩:=hR.unflat hk
 refine ⟨I,_,_,s1,r,fun j=>?_,h⟩
 rw [updD_apply]
 cases hj:j == i with
 | false=>exact he j
 | true =>
   rw [beq_iff_eq] at hj;subst hj
   have:=he j
   rw [hi] at this
   exact this.unarr
def key4 (z:List Int):List Int:=z.take 4 ++ List.replicate (4 - z.length) 0
theorem key4_len (z:List Int):(key4 z).length=4:=by unfold key4;simp;omega
def kv (z:List Int):Value:=.agg ((key4 z).map (Value.int .i64)).toArray
theorem litsV_map:∀ l:List Int,litsV (l.map fun x=>D.g (.lit (.int .i64 x)))=some (l.map (Value.int .i64))
 | []=>rfl
 | x :: l=>by simp only [List.map_cons,litsV,litsV_map l,Option.map_some]
theorem keyD_kv (z:List Int):keyD (.agg ((key4 z).map i64))=some (kv z):=by
 unfold keyD kv
 have:=litsV_map (key4 z)
 simp only [show (key4 z).map i64=(key4 z).map fun x=>D.g (.lit (.int .i64 x)) from rfl,this,Option.map_some]
theorem kv_inj {a b:List Int} (hl:a.length=b.length) (h4:a.length≤4) (h:kv a=kv b):a=b:=by
 unfold kv at h
 injection h with h
 have h:=congrArg Array.toList h
 simp only [List.toList_toArray] at h
 have h:key4 a=key4 b:=by
  have inj:∀ l m:List Int,l.map (Value.int .i64)=m.map (Value.int .i64)→l=m:=by
   intro l
   induction l with
   | nil=>intro m hm;cases m with|nil=>rfl|cons y m=>simp at hm
   | cons x l ih =>
     intro m hm
     cases m with
     | nil=>simp at hm
     | cons y m =>
       simp only [List.map_cons,List.cons.injEq,Value.int.injEq,true_and] at hm
       rw [hm.1,ih m hm.2]
  exact inj _ _ h
 unfold key4 at h
 rw [List.take_of_length_le h4,List.take_of_length_le (by omega)] at h
 exact (List.append_inj h hl).1
theorem sl81 {N:DEnv→Store→Prop} {e:DEnv} {S:Store} {d:Option Nat} {t:TypeId} {r':List (Option Ci × Nat)} {x:Operand}:runD Tryz.prog N ((some ⟨d,none,.slice 81 x none none none,t⟩,0) :: r') e S=arrD 4 (pev e x) (Kq (Kd Tryz.prog N r' e d) S):=rd0_sliceA ⟨by kernel_rfl,by kernel_rfl⟩
attribute [go_sem ↓] sl81
set_option maxHeartbeats 1000000 in
theorem p_polyOf {m:Mo} (hl:m.e.length≤4):PC Tryz.prog 56 [MO m] fun d=>d=.agg ((key4 m.e).map i64):=by
 obtain ⟨⟨n1,e1,w1⟩,z⟩:=m
 simp only at hl ⊢
 have hc:List.take (if (rS eZ z).length≤4 then (rS eZ z).length else 4) (rS eZ z) ++ List.drop (if (rS eZ z).length≤4 then (rS eZ z).length else 4) [[i64 0],[i64 0],[i64 0],[i64 0]]=((key4 z).map i64).map fun d=>[d]:=by
  rcases z with _|⟨a,_|⟨b,_|⟨c,_|⟨d,_|⟨x,z⟩⟩⟩⟩⟩
  all_goals first|rfl|(exfalso;simp at hl)
 have hk:=key4_len z
 generalize key4 z=y at *
 obtain ⟨y0,y1,y2,y3,rfl⟩:∃ a b c d,y=[a,b,c,d]:=by
  match y,hk with
  | [a,b,c,d],_=>exact ⟨a,b,c,d,rfl⟩
 have d1:=@dl 2 qQ3_56_2
 refine PB (rs:=[.cell 2 81]) Tryz.func56 ?_
 repeat (first|with_reducible refine pv_stop 1 ?_|(with_reducible first|refine pv_seq fun K hK=>?_|((first|refine hK _ _ ?_|(clear hK;refine hK _ _ ?_)|(clear hK;clear hK;refine hK _ _ ?_));clear hK;try clear K))| refine W ?_|exact Z|with_reducible intro b)
 refine ⟨fun K1 q1 hC=>?_⟩
 repeat (first|(with_reducible first|refine pv_seq fun K hK=>?_|((first|refine hK _ _ ?_|(clear hK;refine hK _ _ ?_)|(clear hK;clear hK;refine hK _ _ ?_));clear hK;try clear K))| refine W0 ?_|exact Z|with_reducible intro b)
 refine hC _ _ (Recast.arr 3 (n:=4) Zr Zr (by decide) (by decide) ?_)
 refine q1 _ _ ?_
 clear q1 hC
 repeat (first|with_reducible refine pv_stop 2 ?_|(with_reducible first|refine pv_seq fun K hK=>?_|((first|refine hK _ _ ?_|(clear hK;refine hK _ _ ?_)|(clear hK;clear hK;refine hK _ _ ?_));clear hK;try clear K))| refine W ?_|exact Z|with_reducible intro b)
 refine ⟨fun K2 q2 hC=>?_⟩
 repeat (first|(with_reducible first|refine pv_seq fun K hK=>?_|((first|refine hK _ _ ?_|(clear hK;refine hK _ _ ?_)|(clear hK;clear hK;refine hK _ _ ?_));clear hK;try clear K))| refine W0 ?_|exact Z|with_reducible intro b)
 refine hC _ _ (Recast.unarr 3 [i64 y0,i64 y1,i64 y2,i64 y3] Zr (updS_at.trans (congrArg (fun e=>some (Blk.mk _ 1 0 e)) hc)) ?_)
 refine q2 _ _ ?_
 clear q2 hC
 exact Wk
theorem u81:(Tryz.prog).underlying 81=some (.array 4 3):=Tryz.underlying81
theorem c81:(Tryz.prog).cellsOf 81=4:=by kernel_rfl
theorem c3:(Tryz.prog).cellsOf 3=1:=by kernel_rfl
theorem k81:(Tryz.prog).keyType 81=true:=by kernel_rfl
theorem row81:(81:TypeId)<(Tryz.prog).types.size:=of_decide_eq_true (by kernel_rfl)
theorem mapIs:MapIs Tryz.prog 78 81 3 (.int .i64 0) where
 und:=Tryz.underlying78
 law:=deep_law_laid (by kernel_rfl) (m:=2) (by omega) row81 (by kernel_rfl) (by rw [u81])
 zero:=fun w=>by kernel_rfl
 one:=rfl
theorem wf8 {x:Int} (h0:0≤x) (h8:x≤8):(Lit.int .i64 x).wf=true:=by
 obtain ⟨n,rfl⟩:=Int.eq_ofNat_of_zero_le h0
 match n,h8 with
 | 0,_|1,_|2,_|3,_|4,_|5,_|6,_|7,_|8,_=>rfl
 | n + 9,h=>exact absurd h (by omega)
theorem keyOk4 {a b c d:Int} (ha:(Lit.int .i64 a).wf=true) (hb:(Lit.int .i64 b).wf=true) (hc:(Lit.int .i64 c).wf=true) (hd:(Lit.int .i64 d).wf=true):KeyOk Tryz.prog 81 (.agg #[.int .i64 a,.int .i64 b,.int .i64 c,.int .i64 d]):=by
 obtain ⟨m,hm⟩:∃ m,(Tryz.prog).types.size + 1=m + 2:=⟨(Tryz.prog).types.size - 1,by have h:0<(Tryz.prog).types.size:=Nat.lt_of_le_of_lt (Nat.zero_le _) row81;omega⟩
 have hi:∀ x:Int,(Lit.int .i64 x).wf=true→(Tryz.prog).keyLits (m + 1) 3 [.int .i64 x]=some [.int .i64 x]:=fun x hx=>by
  unfold Program.keyLits
  rw [Tryz.underlying3]
  simp [hx]
 have hf:Value.formed Tryz.prog 81 (.agg #[.int .i64 a,.int .i64 b,.int .i64 c,.int .i64 d])=true:=by
  simp [Value.formed,u81,c81]
 have hl:(Tryz.prog).keyLits (m + 2) 81 [.int .i64 a,.int .i64 b,.int .i64 c,.int .i64 d]=some [.int .i64 a,.int .i64 b,.int .i64 c,.int .i64 d]:=by
  unfold Program.keyLits
  rw [u81]
  simp [c81,c3,List.range_succ,hi a ha,hi b hb,hi c hc,hi d hd]
 unfold KeyOk keyOf
 rw [u81,hm]
 simp only [k81,hf,Bool.and_self,if_true]
 have hcs:(Value.agg #[.int .i64 a,.int .i64 b,.int .i64 c,.int .i64 d]).cells.toList=[.int .i64 a,.int .i64 b,.int .i64 c,.int .i64 d]:=rfl
 rw [hcs,hl]
 exact ⟨_,rfl⟩
theorem key4_mem {z:List Int} {x:Int} (h:x ∈ key4 z):x ∈ z∨x=0:=by
 unfold key4 at h
 rcases List.mem_append.1 h with h|h
 ·exact .inl (List.mem_of_mem_take h)
 ·exact .inr (List.mem_replicate.1 h).2
theorem keyOk {z:List Int} (h:∀ x ∈ z,0≤x∧x≤8):KeyOk Tryz.prog 81 (kv z):=by
 have hx:∀ x ∈ key4 z,(Lit.int .i64 x).wf=true:=fun x hx=>by
  rcases key4_mem hx with h1|h1
  ·exact wf8 (h x h1).1 (h x h1).2
  ·rw [h1];rfl
 unfold kv
 have hk:=key4_len z
 generalize key4 z=y at *
 match y,hk,hx with
 | [a,b,c,d],_,hx=>exact keyOk4 (hx a (by simp)) (hx b (by simp)) (hx c (by simp)) (hx d (by simp))
def mapM (ms:List Mo):List (Value × Value):=(List.range ms.length).map fun i=>(kv (gM ms i).e,.int .i64 (i:Int))
theorem mapM_mem {ms:List Mo} {p:Value × Value} (h:p ∈ mapM ms):∃ i,i<ms.length∧p=(kv (gM ms i).e,.int .i64 (i:Int)):=by
 obtain ⟨i,hi,rfl⟩:=List.mem_map.1 h
 exact ⟨i,List.mem_range.1 hi,rfl⟩
theorem mapM_of {ms:List Mo} {i:Nat} (h:i<ms.length):(kv (gM ms i).e,Value.int .i64 (i:Int)) ∈ mapM ms:=List.mem_map.2 ⟨i,List.mem_range.2 h,rfl⟩
theorem mapM_app {ms:List Mo} {m:Mo}:mapM (ms ++ [m])=mapM ms ++ [(kv m.e,.int .i64 (ms.length:Int))]:=by
 unfold mapM
 rw [List.length_append,List.length_singleton,List.range_succ,List.map_append,List.map_singleton]
 congr 1
 ·refine List.map_congr_left fun i hi=>?_
  have:=List.mem_range.1 hi
  have e:gM (ms ++ [m]) i=gM ms i:=by simp [gM,List.getD,List.getElem?_append_left this]
  rw [e]
 ·have e:gM (ms ++ [m]) ms.length=m:=by simp [gM,List.getD]
  rw [e]
theorem mapM_set {ms:List Mo} {j:Nat} {m:Mo} (h:m.e=(gM ms j).e):mapM (ms.set j m)=mapM ms:=by
 unfold mapM
 rw [List.length_set]
 refine List.map_congr_left fun i hi=>?_
 have:=List.mem_range.1 hi
 congr 2
 by_cases hij:j=i
 ·subst hij
  have e:gM (ms.set j m) j=m:=by simp [gM,List.getD,this]
  rw [e,h]
 ·have e:gM (ms.set j m) i=gM ms i:=by simp [gM,List.getD,List.getElem?_set,hij]
  rw [e]
structure Acc (q:List Mo) (n i:Nat) (ms:List Mo):Prop where
 sy:∀ m ∈ ms,Sy (135168 + i) 65536 m.c
 perm:(ms.map teM).Perm (gathN (q.map teM) i)
theorem Acc.zero {q:List Mo} {n:Nat}:Acc q n 0 []:=⟨fun m hm=>(by cases hm),List.Perm.refl _⟩
theorem gT_teM {q:List Mo} {i:Nat} (h:i<q.length):gT (q.map teM) i=teM (gM q i):=by
 simp [gT,List.getD,gM_at h]
theorem gath_next {q:List Mo} {i:Nat} (h:i<q.length):gathN (q.map teM) (i + 1)=insT (gathN (q.map teM) i) (teM (gM q i)):=by
 show insT _ (gT (q.map teM) i)=_
 rw [gT_teM h]
theorem Acc.sort {q:List Mo} {n i:Nat} (hq:∀ m ∈ q,m.e.length=n) (hi:i≤q.length):SortT n (gathN (q.map teM) i) :=
 gathN_sort (fun t ht=>by obtain ⟨m,hm,rfl⟩:=List.mem_map.1 ht;exact hq m hm) i (by rw [List.length_map];exact hi)
theorem Acc.all {q:List Mo} {n i:Nat} {ms:List Mo} (h:Acc q n i ms) {P:List Int→Prop} (hP:∀ m ∈ q,P m.e) (hi:i≤q.length):∀ m ∈ ms,P m.e:=fun m hm=>by
 have:=gathN_all (P:=P) (l:=q.map teM) (fun t ht=>by obtain ⟨m,hm,rfl⟩:=List.mem_map.1 ht;exact hP m hm) i (by rw [List.length_map];exact hi)
 exact this (teM m) (h.perm.mem_iff.1 (List.mem_map_of_mem hm))
theorem Acc.len {q:List Mo} {n i:Nat} {ms:List Mo} (h:Acc q n i ms):ms.length≤i:=by
 have:=h.perm.length_eq
 rw [List.length_map] at this
 rw [this]
 exact gathN_len _ i
theorem Acc.hit {q:List Mo} {n i j:Nat} {ms:List Mo} {z:Nu} (h:Acc q n i ms) (hq:∀ m ∈ q,m.e.length=n) (hi:i<q.length) (hj:j<ms.length) (he:(gM ms j).e=(gM q i).e) (hz:Sy (135168 + i + 1) 65536 z) (hv:z.val=(gM ms j).c.val + (gM q i).c.val) :
 Acc q n (i + 1) (ms.set j ⟨z,(gM ms j).e⟩):=by
 refine ⟨fun m hm=>?_,?_⟩
 ·rcases List.mem_or_eq_of_mem_set hm with h1|h1
  ·exact (h.sy m h1).mono (by omega)
  ·rw [h1];exact hz.mono (by omega)
 ·rw [gath_next hi]
  have:=acc_hit (t:=teM (gM q i)) (x:=teM (gM ms j)) (i:=j) h.perm (Acc.sort hq (by omega)) (hq _ (gM_mem hi)) (by rw [List.getElem?_map,gM_at hj];rfl) he
  rw [List.map_set]
  have e:teM ⟨z,(gM ms j).e⟩=⟨(teM (gM ms j)).v + (teM (gM q i)).v,(teM (gM ms j)).e⟩:=by unfold teM;simp only;rw [hv]
  rw [e]
  exact this
theorem Acc.miss {q:List Mo} {n i:Nat} {ms:List Mo} {z:Nu} (h:Acc q n i ms) (hq:∀ m ∈ q,m.e.length=n) (hi:i<q.length) (hne:∀ m ∈ ms,m.e≠(gM q i).e) (hz:Sy (135168 + i + 1) 65536 z) (hv:z.val=(gM q i).c.val) :
 Acc q n (i + 1) (ms ++ [⟨z,(gM q i).e⟩]):=by
 refine ⟨fun m hm=>?_,?_⟩
 ·rcases List.mem_append.1 hm with h1|h1
  ·exact (h.sy m h1).mono (by omega)
  ·rw [List.mem_singleton.1 h1];exact hz.mono (by omega)
 ·rw [gath_next hi,List.map_append]
  have e:[(⟨z,(gM q i).e⟩:Mo)].map teM=[teM (gM q i)]:=by unfold teM;simp only [List.map_cons,List.map_nil];rw [hv]
  rw [e]
  exact acc_miss h.perm (Acc.sort hq (by omega)) (hq _ (gM_mem hi)) fun t ht=>by
   obtain ⟨m,hm,rfl⟩:=List.mem_map.1 ht
   exact hne m hm
end Go.V
namespace Go.V
open Go Go.RowKit Go.Proofs
theorem p_Make1 {S:Store} {Q:D→Store→Prop} {k:Nm} {b:Nat} {m:Mo} {n:Int} (h1:S k=some ⟨b,1,0,[[i64 n]]⟩) (hm:Wm m) (hQ:Q (bl (!monoB m n)) S):PFC Tryz.prog 55 [MO m,.ptr k b 0 0 1] S Q:=by
 have pM:=p_mono (n:=n) hm
 generalize monoB m n=r at *
 obtain ⟨⟨n1,e1,w1⟩,z⟩:=m
 cases r
 ·refine PFB (rs:=[.tmp 3]) Tryz.func55 ?_
  have ft:=h1
  repeat (first|(with_reducible first|refine pv_seq fun K hK=>?_|((first|refine hK _ _ ?_|(clear hK;refine hK _ _ ?_)|(clear hK;clear hK;refine hK _ _ ?_));clear hK;try clear K))| refine W ?_|exact Z|with_reducible intro b)
  exact hQ
 ·refine PFB (rs:=[.tmp 3]) Tryz.func55 ?_
  have ft:=h1
  repeat (first|(with_reducible first|refine pv_seq fun K hK=>?_|((first|refine hK _ _ ?_|(clear hK;refine hK _ _ ?_)|(clear hK;clear hK;refine hK _ _ ?_));clear hK;try clear K))| refine W ?_|exact Z|with_reducible intro b)
  exact hQ
set_option maxHeartbeats 1000000 in
theorem p_IndexM {S:Store} {Q:D→Store→Prop} {k:Nm} {b:Nat} {q:List Mo} {n:Int} (h1:S k=some ⟨b,1,0,[[i64 n]]⟩) (hq:WfM q) (hQ:∀ t:Int,(t = -1 ↔ allM q n=true) → -1≤t→Q (i64 t) S):PFC Tryz.prog 92 [MM q,.fn 55 [] [.ptr k b 0 0 1]] S Q:=by
 have hqn:=hq.n
 unfold MM
 have hbad:∀ i,i<q.length→monoB (gM q i) n=false→¬ allM q n=true:=fun i hi h h2=>by
  have:=of_decide_eq_true h2 (gM q i) (gM_mem hi)
  rw [this] at h;cases h
 refine PFB (rs:=[.tmp 4]) Tryz.func92 ?_
 repeat (first|(with_reducible first|refine pv_seq fun K hK=>?_|((first|refine hK _ _ ?_|(clear hK;refine hK _ _ ?_)|(clear hK;clear hK;refine hK _ _ ?_));clear hK;try clear K))| refine W0 ?_|exact Z|with_reducible intro b)
 obtain ⟨I,mk,el⟩:=hide fun e T=>∃ i:Nat,i≤q.length∧e 0=.g (eS eM q)∧e 1=.fn 55 [] [.ptr (.up k) b 0 0 1]∧e 7=i64 q.length∧e 8=i64 i∧T=upS S∧∀ j,j<i→monoB (gM q j) n=true
 refine pv_loop I (fun e _=>q.length - (intD (e 8)).toNat) ?_ ?_
 ·exact mk _ _ ⟨0,Nat.zero_le _,Zr,Zr,Zr,Zr,rfl,fun j hj=>by omega⟩
 ·intro e T hI
  obtain ⟨i,hi,g0,g1,g7,g8,rfl,hz⟩:=el e T hI
  clear el hI
  have ft:=And.intro g0 (And.intro g1 (And.intro g7 g8))
  repeat (first|(with_reducible first|refine pv_seq fun K hK=>?_|((first|refine hK _ _ ?_|(clear hK;refine hK _ _ ?_)|(clear hK;clear hK;refine hK _ _ ?_));clear hK;try clear K))| refine W0 ?_|exact Z|with_reducible intro b)
  refine pv_cdD (fun ht=>?_) (fun ht=>?_)
  ·have hil:i<q.length:=by omega
   have q1:=gM_at hil
   have wm:=hq.w _ (gM_mem hil)
   have hb:=hbad i hil
   have hzs:monoB (gM q i) n=true→∀ j,j<i + 1→monoB (gM q j) n=true:=fun h j hj=>by
    rcases Nat.lt_or_ge j i with h3|h3
    ·exact hz j h3
    ·obtain rfl:j=i:=by omega
     exact h
   have pM:=fun Q'=>p_Make1 (S:=upS S) (k:=.up k) (Q:=Q') h1 wm
   clear hz
   generalize gM q i=m at *
   obtain ⟨⟨n1,e1,w1⟩,z⟩:=m
   have ft:=And.intro g0 (And.intro g1 (And.intro g7 (And.intro g8 q1)))
   repeat (first|(with_reducible first|refine pv_seq fun K hK=>?_|((first|refine hK _ _ ?_|(clear hK;refine hK _ _ ?_)|(clear hK;clear hK;refine hK _ _ ?_));clear hK;try clear K))| refine W0 ?_|exact Z|with_reducible intro b)
   refine pM _ ?_
   generalize monoB ⟨⟨n1,e1,w1⟩,z⟩ n=r at *
   cases r
   ·repeat (first|(with_reducible first|refine pv_seq fun K hK=>?_|((first|refine hK _ _ ?_|(clear hK;refine hK _ _ ?_)|(clear hK;clear hK;refine hK _ _ ?_));clear hK;try clear K))| refine W0 ?_|exact Z|with_reducible intro b)
    refine hQ i ⟨fun h=>by omega,fun h=>absurd h (hb rfl)⟩ (by omega)
   ·repeat (first|(with_reducible first|refine pv_seq fun K hK=>?_|((first|refine hK _ _ ?_|(clear hK;refine hK _ _ ?_)|(clear hK;clear hK;refine hK _ _ ?_));clear hK;try clear K))| refine W0 ?_|exact Z|with_reducible intro b)
    exact ⟨mk _ _ ⟨i + 1,by omega,Zr,Zr,Zr,Zr,rfl,hzs rfl⟩,by simp only [intD];omega⟩
  ·obtain rfl:i=q.length:=by omega
   have hall:allM q n=true:=decide_eq_true fun m hm=>by
    obtain ⟨j,hj⟩:=List.getElem?_of_mem hm
    have hjl:j<q.length:=(List.getElem?_eq_some_iff.1 hj).1
    have:=hz j hjl
    rw [gM_at hjl] at hj
    injection hj with hj
    rwa [hj] at this
   repeat (first|(with_reducible first|refine pv_seq fun K hK=>?_|((first|refine hK _ _ ?_|(clear hK;refine hK _ _ ?_)|(clear hK;clear hK;refine hK _ _ ?_));clear hK;try clear K))| refine W0 ?_|exact Z|with_reducible intro b)
   exact hQ (-1) ⟨fun _=>hall,fun _=>rfl⟩ (by omega)
theorem p_ContM {S:Store} {Q:D→Store→Prop} {k:Nm} {b:Nat} {q:List Mo} {n:Int} (h1:S k=some ⟨b,1,0,[[i64 n]]⟩) (hq:WfM q) (hQ:Q (bl (!allM q n)) S):PFC Tryz.prog 54 [MM q,.fn 55 [] [.ptr k b 0 0 1]] S Q:=by
 refine PFB (rs:=[.tmp 4]) Tryz.func54 ?_
 repeat (first|(with_reducible first|refine pv_seq fun K hK=>?_|((first|refine hK _ _ ?_|(clear hK;refine hK _ _ ?_)|(clear hK;clear hK;refine hK _ _ ?_));clear hK;try clear K))| refine W0 ?_|exact Z|with_reducible intro b)
 refine p_IndexM (S:=upS S) (k:=.up k) h1 hq fun t ht h0=>?_
 have hd:(0≤t)=((!allM q n)=true):=by
  refine propext ⟨fun h=>?_,fun h=>?_⟩
  ·cases ha:allM q n
   ·rfl
   ·have:=ht.2 ha;omega
  ·rcases Int.lt_or_le t 0 with h2|h2
   ·rw [ht.1 (by omega)] at h;cases h
   ·exact h2
 generalize (!allM q n)=r at *
 have ft:=hd
 repeat (first|(with_reducible first|refine pv_seq fun K hK=>?_|((first|refine hK _ _ ?_|(clear hK;refine hK _ _ ?_)|(clear hK;clear hK;refine hK _ _ ?_));clear hK;try clear K))| refine W0 ?_|exact Z|with_reducible intro b)
 cases r<;>exact hQ
end Go.V
namespace Go.V
open Go Go.RowKit Go.Proofs
def qQ6_136_4:List (Nat × Nat):=[(0,0),(1,0),(2,0),(3,0),(4,0),(5,0),(6,0),(7,0),(8,1),(9,0),(10,0),(11,0),(12,0),(13,1),(14,3),(15,0),(16,0)]
def qQ6_136_6:List (Nat × Nat):=[(0,0),(1,0),(2,0),(3,0),(4,0),(5,0),(6,0),(7,0),(8,0),(9,1),(10,0),(11,0),(12,0),(13,1),(14,0),(15,3),(16,0),(17,3)]
def qQ6_100_17:List (Nat × Nat):=[(0,0),(1,0),(2,0),(3,0),(4,0),(5,0),(6,0),(7,0),(8,1),(9,0),(10,0),(11,0),(12,1),(13,3),(14,0),(15,0),(16,0)]
attribute [go_sem] qQ6_136_4 qQ6_136_6 qQ6_100_17
open Go.Shelf
def laySort_ren:Go.Shelf.Ren:=⟨fun|6=>60|15=>101|14=>100|28=>144|29=>134|20=>136|21=>137|22=>138|23=>139|24=>140|25=>141|26=>142|27=>143|46=>178|47=>179|48=>180|49=>181|50=>182|57=>192|n=>n,fun|22=>22|24=>45|25=>70|3=>3|39=>99|0=>0|53=>155|55=>46|4=>4|46=>149|45=>148|50=>79|5=>5|9=>9|66=>176|70=>179|76=>190|77=>191|n=>n,fun|n=>n⟩
theorem laySort:Go.Proofs.SlLaysF0.n6 Tryz.prog laySort_ren where
 mixed:=by kernel_rfl
 f6:=⟨ "slices.SortFunc[[]fathomline/api.Mono,fathomline/api.Mono]",by decide,Tryz.func60.trans (congrArg some (by kernel_rfl))⟩
 f14:=⟨ "slices.pdqsortCmpFunc[fathomline/api.Mono]",by decide,Tryz.func100.trans (congrArg some (by kernel_rfl))⟩
 f15:=Tryz.func101.trans (congrArg some (by kernel_rfl))
 f20:=⟨ "slices.insertionSortCmpFunc[fathomline/api.Mono]",by decide,Tryz.func136.trans (congrArg some (by kernel_rfl))⟩
 f21:=⟨ "slices.heapSortCmpFunc[fathomline/api.Mono]",by decide,Tryz.func137.trans (congrArg some (by kernel_rfl))⟩
 f22:=⟨ "slices.breakPatternsCmpFunc[fathomline/api.Mono]",by decide,Tryz.func138.trans (congrArg some (by kernel_rfl))⟩
 f23:=⟨ "slices.choosePivotCmpFunc[fathomline/api.Mono]",by decide,Tryz.func139.trans (congrArg some (by kernel_rfl))⟩
 f24:=⟨ "slices.reverseRangeCmpFunc[fathomline/api.Mono]",by decide,Tryz.func140.trans (congrArg some (by kernel_rfl))⟩
 f25:=⟨ "slices.partialInsertionSortCmpFunc[fathomline/api.Mono]",by decide,Tryz.func141.trans (congrArg some (by kernel_rfl))⟩
 f26:=⟨ "slices.partitionEqualCmpFunc[fathomline/api.Mono]",by decide,Tryz.func142.trans (congrArg some (by kernel_rfl))⟩
 f27:=⟨ "slices.partitionCmpFunc[fathomline/api.Mono]",by decide,Tryz.func143.trans (congrArg some (by kernel_rfl))⟩
 f28:=Tryz.func144.trans (congrArg some (by kernel_rfl))
 f29:=Tryz.func134.trans (congrArg some (by kernel_rfl))
 f46:=⟨ "slices.siftDownCmpFunc[fathomline/api.Mono]",by decide,Tryz.func178.trans (congrArg some (by kernel_rfl))⟩
 f47:=Tryz.func179.trans (congrArg some (by kernel_rfl))
 f48:=Tryz.func180.trans (congrArg some (by kernel_rfl))
 f49:=⟨ "slices.medianAdjacentCmpFunc[fathomline/api.Mono]",by decide,Tryz.func181.trans (congrArg some (by kernel_rfl))⟩
 f50:=⟨ "slices.medianCmpFunc[fathomline/api.Mono]",by decide,Tryz.func182.trans (congrArg some (by kernel_rfl))⟩
 f57:=⟨ "slices.order2CmpFunc[fathomline/api.Mono]",by decide,Tryz.func192.trans (congrArg some (by kernel_rfl))⟩
 t0:=Tryz.underlying0
 a0:=Tryz.isAgg0
 z0:=Tryz.sizeOf0
 v0:=Tryz.zeroValue0
 t3:=Tryz.underlying3
 a3:=Tryz.isAgg3
 z3:=Tryz.sizeOf3
 v3:=Tryz.zeroValue3
 t4:=Tryz.underlying4
 a4:=Tryz.isAgg4
 z4:=Tryz.sizeOf4
 v4:=Tryz.zeroValue4
 t5:=Tryz.underlying5
 a5:=Tryz.isAgg5
 z5:=Tryz.sizeOf5
 v5:=Tryz.zeroValue5
 t9:=Tryz.underlying9
 a9:=Tryz.isAgg9
 z9:=Tryz.sizeOf9
 v9:=Tryz.zeroValue9
 t22:=Tryz.underlying22
 a22:=Tryz.isAgg22
 z22:=Tryz.sizeOf22
 v22:=Tryz.zeroValue22
 t25:=Tryz.underlying70
 a25:=Tryz.isAgg70
 z25:=Tryz.sizeOf70
 v25:=Tryz.zeroValue70
 t39:=Tryz.underlying99
 a39:=Tryz.isAgg99
 z39:=Tryz.sizeOf99
 v39:=Tryz.zeroValue99
 t45:=Tryz.underlying148
 a45:=Tryz.isAgg148
 z45:=Tryz.sizeOf148
 v45:=Tryz.zeroValue148
 t46:=Tryz.underlying149
 a46:=Tryz.isAgg149
 z46:=Tryz.sizeOf149
 v46:=Tryz.zeroValue149
 t50:=Tryz.underlying79
 a50:=Tryz.isAgg79
 z50:=Tryz.sizeOf79
 v50:=Tryz.zeroValue79
 t53:=Tryz.underlying155
 a53:=Tryz.isAgg155
 z53:=Tryz.sizeOf155
 v53:=Tryz.zeroValue155
 t55:=Tryz.underlying46
 a55:=Tryz.isAgg46
 z55:=Tryz.sizeOf46
 v55:=Tryz.zeroValue46
 t66:=Tryz.underlying176
 a66:=Tryz.isAgg176
 z66:=Tryz.sizeOf176
 v66:=Tryz.zeroValue176
 t70:=Tryz.underlying179
 a70:=Tryz.isAgg179
 z70:=Tryz.sizeOf179
 v70:=Tryz.zeroValue179
 t76:=Tryz.underlying190
 a76:=Tryz.isAgg190
 z76:=Tryz.sizeOf190
 v76:=Tryz.zeroValue190
 t77:=Tryz.underlying191
 a77:=Tryz.isAgg191
 z77:=Tryz.sizeOf191
 v77:=Tryz.zeroValue191
theorem sort_enters:∀ args w,(callFunc 46 args).run Tryz.prog w=.ok (.enter 46 args) w:=enters_of Tryz.func46 (by kernel_rfl) rfl
theorem p_SortRow {S:Store} {K:D→Store→Prop} {k:Nm} {b cap:Nat} {xs:List Mo} (hk:S k=some ⟨b,4,0,rS eM xs⟩) (hn:0<xs.length) (h5:xs.length≤100000) (he:∀ m ∈ xs,m.e.length≤100000)
 (hK:∀ ys,ys.Perm xs→ys.Pairwise (fun x y=>¬ aheadI y x<0)→K (.tup []) (updS S k (some ⟨b,4,0,rS eM ys⟩))) :
 PFC Tryz.prog 60 [.own k b 0 xs.length cap 4,.fn 46 [] []] S K :=
 (PFC.sort (f:=eM) (cap:=cap) laySort (s:=4) Tryz.isAgg45 Tryz.sizeOf45 (by decide) (fun _=>rfl) aheadI ahead_swo sort_enters (fun x hx y hy=>p_ahead (he x hx) (he y hy)) hk hn (by omega)).mono fun d S' h=>by
   obtain ⟨rfl,ys,h1,h2,rfl⟩:=h
   exact hK ys h1 h2
theorem p_Len64z:PC Tryz.prog 134 [.g (.lit (.int .u64 0))] fun d=>d=i64 0:=pc_lit fun w I vs hG hv=>by
 obtain ⟨v,rfl,hr⟩:=hv.one
 rw [hr.lit_inv]
 exact len64 0 (by decide) ⟨Ext.refl _,rfl,rfl⟩
theorem p_bLenz:PC Tryz.prog 101 [.g (.lit (.int .u64 0))] fun d=>d=i64 0:=by
 have pL:=p_Len64z
 refine PB (rs:=[.tmp 2]) Tryz.func101 ?_
 exact Wk
theorem p_insz:PC Tryz.prog 136 [.nil,i64 0,i64 0,.fn 46 [] []] fun d=>d=.tup []:=by
 have d1:=@dl 4 qQ6_136_4
 have d2:=@dl 6 qQ6_136_6
 refine PB (rs:=[]) Tryz.func136 ?_
 repeat (first|(with_reducible first|refine pv_seq fun K hK=>?_|((first|refine hK _ _ ?_|(clear hK;refine hK _ _ ?_)|(clear hK;clear hK;refine hK _ _ ?_));clear hK;try clear K))| refine W0 ?_|exact Z|with_reducible intro b)
 refine pv_loop (fun e S=>Hid (e 2=i64 0∧e 8=i64 1)) (fun _ _=>0) ?_ ?_
 ·exact ⟨Zr,Zr⟩
 ·rintro e S ⟨g2,g8⟩
  have ft:=And.intro g2 g8
  exact Wk
theorem p_pdqz:PC Tryz.prog 100 [.nil,i64 0,i64 0,i64 0,.fn 46 [] []] fun d=>d=.tup []:=by
 have pI:=p_insz
 have d1:=@dl 17 qQ6_100_17
 refine PB (rs:=[]) Tryz.func100 ?_
 repeat (first|(with_reducible first|refine pv_seq fun K hK=>?_|((first|refine hK _ _ ?_|(clear hK;refine hK _ _ ?_)|(clear hK;clear hK;refine hK _ _ ?_));clear hK;try clear K))| refine W0 ?_|exact Z|with_reducible intro b)
 refine pv_loop (fun e S=>Hid (e 0=.nil∧e 1=i64 0∧e 2=i64 0∧e 4=.fn 46 [] [])) (fun _ _=>0) ?_ ?_
 ·exact ⟨Zr,Zr,Zr,Zr⟩
 ·rintro e S ⟨g0,g1,g2,g4⟩
  have ft:=And.intro g0 (And.intro g1 (And.intro g2 g4))
  exact Wk
theorem p_SortNil:PC Tryz.prog 60 [.nil,.fn 46 [] []] fun d=>d=.tup []:=by
 have pI:=p_pdqz
 have pL:=p_bLenz
 refine PB (rs:=[]) Tryz.func60 ?_
 exact Wk
end Go.V
namespace Go.V
open Go Go.RowKit Go.Proofs
def qQ5_19_13:List (Nat × Nat):=[(0,0),(1,0),(2,0),(3,0),(4,0),(5,0),(6,1),(7,0),(8,1),(9,3),(10,0),(11,0),(12,3)]
attribute [go_sem] qQ5_19_13
theorem pmkR_no {q:List Mo} {n:Int} (h:¬ (1≤n∧n≤4∧allM q n=true)):pmkR q n=([],1):=by
 unfold pmkR
 by_cases h1:1≤n
 ·by_cases h4:n≤4
  ·rw [decide_eq_true h1,decide_eq_true h4]
   cases ha:allM q n
   ·rfl
   ·exact absurd ⟨h1,h4,ha⟩ h
  ·rw [decide_eq_false h4,Bool.and_false];rfl
 ·rw [decide_eq_false h1];rfl
theorem RowZ.cast {N:DEnv→Store→Prop} {e:DEnv} {S:Store} {k:Nm} {s:Nat} {d:D} {els:List (List D)} {es:List D} {x y:D} (j:Nat) (h:RowZ S k s d (els ++ [es])) (hj:es[j]? = some x) (hs:∀ I H v,RdD I H x v→RdD I H y v)
 (hN:∀ S',RowZ S' k s d (els ++ [es.set j y])→Keep k S S'→N e S'):Recast N e S:=by
 rcases h with ⟨_,h2⟩|⟨b,cap,h1,h2⟩
 ·simp at h2
 ·refine Recast.cell h2 (i:=els.length) (by simp) hj hs (hN _ (.inr ⟨b,cap,?_,?_⟩) .upd)
  ·rw [h1];simp
  ·rw [updS_at];simp
set_option maxHeartbeats 8000000 in
theorem p_pMake {q:List Mo} {n:Int} (hq:WfM q) (hl:q.length≤10000):PC Tryz.prog 19 [MM q,i64 n] fun d=>d=LM (pmkR q n):=by
 unfold MM LM
 by_cases h1:1≤n
 ·have k1:(n<1)=False:=eq_false (by omega)
  by_cases h4:n≤4
  ·have k2:(4<n)=False:=eq_false (by omega)
   cases ha:allM q n with
   | false =>
     rw [pmkR_no (fun h=>by rw [ha] at h;cases h.2.2)]
     have d1:=@dl 13 qQ5_19_13
     refine PB (rs:=[.tmp 4,.tmp 5]) Tryz.func19 ?_
     have ft:=And.intro k1 k2
     repeat (first|(with_reducible first|refine pv_seq fun K hK=>?_|((first|refine hK _ _ ?_|(clear hK;refine hK _ _ ?_)|(clear hK;clear hK;refine hK _ _ ?_));clear hK;try clear K))| refine W0 ?_|exact Z|with_reducible intro b)
     refine p_ContM (k:=.l 3) (by simp only [updS_apply];rfl) hq ?_
     rw [ha]
     exact Wk
   | true =>
     obtain ⟨N,rfl⟩:∃ N:Nat,n=N:=⟨n.toNat,by omega⟩
     have hall:∀ m ∈ q,monoB m N=true:=of_decide_eq_true ha
     have hlen:∀ m ∈ q,m.e.length=N:=fun m hm=>by
      have:=hall m hm
      unfold monoB at this
      simp only [Bool.and_eq_true,decide_eq_true_eq] at this
      omega
     have hpw:∀ m ∈ q,(∀ x ∈ m.e,0≤x)∧(∀ x ∈ m.e,0≤x∧x≤8)∧m.e.length=N:=fun m hm=>by
      have:=hall m hm
      unfold monoB at this
      simp only [Bool.and_eq_true,decide_eq_true_eq] at this
      refine ⟨this.1.1.2,fun x hx=>⟨this.1.1.2 x hx,?_⟩,hlen m hm⟩
      have h8:=this.1.2
      obtain ⟨i,hi⟩:=List.getElem?_of_mem hx
      have:=le_sum this.1.1.2 i (List.getElem?_eq_some_iff.1 hi).1
      rw [List.getD,hi] at this
      simp only [Option.getD_some] at this
      omega
     have hr:pmkR q N=gathR (q.map teM):=by
      unfold pmkR
      rw [decide_eq_true h1,decide_eq_true h4,ha];rfl
     rw [hr]
     clear hr
     have d1:=@dl 13 qQ5_19_13
     refine PB (rs:=[.tmp 4,.tmp 5]) Tryz.func19 ?_
     have ft:=And.intro k1 k2
     repeat (first|(with_reducible first|refine pv_seq fun K hK=>?_|((first|refine hK _ _ ?_|(clear hK;refine hK _ _ ?_)|(clear hK;clear hK;refine hK _ _ ?_));clear hK;try clear K))| refine W0 ?_|exact Z|with_reducible intro b)
     refine p_ContM (k:=.l 3) (by simp only [updS_apply];rfl) hq ?_
     rw [ha]
     repeat (first|(with_reducible first|refine pv_seq fun K hK=>?_|((first|refine hK _ _ ?_|(clear hK;refine hK _ _ ?_)|(clear hK;clear hK;refine hK _ _ ?_));clear hK;try clear K))| refine W0 ?_|exact Z|with_reducible intro b)
     refine ⟨rfl,fun l o ho=>?_⟩
     repeat (first|(with_reducible first|refine pv_seq fun K hK=>?_|((first|refine hK _ _ ?_|(clear hK;refine hK _ _ ?_)|(clear hK;clear hK;refine hK _ _ ?_));clear hK;try clear K))| refine W0 ?_|exact Z|with_reducible intro b)
     have J:∀ (e:DEnv) (S:Store) (ms:List Mo),Acc q N q.length ms→RowZ S (.l 56) 4 (e 7) (rS eM ms)→K e S:=by
      as_aux_lemma =>
      intro e S ms hacc hw
      have hle:∀ t ∈ q.map teM,t.e.length=N:=fun t ht=>by obtain ⟨m,hm,rfl⟩:=List.mem_map.1 ht;exact hlen m hm
      have hpf:=hacc.perm
      have hql:(q.map teM).length=q.length:=List.length_map _
      rw [← hql] at hpf
      have hsy:=hacc.sy
      have hml:=hacc.len
      have hme:=hacc.all (P:=fun e=>(∀ x ∈ e,0≤x)∧(∀ x ∈ e,0≤x∧x≤8)∧e.length=N) hpw (by omega)
      have hbad:=fun (y:Te)=>gathR_bad (l:=q.map teM) (all:=ms.map teM) (y:=y) hpf
      have hlong:=gathR_long (l:=q.map teM) (all:=ms.map teM) hpf
      have hsort:=fun ys=>gathR_sorted (n:=N) (l:=q.map teM) (all:=ms.map teM) (ys:=ys) hle hpf
      clear hacc hpf hle hall hpw hlen
      generalize gathR (q.map teM)=r at *
      have JF:∀ (e:DEnv) (S:Store),True:=fun _ _=>trivial
      rcases hw with ⟨g7,h7⟩|⟨b7,cap,g7,s7⟩
      ·obtain rfl:ms=[]:=by have:=congrArg List.length h7;rw [rS_len] at this;exact List.eq_nil_of_length_eq_zero this
       have hr:=hsort [] (fun y hy=>by cases hy) (by decide) (List.Perm.refl _) List.Pairwise.nil
       subst hr
       have ft:=g7
       repeat (first|(with_reducible first|refine pv_seq fun K hK=>?_|((first|refine hK _ _ ?_|(clear hK;refine hK _ _ ?_)|(clear hK;clear hK;refine hK _ _ ?_));clear hK;try clear K))| refine W0 ?_|exact Z|with_reducible intro b)
       refine pv_loop (fun e T=>Hid (e 12=.nil∧e 71=i64 0∧e 72=i64 0)) (fun _ _=>0) ?_ ?_
       ·exact ⟨Zr,Zr,Zr⟩
       ·rintro e2 T ⟨g12,g71,g72⟩
        have ft:=And.intro g12 (And.intro g71 g72)
        repeat (first|(with_reducible first|refine pv_seq fun K hK=>?_|((first|refine hK _ _ ?_|(clear hK;refine hK _ _ ?_)|(clear hK;clear hK;refine hK _ _ ?_));clear hK;try clear K))| refine W0 ?_|exact Z|with_reducible intro b)
        refine call_is p_SortNil ?_
        exact Wk
      ·rw [rS_len] at g7
       have q4:∀ i,i<ms.length→(rS eM ms)[i]? = some ((eM (gM ms i)).map D.g):=fun i hi=>by rw [rS_get,gM_at hi];rfl
       have ft:=g7
       repeat (first|(with_reducible first|refine pv_seq fun K hK=>?_|((first|refine hK _ _ ?_|(clear hK;refine hK _ _ ?_)|(clear hK;clear hK;refine hK _ _ ?_));clear hK;try clear K))| refine W0 ?_|exact Z|with_reducible intro b)
       have JF:∀ (e:DEnv) (S:Store),(∀ y ∈ ms.map teM,OkD y.v)→RowZ S (.l 102) 4 (e 12) (rS eM (outM (ms.map teM)))→(outM (ms.map teM)=[]→e 12=.nil)→K e S:=by
        intro e S hok hw2 hne
        have hol:=outM_len (ms.map teM)
        rw [List.length_map] at hol
        have hoe:∀ m ∈ outM (ms.map teM),m.e.length≤100000:=fun m hm=>by
         unfold outM at hm
         obtain ⟨t,ht,rfl⟩:=List.mem_map.1 hm
         obtain ⟨m2,hm2,rfl⟩:=List.mem_map.1 (List.mem_filter.1 ht).1
         show m2.e.length≤100000
         rw [(hme m2 hm2).2.2];omega
        have hlg:=hlong hok
        have hst:=fun ys=>hsort ys hok
        generalize outM (ms.map teM)=out at *
        by_cases h24:24<out.length
        ·have hr:=hlg h24
         subst hr
         have k24:((24:Int)<(out.length:Int))=True:=eq_true (by omega)
         have ft:=k24
         repeat (first|(with_reducible first|refine pv_seq fun K hK=>?_|((first|refine hK _ _ ?_|(clear hK;refine hK _ _ ?_)|(clear hK;clear hK;refine hK _ _ ?_));clear hK;try clear K))| refine W0 ?_|exact Z|with_reducible intro b)
         refine hw2.toD.len ?_
         rw [rS_len]
         exact Wk
        ·have k24:((24:Int)<(out.length:Int))=False:=eq_false (by omega)
         have hst2:=fun ys=>hst ys (by omega)
         rcases Nat.eq_zero_or_pos out.length with h0|h0
         ·obtain rfl:=List.eq_nil_of_length_eq_zero h0
          have g12:=hne rfl
          have hr:=hst2 [] (List.Perm.refl _) List.Pairwise.nil
          subst hr
          have k24:((24:Int)<((0:Nat):Int))=False:=eq_false (by omega)
          have ft:=And.intro g12 k24
          repeat (first|(with_reducible first|refine pv_seq fun K hK=>?_|((first|refine hK _ _ ?_|(clear hK;refine hK _ _ ?_)|(clear hK;clear hK;refine hK _ _ ?_));clear hK;try clear K))| refine W0 ?_|exact Z|with_reducible intro b)
          refine call_is p_SortNil ?_
          exact Wk
         ·rcases hw2 with ⟨_,h1⟩|⟨b12,cap2,g12,s12⟩
          ·have:=congrArg List.length h1;rw [rS_len,List.length_nil] at this;omega
          ·rw [rS_len] at g12
           have ft:=And.intro g12 k24
           repeat (first|(with_reducible first|refine pv_seq fun K hK=>?_|((first|refine hK _ _ ?_|(clear hK;refine hK _ _ ?_)|(clear hK;clear hK;refine hK _ _ ?_));clear hK;try clear K))| refine W0 ?_|exact Z|with_reducible intro b)
           refine p_SortRow s12 h0 (by omega) hoe fun ys hp hs=>?_
           have hr:=hst2 ys hp hs
           subst hr
           repeat (first|(with_reducible first|refine pv_seq fun K hK=>?_|((first|refine hK _ _ ?_|(clear hK;refine hK _ _ ?_)|(clear hK;clear hK;refine hK _ _ ?_));clear hK;try clear K))| refine W0 ?_|exact Z|with_reducible intro b)
           refine ⟨by rw [rS_len,hp.length_eq];exact Nat.le_refl _,?_⟩
           rw [List.take_of_length_le (by rw [rS_len,hp.length_eq];exact Nat.le_refl _),pureLL_rS]
           rfl
       clear hK
       obtain ⟨I,mk,el⟩:=hide fun e S=>∃ i:Nat,i≤ms.length∧e 70=.own (.l 56) b7 0 ms.length cap 4∧e 71=i64 ms.length∧e 72=i64 i∧S (.l 56)=some ⟨b7,4,0,rS eM ms⟩∧RowZ S (.l 102) 4 (e 12) (rS eM (outM ((ms.take i).map teM)))∧(outM ((ms.take i).map teM)=[]→e 12=.nil)∧∀ j,j<i→OkD (gM ms j).c.val
       refine pv_loop I (fun e _=>ms.length - (intD (e 72)).toNat) ?_ ?_
       ·exact mk _ _ ⟨0,Nat.zero_le _,Zr,Zr,Zr,s7,.inl ⟨Zr,rfl⟩,fun _=>Zr,fun j hj=>by omega⟩
       ·intro e S hI
        obtain ⟨i,hi,g70,g71,g72,s7,hw,hne,hz⟩:=el e S hI
        clear el hI
        have hm0:(intD (e 72)).toNat=i:=by rw [g72];exact Int.toNat_natCast i
        have ft:=And.intro g70 (And.intro g71 g72)
        repeat (first|(with_reducible first|refine pv_seq fun K hK=>?_|((first|refine hK _ _ ?_|(clear hK;refine hK _ _ ?_)|(clear hK;clear hK;refine hK _ _ ?_));clear hK;try clear K))| refine W0 ?_|exact Z|with_reducible intro b)
        refine pv_cdD (fun ht=>?_) (fun ht=>?_)
        ·have hil:i<ms.length:=by omega
         have q1:=q4 i hil
         have hx:=hsy _ (gM_mem hil)
         have hxs:=hx.sz (K:=300000) (by omega) (by omega)
         have pM:=p_nMake (neg:=(gM ms i).c.neg) (w:=(gM ms i).c.w) (e:=(gM ms i).c.exp) hxs.b (by have:=hxs.len;omega) (by have:=hx.lo;have:=hx.hi;unfold R64;omega)
         have hv:dy (gM ms i).c.neg (N64 (gM ms i).c.w) (gM ms i).c.exp=(gM ms i).c.val:=rfl
         rw [hv] at pM
         have hb:=hbad (teM (gM ms i)) (List.mem_map_of_mem (gM_mem hil))
         have htk:(ms.take (i + 1)).map teM=(ms.take i).map teM ++ [teM (gM ms i)]:=by rw [List.take_add_one,gM_at hil,List.map_append];rfl
         have hout:outM ((ms.take (i + 1)).map teM)=if (gM ms i).c.val=0 then outM ((ms.take i).map teM) else outM ((ms.take i).map teM) ++ [⟨nuOf (gM ms i).c.val,(gM ms i).e⟩]:=by rw [htk,outM_app];rfl
         have hol:=outM_len ((ms.take i).map teM)
         rw [List.length_map,List.length_take] at hol
         have hzs:OkD (gM ms i).c.val→∀ j,j<i + 1→OkD (gM ms j).c.val:=fun h j hj=>by
          rcases Nat.lt_or_ge j i with h3|h3
          ·exact hz j h3
          ·obtain rfl:j=i:=by omega
           exact h
         have mk2:∀ (e:DEnv) (S:Store),e 70=.own (.l 56) b7 0 ms.length cap 4→e 71=i64 ms.length→e 72=i64 ((i + 1:Nat):Int)→S (.l 56)=some ⟨b7,4,0,rS eM ms⟩→RowZ S (.l 102) 4 (e 12) (rS eM (outM ((ms.take (i + 1)).map teM)))→(outM ((ms.take (i + 1)).map teM)=[]→e 12=.nil)→OkD (gM ms i).c.val→I e S:=fun e S a1 a2 a3 a4 a5 a6 a7=>mk _ _ ⟨i + 1,by omega,a1,a2,a3,a4,a5,a6,hzs a7⟩
         clear mk JF hlong hsort hbad hz hzs htk q4
         generalize outM ((ms.take (i + 1)).map teM)=out2 at *
         generalize outM ((ms.take i).map teM)=out at *
         have hte:(teM (gM ms i)).v=(gM ms i).c.val:=rfl
         rw [hte] at hb
         generalize (gM ms i).c.val=v at *
         generalize gM ms i=x at *
         obtain ⟨⟨n1,e1,w1⟩,z⟩:=x
         simp only at *
         by_cases hod:OkD v
         ·rw [numR_ok hod] at pM
          by_cases hv0:v=0
          ·rw [if_pos hv0] at hout
           subst hout
           rw [hv0,nuOf_zero] at pM
           unfold nu0 NE at pM
           have ft:=And.intro g70 (And.intro g71 (And.intro g72 (And.intro s7 q1)))
           repeat (first|(with_reducible first|refine pv_seq fun K hK=>?_|((first|refine hK _ _ ?_|(clear hK;refine hK _ _ ?_)|(clear hK;clear hK;refine hK _ _ ?_));clear hK;try clear K))| refine W ?_|exact Z|with_reducible intro b)
           exact ⟨mk2 _ _ Zr Zr Zr Zr (hw.up (by simp only [updS_apply];rfl)) hne hod,by simp only [intD];omega⟩
          ·rw [if_neg hv0] at hout
           subst hout
           have hw0:=nuOf_w hv0
           generalize nuOf v=y at *
           obtain ⟨n2,e2,w2⟩:=y
           simp only at hw0
           have hwl:0<w2.length:=List.length_pos_iff.2 hw0
           have k0:((0:Int)<(w2.length:Int))=True:=eq_true (by omega)
           unfold NE at pM
           have hnew:=rS_m (l:=out) (m:=⟨⟨n2,e2,w2⟩,z⟩)
           simp only at hnew
           have ft:=And.intro g70 (And.intro g71 (And.intro g72 (And.intro s7 (And.intro q1 k0))))
           repeat (first|(with_reducible first|refine pv_seq fun K hK=>?_|((first|refine hK _ _ ?_|(clear hK;refine hK _ _ ?_)|(clear hK;clear hK;refine hK _ _ ?_));clear hK;try clear K))| refine W ?_|exact Z|with_reducible intro b)
           refine RowZ.appL (hw.up (by simp only [updS_apply];rfl)) (by decide) rfl (by simp [D.one,W64]) ?_ ?_ fun d' S' hr' hS'=>?_
           ·rw [rS_len];simp;omega
           ·rw [rS_len];simp;omega
           repeat (first|(with_reducible first|refine pv_seq fun K hK=>?_|((first|refine hK _ _ ?_|(clear hK;refine hK _ _ ?_)|(clear hK;clear hK;refine hK _ _ ?_));clear hK;try clear K))| refine W0 ?_|exact Z|with_reducible intro b)
           exact ⟨mk2 _ _ Zr Zr Zr ((hS' _ (by decide)).trans (by simp only [updS_apply];exact s7)) (by rw [← hnew];exact hr') (fun h=>by simp at h) hod,by simp only [intD];omega⟩
         ·have hr:=hb hod
          subst hr
          have hnn:numR v=(nu0,2):=by unfold numR;rw [if_neg (show ¬ (nuOf v).Ok from hod)]
          rw [hnn] at pM
          unfold nu0 NE at pM
          have ft:=And.intro g70 (And.intro g71 (And.intro g72 (And.intro s7 q1)))
          exact Wk
        ·obtain rfl:i=ms.length:=by omega
         rw [List.take_length] at hw hne
         repeat (first|(with_reducible first|refine pv_seq fun K hK=>?_|((first|refine hK _ _ ?_|(clear hK;refine hK _ _ ?_)|(clear hK;clear hK;refine hK _ _ ?_));clear hK;try clear K))| refine W0 ?_|exact Z|with_reducible intro b)
         refine JF _ _ (fun y hy=>?_) hw hne
         obtain ⟨m,hm,rfl⟩:=List.mem_map.1 hy
         obtain ⟨j,hj⟩:=List.getElem?_of_mem hm
         have hjl:j<ms.length:=(List.getElem?_eq_some_iff.1 hj).1
         have:=hz j hjl
         rw [gM_at hjl] at hj
         injection hj with hj
         rw [hj] at this
         exact this
     clear hK
     obtain ⟨I,mk,el⟩:=hide fun e S=>∃ (i:Nat) (ms:List Mo),i≤q.length∧Acc q N i ms∧e 6=.g (.lit (.map (some l)))∧e 29=.g (eS eM q)∧e 30=i64 q.length∧e 31=i64 i∧mpS S l (mapM ms)∧RowZ S (.l 56) 4 (e 7) (rS eM ms)
     refine pv_loop I (fun e _=>q.length - (intD (e 31)).toNat) ?_ ?_
     ·have ft:=true_and
      exact mk _ _ ⟨0,[],Nat.zero_le _,Acc.zero,Zr,Zr,Zr,Zr,⟨o,rfl,ho⟩,.inl ⟨Zr,rfl⟩⟩
     ·intro e S hI
      obtain ⟨i,ms,hi,hacc,g6,g29,g30,g31,hmp,hw⟩:=el e S hI
      clear el hI
      have hm0:(intD (e 31)).toNat=i:=by rw [g31];exact Int.toNat_natCast i
      have ft:=And.intro g6 (And.intro g29 (And.intro g30 g31))
      repeat (first|(with_reducible first|refine pv_seq fun K hK=>?_|((first|refine hK _ _ ?_|(clear hK;refine hK _ _ ?_)|(clear hK;clear hK;refine hK _ _ ?_));clear hK;try clear K))| refine W0 ?_|exact Z|with_reducible intro b)
      refine pv_cdD (fun ht=>?_) (fun ht=>?_)
      ·have hil:i<q.length:=by omega
       have q1:=gM_at hil
       have wm:=hq.w _ (gM_mem hil)
       have hp:=hpw _ (gM_mem hil)
       have hpm:=hacc.all (P:=fun e=>(∀ x ∈ e,0≤x)∧(∀ x ∈ e,0≤x∧x≤8)∧e.length=N) hpw (by omega)
       have hml:=hacc.len
       obtain ⟨dm,hdm,hdc⟩:=right_is wm.c.b (monoB_right (hall _ (gM_mem hil)))
       have hsm:Sy (135168 + i) 65536 (gM q i).c:=by rw [hdc];exact hdm.sy.mono (by omega)
       have hhit:=fun j z=>hacc.hit (j:=j) (z:=z) hlen hil
       have hmiss:=fun z=>hacc.miss (z:=z) hlen hil
       have hsy:=hacc.sy
       have pO:=p_polyOf (m:=gM q i) (by rw [hp.2.2];omega)
       have mk2:∀ (e2:DEnv) (S2:Store) (ms2:List Mo),Acc q N (i + 1) ms2→e2 6=.g (.lit (.map (some l)))→e2 29=.g (eS eM q)→e2 30=i64 q.length→e2 31=i64 ((i + 1:Nat):Int)→mpS S2 l (mapM ms2)→RowZ S2 (.l 56) 4 (e2 7) (rS eM ms2)→I e2 S2:=fun e2 S2 ms2 a1 a2 a3 a4 a5 a6 a7=>mk _ _ ⟨i + 1,ms2,by omega,a1,a2,a3,a4,a5,a6,a7⟩
       clear mk J hacc
       generalize gM q i=m at *
       obtain ⟨⟨n1,e1,w1⟩,z⟩:=m
       simp only at *
       have hkd:=keyD_kv z
       have hko:=keyOk hp.2.1
       have pCl:=p_Clone hp.1 (by omega)
       unfold ZI at pCl
       generalize hk4:(key4 z).map i64=kz at *
       have ft:=And.intro g6 (And.intro g29 (And.intro g30 (And.intro g31 q1)))
       repeat (first|with_reducible refine pv_stop 8 ?_|(with_reducible first|refine pv_seq fun K hK=>?_|((first|refine hK _ _ ?_|(clear hK;refine hK _ _ ?_)|(clear hK;clear hK;refine hK _ _ ?_));clear hK;try clear K))| refine W ?_|exact Z|with_reducible intro b)
       refine ⟨fun K8 q8 _=>?_⟩
       have J8:∀ (e2:DEnv) (S2:Store) (fd:Bool) (j b9:Nat),e2 6=.g (.lit (.map (some l)))→e2 29=.g (eS eM q)→e2 30=i64 q.length→e2 31=i64 i→e2 9=.ptr (.l 9) b9 0 0 4→e2 10=i64 j→e2 11=bl fd→S2 (.l 9)=some ⟨b9,4,0,[[bl n1,i64 e1,W64 w1,.g (eS eZ z)]]⟩ →
        mpS S2 l (mapM ms)→RowZ S2 (.l 56) 4 (e2 7) (rS eM ms)→(fd=true→j<ms.length∧(gM ms j).e=z)→(fd=false→∀ m ∈ ms,m.e≠z)→K8 e2 S2:=by
        intro e2 S2 fd j b9 g6 g29 g30 g31 g9 g10 g11 s9 hmp hw hf1 hf2
        refine q8 _ _ ?_
        clear q8
        have ft:=And.intro g6 (And.intro g29 (And.intro g30 (And.intro g31 (And.intro g9 (And.intro g10 (And.intro g11 s9))))))
        repeat (first|with_reducible refine pv_stopQ 9 ?_|(with_reducible first|refine pv_seq fun K hK=>?_|((first|refine hK _ _ ?_|(clear hK;refine hK _ _ ?_)|(clear hK;clear hK;refine hK _ _ ?_));clear hK;try clear K))| refine W ?_|exact Z|with_reducible intro b)
        refine ⟨fun K1 q2 hC=>?_⟩
        have J13:∀ (e3:DEnv) (S3:Store) (ms2:List Mo) (j:Nat),e3 6=.g (.lit (.map (some l)))→e3 29=.g (eS eM q)→e3 30=i64 q.length→e3 31=i64 i→e3 9=.ptr (.l 9) b9 0 0 4→e3 10=i64 j→S3 (.l 9)=some ⟨b9,4,0,[[bl n1,i64 e1,W64 w1,.g (eS eZ z)]]⟩ →
         mpS S3 l (mapM ms2)→RowZ S3 (.l 56) 4 (e3 7) (rS eM ms2)→j<ms2.length→Sy (135168 + i) 65536 (gM ms2 j).c→(∀ y,Sy (135168 + i + 1) 65536 y→y.val=(gM ms2 j).c.val + Nu.val ⟨n1,e1,w1⟩→Acc q N (i + 1) (ms2.set j ⟨y,(gM ms2 j).e⟩))→K1 e3 S3:=by
         intro e3 S3 ms2 j g6 g29 g30 g31 g9 g10 s9 hmp hw hj hsx hacc
         refine q2 _ _ ?_
         clear q2 hC
         rcases hw with ⟨_,h0⟩|⟨b7,cap,g7,s7⟩
         ·have:=congrArg List.length h0;rw [rS_len,List.length_nil] at this;omega
         ·rw [rS_len] at g7
          have qx:(rS eM ms2)[j]? = some ((eM (gM ms2 j)).map D.g):=by rw [rS_get,gM_at hj];rfl
          have hset:∀ y:Nu,(rS eM ms2).set j [bl y.neg,i64 y.exp,W64 y.w,.g (eS eZ (gM ms2 j).e)]=rS eM (ms2.set j ⟨y,(gM ms2 j).e⟩):=fun y=>rS_set rfl
          have hms:=fun y=>mapM_set (ms:=ms2) (j:=j) (m:=⟨y,(gM ms2 j).e⟩) rfl
          have pA:=p_eAddS hsx hsm (by omega) (by decide)
          generalize gM ms2 j=x at *
          obtain ⟨⟨n2,e2,w2⟩,zx⟩:=x
          simp only at *
          have ft:=And.intro g6 (And.intro g7 (And.intro g29 (And.intro g30 (And.intro g31 (And.intro g9 (And.intro g10 (And.intro s9 (And.intro s7 qx))))))))
          repeat (first|(with_reducible first|refine pv_seq fun K hK=>?_|((first|refine hK _ _ ?_|(clear hK;refine hK _ _ ?_)|(clear hK;clear hK;refine hK _ _ ?_));clear hK;try clear K))| refine W0 ?_|exact Z|with_reducible intro b)
          refine call_pc pA ?_
          rintro dd ⟨y,rfl,hy,hv⟩
          have hacc2:=hacc y hy hv
          have hset2:=hset y
          have hms2:=hms y
          obtain ⟨n3,e4,w3⟩:=y
          simp only at hset2
          repeat (first|(with_reducible first|refine pv_seq fun K hK=>?_|((first|refine hK _ _ ?_|(clear hK;refine hK _ _ ?_)|(clear hK;clear hK;refine hK _ _ ?_));clear hK;try clear K))| refine W0 ?_|exact Z|with_reducible intro b)
          exact ⟨mk2 _ _ (ms2.set j ⟨⟨n3,e4,w3⟩,zx⟩) hacc2 Zr Zr Zr Zr (by rw [hms2];exact hmp) (.inr ⟨b7,cap,by rw [rS_len,List.length_set];exact Zr,by rw [← hset2];simp only [updS_apply];rfl⟩),by rw [hm0];simp only [intD];omega⟩
        cases fd with
        | true =>
          obtain ⟨hj,hz⟩:=hf1 rfl
          repeat (first|(with_reducible first|refine pv_seq fun K hK=>?_|((first|refine hK _ _ ?_|(clear hK;refine hK _ _ ?_)|(clear hK;clear hK;refine hK _ _ ?_));clear hK;try clear K))| refine W0 ?_|exact Z|with_reducible intro b)
          exact J13 _ _ ms j Zr Zr Zr Zr Zr Zr s9 hmp hw hj (hsy _ (gM_mem hj)) fun y hy hv=>hhit j y hj hz hy hv
        | false =>
          have hz:=hf2 rfl
          have ft:=And.intro g6 (And.intro g29 (And.intro g30 (And.intro g31 (And.intro g9 (And.intro g11 s9)))))
          repeat (first|(with_reducible first|refine pv_seq fun K hK=>?_|((first|refine hK _ _ ?_|(clear hK;refine hK _ _ ?_)|(clear hK;clear hK;refine hK _ _ ?_));clear hK;try clear K))| refine W0 ?_|exact Z|with_reducible intro b)
          refine hw.toD.len ?_
          rw [rS_len]
          repeat (first|(with_reducible first|refine pv_seq fun K hK=>?_|((first|refine hK _ _ ?_|(clear hK;refine hK _ _ ?_)|(clear hK;clear hK;refine hK _ _ ?_));clear hK;try clear K))| refine W ?_|exact Z|with_reducible intro b)
          refine ⟨l,mapM ms,kv z,.int .i64 (ms.length:Int),_,_,_,rfl,hmp,hkd,rfl,mapIs,hko,fun p hp2=>?_,fun o2 ho2=>?_⟩
          ·obtain ⟨j,hj,rfl⟩:=mapM_mem hp2
           exact ⟨keyOk (hpm _ (gM_mem hj)).2.1,fun h=>hz _ (gM_mem hj) (kv_inj (by rw [(hpm _ (gM_mem hj)).2.2,hp.2.2]) (by rw [(hpm _ (gM_mem hj)).2.2];omega) h)⟩
          ·repeat (first|(with_reducible first|refine pv_seq fun K hK=>?_|((first|refine hK _ _ ?_|(clear hK;refine hK _ _ ?_)|(clear hK;clear hK;refine hK _ _ ?_));clear hK;try clear K))| refine W ?_|exact Z|with_reducible intro b)
           have hg:gM (ms ++ [⟨nu0,z⟩]) ms.length=⟨nu0,z⟩:=by simp [gM,List.getD]
           have hse:∀ y:Mo,(ms ++ [(⟨nu0,z⟩:Mo)]).set ms.length y=ms ++ [y]:=fun y=>by rw [List.set_append_right _ _ (Nat.le_refl _),Nat.sub_self];rfl
           have h0v:Nu.val nu0=0:=dy0 _ _
           refine RowZ.appL (hw.up rfl) (by decide) rfl (by simp [D.one]) ?_ ?_ fun d' S' hr' hS'=>?_
           ·rw [rS_len];simp;omega
           ·rw [rS_len];simp;omega
           repeat (first|(with_reducible first|refine pv_seq fun K hK=>?_|((first|refine hK _ _ ?_|(clear hK;refine hK _ _ ?_)|(clear hK;clear hK;refine hK _ _ ?_));clear hK;try clear K))| refine W0 ?_|exact Z|with_reducible intro b)
           refine hC _ _ (RowZ.cast 2 hr' rfl (fun I H v hv=>nil_row hv) fun S3 hr3 hS3=>?_)
           refine J13 _ _ (ms ++ [⟨nu0,z⟩]) ms.length Zr Zr Zr Zr Zr Zr ((hS3 _ (by decide)).trans ((hS' _ (by decide)).trans (by simp only [updS_apply];exact s9))) ⟨o2,hS3.g.trans (hS'.g.trans rfl),by rw [mapM_app];exact ho2⟩ (by rw [← rS_m];exact hr3) (by simp) (by rw [hg];exact Sy.zero) fun y hy hv=>?_
           rw [hg] at hv ⊢
           rw [hse]
           exact hmiss y hz hy (by rw [hv];show Nu.val nu0 + _=_;rw [h0v,Dyadic.zero_add])
       clear q8
       repeat (first|(with_reducible first|refine pv_seq fun K hK=>?_|((first|refine hK _ _ ?_|(clear hK;refine hK _ _ ?_)|(clear hK;clear hK;refine hK _ _ ?_));clear hK;try clear K))| refine W ?_|exact Z|with_reducible intro b)
       refine ⟨l,mapM ms,kv z,_,_,_,rfl,hmp,hkd,mapIs,hko,fun p hp2=>?_,fun p hp2 he=>?_,fun hno=>?_⟩
       ·obtain ⟨j,hj,rfl⟩:=mapM_mem hp2
        exact ⟨keyOk (hpm _ (gM_mem hj)).2.1,rfl⟩
       ·obtain ⟨j,hj,rfl⟩:=mapM_mem hp2
        have hz:=kv_inj (by rw [(hpm _ (gM_mem hj)).2.2,hp.2.2]) (by rw [(hpm _ (gM_mem hj)).2.2];omega) he
        repeat (first|(with_reducible first|refine pv_seq fun K hK=>?_|((first|refine hK _ _ ?_|(clear hK;refine hK _ _ ?_)|(clear hK;clear hK;refine hK _ _ ?_));clear hK;try clear K))| refine W0 ?_|exact Z|with_reducible intro b)
        exact J8 _ _ true j _ Zr Zr Zr Zr Zr Zr Zr (by simp only [updS_apply];rfl) hmp (hw.up (by simp only [updS_apply];rfl)) (fun _=>⟨hj,hz⟩) (fun h=>by cases h)
       ·have hz:∀ m ∈ ms,m.e≠z:=fun m hm h=>by
         obtain ⟨j,hj⟩:=List.getElem?_of_mem hm
         have hjl:j<ms.length:=(List.getElem?_eq_some_iff.1 hj).1
         have e:=gM_at hjl
         rw [hj] at e
         injection e with e
         refine hno _ (mapM_of hjl) ?_
         simp only
         rw [← e,h]
        repeat (first|(with_reducible first|refine pv_seq fun K hK=>?_|((first|refine hK _ _ ?_|(clear hK;refine hK _ _ ?_)|(clear hK;clear hK;refine hK _ _ ?_));clear hK;try clear K))| refine W0 ?_|exact Z|with_reducible intro b)
        exact J8 _ _ false 0 _ Zr Zr Zr Zr Zr Zr Zr (by simp only [updS_apply];rfl) hmp (hw.up (by simp only [updS_apply];rfl)) (fun h=>by cases h) (fun _=>hz)
      ·obtain rfl:i=q.length:=by omega
       repeat (first|(with_reducible first|refine pv_seq fun K hK=>?_|((first|refine hK _ _ ?_|(clear hK;refine hK _ _ ?_)|(clear hK;clear hK;refine hK _ _ ?_));clear hK;try clear K))| refine W0 ?_|exact Z|with_reducible intro b)
       exact J _ _ ms hacc hw
  ·have k2:(4<n)=True:=eq_true (by omega)
   rw [pmkR_no (fun h=>h4 h.2.1)]
   have d1:=@dl 13 qQ5_19_13
   refine PB (rs:=[.tmp 4,.tmp 5]) Tryz.func19 ?_
   have ft:=And.intro k1 k2
   exact Wk
 ·have k1:(n<1)=True:=eq_true (by omega)
  rw [pmkR_no (fun h=>h1 h.1)]
  have d1:=@dl 13 qQ5_19_13
  refine PB (rs:=[.tmp 4,.tmp 5]) Tryz.func19 ?_
  have ft:=k1
  exact Wk
end Go.V
namespace Go.V
open Go Go.RowKit Go.Proofs
def qQ7_51_6:List (Nat × Nat):=[(0,0),(1,0),(2,0),(3,1),(4,0),(5,0),(6,0),(7,1),(8,0)]
def qQ7_16_6:List (Nat × Nat):=[(0,0),(1,0),(2,0),(3,0),(4,1),(5,0),(6,0),(7,0),(8,0),(9,1),(10,3),(11,0),(12,0),(13,0),(14,0),(15,0),(16,0),(17,1),(18,0),(19,0),(20,0),(21,0),(22,0),(23,1),(24,0),(25,0),(26,0),(27,0),(28,0),(29,0),(30,0),(31,0),(32,1),(33,0),(34,0),(35,0),(36,0),(37,1),(38,3),(39,0),(40,0)]
attribute [go_sem] qQ7_51_6 qQ7_16_6
set_option maxHeartbeats 1000000 in
theorem p_EqualI {a b:List Int} (ha:a.length≤100000) (hb:b.length≤100000):PC Tryz.prog 51 [ZI a,ZI b] fun d=>d=bl (decide (a=b)):=by
 unfold ZI
 by_cases hl:a.length=b.length
 ·have k0:((a.length:Int)=(b.length:Int))=True:=eq_true (by omega)
  have hno:∀ i,i<a.length→a.getD i 0≠b.getD i 0→decide (a=b)=false:=fun i hi h=>decide_eq_false fun e=>h (by rw [e])
  have hyes:(∀ j,j<a.length→a.getD j 0=b.getD j 0)→decide (a=b)=true:=fun h=>decide_eq_true (by
   apply List.ext_getElem? ;intro i
   by_cases hi:i<a.length
   ·rw [zget hi,zget (by omega),h i hi]
   ·rw [List.getElem?_eq_none (by omega),List.getElem?_eq_none (by omega)])
  generalize decide (a=b)=r at *
  have d1:=@dl 6 qQ7_51_6
  refine PB (rs:=[.tmp 4]) Tryz.func51 ?_
  have ft:=k0
  repeat (first|(with_reducible first|refine pv_seq fun K hK=>?_|((first|refine hK _ _ ?_|(clear hK;refine hK _ _ ?_)|(clear hK;clear hK;refine hK _ _ ?_));clear hK;try clear K))| refine W0 ?_|exact Z|with_reducible intro b)
  refine pv_loop (fun e S=>Hid (∃ i:Nat,i≤a.length∧e 0=.g (eS eZ a)∧e 1=.g (eS eZ b)∧e 12=i64 a.length∧e 13=i64 i∧∀ j,j<i→a.getD j 0=b.getD j 0)) (fun e _=>a.length - (intD (e 13)).toNat) ?_ ?_
  ·exact ⟨0,Nat.zero_le _,Zr,Zr,Zr,Zr,fun j hj=>by omega⟩
  ·rintro e S ⟨i,hi,g0,g1,g12,g13,hz⟩
   have ft:=And.intro g0 (And.intro g1 (And.intro g12 g13))
   repeat (first|(with_reducible first|refine pv_seq fun K hK=>?_|((first|refine hK _ _ ?_|(clear hK;refine hK _ _ ?_)|(clear hK;clear hK;refine hK _ _ ?_));clear hK;try clear K))| refine W0 ?_|exact Z|with_reducible intro b)
   refine pv_cdD (fun ht=>?_) (fun ht=>?_)
   ·have hil:i<a.length:=by omega
    have q1:=zget hil
    have q2:=zget (l:=b) (i:=i) (by omega)
    have hn:=hno i hil
    have hzs:a.getD i 0=b.getD i 0→∀ j,j<i + 1→a.getD j 0=b.getD j 0:=fun h j hj=>by
     rcases Nat.lt_or_ge j i with h3|h3
     ·exact hz j h3
     ·obtain rfl:j=i:=by omega
      exact h
    clear hno hyes
    generalize a.getD i 0=x at *
    generalize b.getD i 0=y at *
    by_cases hxy:x=y
    ·have k1:=eq_true hxy
     have ft:=And.intro g0 (And.intro g1 (And.intro g12 (And.intro g13 (And.intro q1 (And.intro q2 k1)))))
     repeat (first|(with_reducible first|refine pv_seq fun K hK=>?_|((first|refine hK _ _ ?_|(clear hK;refine hK _ _ ?_)|(clear hK;clear hK;refine hK _ _ ?_));clear hK;try clear K))| refine W0 ?_|exact Z|with_reducible intro b)
     exact ⟨⟨i + 1,by omega,Zr,Zr,Zr,Zr,hzs hxy⟩,by simp only [intD];omega⟩
    ·have k1:=eq_false hxy
     have hr:=hn hxy
     subst hr
     have ft:=And.intro g0 (And.intro g1 (And.intro g12 (And.intro g13 (And.intro q1 (And.intro q2 k1)))))
     exact Wk
   ·obtain rfl:i=a.length:=by omega
    have hr:=hyes hz
    subst hr
    exact Wk
 ·have k0:((a.length:Int)=(b.length:Int))=False:=eq_false (by omega)
  rw [decide_eq_false (p:=a=b) (fun h=>hl (by rw [h]))]
  have d1:=@dl 6 qQ7_51_6
  refine PB (rs:=[.tmp 4]) Tryz.func51 ?_
  have ft:=k0
  exact Wk
def sameMo (x y:Mo):Bool:=decide (x.c=y.c) && decide (x.e=y.e)
theorem sameMo_iff {x y:Mo}:sameMo x y=true ↔ x=y:=by
 unfold sameMo
 simp only [Bool.and_eq_true,decide_eq_true_eq]
 constructor
 ·rintro ⟨h1,h2⟩;cases x;cases y;simp only at h1 h2;rw [h1,h2]
 ·rintro rfl;exact ⟨rfl,rfl⟩
def sameP (p q:List Mo):Bool:=decide (p.length=q.length) && decide (∀ i,i<p.length→sameMo (gM p i) (gM q i)=true)
theorem sameP_iff {p q:List Mo}:sameP p q=true ↔ p=q:=by
 unfold sameP
 simp only [Bool.and_eq_true,decide_eq_true_eq]
 constructor
 ·rintro ⟨h1,h2⟩
  apply List.ext_getElem?;intro i
  by_cases hi:i<p.length
  ·rw [gM_at hi,gM_at (by omega),sameMo_iff.1 (h2 i hi)]
  ·rw [List.getElem?_eq_none (by omega),List.getElem?_eq_none (by omega)]
 ·rintro rfl;exact ⟨rfl,fun i _=>sameMo_iff.2 rfl⟩
theorem sameP_self (p:List Mo):sameP p p=true:=sameP_iff.2 rfl
theorem sameP_len {p q:List Mo} (h:p.length≠q.length):sameP p q=false:=by unfold sameP;rw [decide_eq_false h];rfl
theorem sameP_at {p q:List Mo} {i:Nat} (hi:i<p.length) (h:sameMo (gM p i) (gM q i)=false):sameP p q=false:=by
 unfold sameP
 rw [decide_eq_false (p:=∀ i,i<p.length→sameMo (gM p i) (gM q i)=true) (fun h2=>by rw [h2 i hi] at h;cases h),Bool.and_false]
theorem sameP_all {p q:List Mo} (hl:p.length=q.length) (h:∀ j,j<p.length→sameMo (gM p j) (gM q j)=true):sameP p q=true:=by
 unfold sameP;rw [decide_eq_true hl,decide_eq_true h];rfl
theorem p_pSame1 {x y:Mo} (hx:Wm x) (hy:Wm y):PC Tryz.prog 50 [MO x,MO y] fun d=>d=bl (sameMo x y):=by
 have pN:=p_nSame (x:=x.c) (y:=y.c) (by have:=hx.c.len;omega)
 have pE:=p_EqualI hx.n hy.n
 unfold sameMo
 obtain ⟨⟨n1,e1,w1⟩,z1⟩:=x
 obtain ⟨⟨n2,e2,w2⟩,z2⟩:=y
 unfold ZI at pE
 simp only at *
 generalize decide ((⟨n1,e1,w1⟩:Nu)=⟨n2,e2,w2⟩)=r1 at *
 generalize decide (z1=z2)=r2 at *
 cases r1
 ·refine PB (rs:=[.tmp 4]) Tryz.func50 ?_
  exact Wk
 ·refine PB (rs:=[.tmp 4]) Tryz.func50 ?_
  exact Wk
set_option maxHeartbeats 1000000 in
theorem p_EqFunc {p q:List Mo} (hp:WfM p) (hq:WfM q):PC Tryz.prog 49 [MM p,MM q,.fn 50 [] []] fun d=>d=bl (sameP p q):=by
 have hpn:=hp.n
 unfold MM
 by_cases hl:p.length=q.length
 ·have k0:((p.length:Int)=(q.length:Int))=True:=eq_true (by omega)
  have hno:=fun i=>sameP_at (p:=p) (q:=q) (i:=i)
  have hyes:=sameP_all hl
  generalize sameP p q=r at *
  refine PB (rs:=[.tmp 6]) Tryz.func49 ?_
  have ft:=k0
  repeat (first|(with_reducible first|refine pv_seq fun K hK=>?_|((first|refine hK _ _ ?_|(clear hK;refine hK _ _ ?_)|(clear hK;clear hK;refine hK _ _ ?_));clear hK;try clear K))| refine W0 ?_|exact Z|with_reducible intro b)
  refine pv_loop (fun e S=>Hid (∃ i:Nat,i≤p.length∧e 1=.g (eS eM q)∧e 2=.fn 50 [] []∧e 15=.g (eS eM p)∧e 16=i64 p.length∧e 17=i64 i∧∀ j,j<i→sameMo (gM p j) (gM q j)=true)) (fun e _=>p.length - (intD (e 17)).toNat) ?_ ?_
  ·exact ⟨0,Nat.zero_le _,Zr,Zr,Zr,Zr,Zr,fun j hj=>by omega⟩
  ·rintro e S ⟨i,hi,g1,g2,g15,g16,g17,hz⟩
   have ft:=And.intro g1 (And.intro g2 (And.intro g15 (And.intro g16 g17)))
   repeat (first|(with_reducible first|refine pv_seq fun K hK=>?_|((first|refine hK _ _ ?_|(clear hK;refine hK _ _ ?_)|(clear hK;clear hK;refine hK _ _ ?_));clear hK;try clear K))| refine W0 ?_|exact Z|with_reducible intro b)
   refine pv_cdD (fun ht=>?_) (fun ht=>?_)
   ·have hil:i<p.length:=by omega
    have q1:=gM_at hil
    have q2:=gM_at (l:=q) (i:=i) (by omega)
    have pS:=p_pSame1 (hp.w _ (gM_mem hil)) (hq.w _ (gM_mem (l:=q) (i:=i) (by omega)))
    have hn:=hno i hil
    have hzs:sameMo (gM p i) (gM q i)=true→∀ j,j<i + 1→sameMo (gM p j) (gM q j)=true:=fun h j hj=>by
     rcases Nat.lt_or_ge j i with h3|h3
     ·exact hz j h3
     ·obtain rfl:j=i:=by omega
      exact h
    clear hno hyes hz
    generalize sameMo (gM p i) (gM q i)=t at *
    generalize gM p i=x at *
    generalize gM q i=y at *
    obtain ⟨⟨n1,e1,w1⟩,z1⟩:=x
    obtain ⟨⟨n2,e2,w2⟩,z2⟩:=y
    cases t
    ·have hr:=hn rfl
     subst hr
     have ft:=And.intro g1 (And.intro g2 (And.intro g15 (And.intro g16 (And.intro g17 (And.intro q1 q2)))))
     exact Wk
    ·have ft:=And.intro g1 (And.intro g2 (And.intro g15 (And.intro g16 (And.intro g17 (And.intro q1 q2)))))
     repeat (first|(with_reducible first|refine pv_seq fun K hK=>?_|((first|refine hK _ _ ?_|(clear hK;refine hK _ _ ?_)|(clear hK;clear hK;refine hK _ _ ?_));clear hK;try clear K))| refine W ?_|exact Z|with_reducible intro b)
     exact ⟨⟨i + 1,by omega,Zr,Zr,Zr,Zr,Zr,hzs rfl⟩,by simp only [intD];omega⟩
   ·obtain rfl:i=p.length:=by omega
    have hr:=hyes hz
    subst hr
    exact Wk
 ·have k0:((p.length:Int)=(q.length:Int))=False:=eq_false (by omega)
  rw [sameP_len hl]
  refine PB (rs:=[.tmp 6]) Tryz.func49 ?_
  have ft:=k0
  exact Wk
theorem p_pSame {p q:List Mo} (hp:WfM p) (hq:WfM q):PC Tryz.prog 15 [MM p,MM q] fun d=>d=bl (sameP p q):=by
 have pE:=p_EqFunc hp hq
 unfold MM at *
 generalize sameP p q=r at *
 refine PB (rs:=[.tmp 4]) Tryz.func15 ?_
 exact Wk
set_option maxHeartbeats 2000000 in
theorem p_rSameP {p q:List Mo} (hp:WfM p) (hq:WfM q):PC Tryz.prog 16 [MM p,MM q] fun d=>d=bl (sameP p q):=by
 have hpn:=hp.n
 unfold MM
 by_cases hl:p.length=q.length
 ·have k0:((p.length:Int)=(q.length:Int))=True:=eq_true (by omega)
  have hno:=fun i=>sameP_at (p:=p) (q:=q) (i:=i)
  have hyes:=sameP_all hl
  generalize sameP p q=r at *
  have d1:=@dl 6 qQ7_16_6
  refine PB (rs:=[.tmp 4]) Tryz.func16 ?_
  have ft:=k0
  repeat (first|(with_reducible first|refine pv_seq fun K hK=>?_|((first|refine hK _ _ ?_|(clear hK;refine hK _ _ ?_)|(clear hK;clear hK;refine hK _ _ ?_));clear hK;try clear K))| refine W0 ?_|exact Z|with_reducible intro b)
  refine pv_loop (fun e S=>Hid (∃ i:Nat,i≤p.length∧e 0=.g (eS eM p)∧e 1=.g (eS eM q)∧e 5=i64 i∧∀ j,j<i→sameMo (gM p j) (gM q j)=true)) (fun e _=>p.length - (intD (e 5)).toNat) ?_ ?_
  ·exact ⟨0,Nat.zero_le _,Zr,Zr,Zr,fun j hj=>by omega⟩
  ·rintro e S ⟨i,hi,g0,g1,g5,hz⟩
   have ft:=And.intro g0 (And.intro g1 g5)
   repeat (first|(with_reducible first|refine pv_seq fun K hK=>?_|((first|refine hK _ _ ?_|(clear hK;refine hK _ _ ?_)|(clear hK;clear hK;refine hK _ _ ?_));clear hK;try clear K))| refine W0 ?_|exact Z|with_reducible intro b)
   refine pv_cdD (fun ht=>?_) (fun ht=>?_)
   ·have hil:i<p.length:=by omega
    have q1:=gM_at hil
    have q2:=gM_at (l:=q) (i:=i) (by omega)
    have wx:=hp.w _ (gM_mem hil)
    have wy:=hq.w _ (gM_mem (l:=q) (i:=i) (by omega))
    have pS:=p_rSame (x:=(gM p i).c) (y:=(gM q i).c) (by have:=wx.c.len;omega)
    have pO:=p_rOrdE wx.n wy.n
    have hn:=hno i hil
    have hzs:sameMo (gM p i) (gM q i)=true→∀ j,j<i + 1→sameMo (gM p j) (gM q j)=true:=fun h j hj=>by
     rcases Nat.lt_or_ge j i with h3|h3
     ·exact hz j h3
     ·obtain rfl:j=i:=by omega
      exact h
    clear hno hyes hz wx wy
    generalize gM p i=x at *
    generalize gM q i=y at *
    obtain ⟨⟨n1,e1,w1⟩,z1⟩:=x
    obtain ⟨⟨n2,e2,w2⟩,z2⟩:=y
    unfold sameMo at hn hzs
    unfold ZI at pO
    simp only at *
    by_cases hc:(⟨n1,e1,w1⟩:Nu)=⟨n2,e2,w2⟩
    ·rw [decide_eq_true hc] at *
     by_cases hzl:z1.length=z2.length
     ·have k1:((z1.length:Int)=(z2.length:Int))=True:=eq_true (by omega)
      by_cases ho:ordE z1 z2=0
      ·have k2:=eq_true ho
       have he:=ordE_eq hzl ho
       generalize ordE z1 z2=o at *
       have ft:=And.intro g0 (And.intro g1 (And.intro g5 (And.intro q1 (And.intro q2 (And.intro k1 k2)))))
       repeat (first|(with_reducible first|refine pv_seq fun K hK=>?_|((first|refine hK _ _ ?_|(clear hK;refine hK _ _ ?_)|(clear hK;clear hK;refine hK _ _ ?_));clear hK;try clear K))| refine W ?_|exact Z|with_reducible intro b)
       exact ⟨⟨i + 1,by omega,Zr,Zr,Zr,hzs (by rw [decide_eq_true he];rfl)⟩,by simp only [intD];omega⟩
      ·have k2:=eq_false ho
       have he:z1≠z2:=fun h=>ho (by rw [h];exact ordE_self _)
       have hr:=hn (by rw [decide_eq_false he];rfl)
       subst hr
       generalize ordE z1 z2=o at *
       have ft:=And.intro g0 (And.intro g1 (And.intro g5 (And.intro q1 (And.intro q2 (And.intro k1 k2)))))
       exact Wk
     ·have k1:((z1.length:Int)=(z2.length:Int))=False:=eq_false (by omega)
      have hr:=hn (by rw [decide_eq_false (p:=z1=z2) (fun h=>hzl (by rw [h]))];rfl)
      subst hr
      have ft:=And.intro g0 (And.intro g1 (And.intro g5 (And.intro q1 (And.intro q2 k1))))
      exact Wk
    ·rw [decide_eq_false hc] at *
     have hr:=hn rfl
     subst hr
     have ft:=And.intro g0 (And.intro g1 (And.intro g5 (And.intro q1 q2)))
     exact Wk
   ·obtain rfl:i=p.length:=by omega
    have hr:=hyes hz
    subst hr
    exact Wk
 ·have k0:((p.length:Int)=(q.length:Int))=False:=eq_false (by omega)
  rw [sameP_len hl]
  have d1:=@dl 6 qQ7_16_6
  refine PB (rs:=[.tmp 4]) Tryz.func16 ?_
  have ft:=k0
  exact Wk
end Go.V
namespace Go.V
open Go Go.RowKit Go.Proofs
theorem polyB_mono {q:List Mo} {n:Int} (h:polyB q n=true):∀ m ∈ q,monoB m n=true:=fun m hm=>by
 unfold polyB at h
 simp only [Bool.and_eq_true] at h
 have h2:=of_decide_eq_true h.2
 obtain ⟨i,hi⟩:=List.getElem?_of_mem hm
 have hil:i<q.length:=(List.getElem?_eq_some_iff.1 hi).1
 have:=(h2 i hil).1
 rw [gM_at hil] at hi
 injection hi with hi
 rwa [hi] at this
structure MoOk (m:Mo) (n:Int):Prop where
 len:(m.e.length:Int)=n
 nn:∀ x ∈ m.e,0≤x
 sum:m.e.sum≤8
 right:rightB m.c=true
theorem monoB_ok {m:Mo} {n:Int} (h:monoB m n=true):MoOk m n:=by
 unfold monoB at h
 simp only [Bool.and_eq_true,decide_eq_true_eq] at h
 exact ⟨h.1.1.1,h.1.1.2,h.1.2,h.2⟩
theorem polyB_ok {q:List Mo} {n:Int} (h:polyB q n=true):∀ m ∈ q,MoOk m n:=fun m hm=>monoB_ok (polyB_mono h m hm)
def maxI (a b:Int):Int:=if a<b then b else a
def degN (q:List Mo):Nat→Int
 | 0=>0
 | i + 1=>maxI (degN q i) (gM q i).e.sum
def degR (q:List Mo):Int:=if q.length=0 then 0 else if polyB q (gM q 0).e.length=true then degN q q.length else 0
theorem degN_nn {q:List Mo}:∀ i,0≤degN q i
 | 0=>Int.le_refl _
 | i + 1=>by
   have:=degN_nn (q:=q) i
   unfold degN maxI
   split<;>omega
theorem degN_le {q:List Mo} {n:Int} (h:∀ m ∈ q,MoOk m n):∀ i,i≤q.length→degN q i≤8
 | 0,_=>by show (0:Int)≤8;decide
 | i + 1,hi=>by
   have h1:=degN_le h i (by omega)
   have h2:=(h _ (gM_mem (l:=q) (i:=i) (by omega))).sum
   unfold degN maxI
   split<;>omega
theorem degR_le (q:List Mo):0≤degR q∧degR q≤8:=by
 unfold degR
 split
 ·omega
 ·split
  ·rename_i h;exact ⟨degN_nn _,degN_le (polyB_ok h) _ (Nat.le_refl _)⟩
  ·omega
set_option maxHeartbeats 1000000 in
theorem p_size {m:Mo} (hm:Wm m) (h0:∀ x ∈ m.e,0≤x) (h8:m.e.sum≤8):PC Tryz.prog 53 [MO m] fun d=>d=i64 m.e.sum:=by
 have hn:=hm.n
 obtain ⟨⟨n1,e1,w1⟩,z⟩:=m
 simp only at *
 have hle:=fun i=>sum_take_le (l:=z) i h0
 have hge:∀ i,0≤(z.take i).sum:=fun i=>by
  have:=sum_take_le (l:=z.take i) 0 (fun x hx=>h0 x (List.mem_of_mem_take hx))
  simpa using this
 generalize hs:z.sum=s at *
 refine PB (rs:=[.tmp 2]) Tryz.func53 ?_
 repeat (first|(with_reducible first|refine pv_seq fun K hK=>?_|((first|refine hK _ _ ?_|(clear hK;refine hK _ _ ?_)|(clear hK;clear hK;refine hK _ _ ?_));clear hK;try clear K))| refine W0 ?_|exact Z|with_reducible intro b)
 refine pv_loop (fun e S=>Hid (∃ i:Nat,i≤z.length∧e 3=i64 (z.take i).sum∧e 7=.g (eS eZ z)∧e 8=i64 z.length∧e 9=i64 i)) (fun e _=>z.length - (intD (e 9)).toNat) ?_ ?_
 ·exact ⟨0,Nat.zero_le _,Zr,Zr,Zr,Zr⟩
 ·rintro e S ⟨i,hi,g3,g7,g8,g9⟩
  have ft:=And.intro g3 (And.intro g7 (And.intro g8 g9))
  repeat (first|(with_reducible first|refine pv_seq fun K hK=>?_|((first|refine hK _ _ ?_|(clear hK;refine hK _ _ ?_)|(clear hK;clear hK;refine hK _ _ ?_));clear hK;try clear K))| refine W0 ?_|exact Z|with_reducible intro b)
  refine pv_cdD (fun ht=>?_) (fun ht=>?_)
  ·have hil:i<z.length:=by omega
   have q1:=zget hil
   have hsum:=sum_take_succ q1
   have a1:=hle i
   have a2:=hle (i + 1)
   have a3:=hge i
   have a4:=hge (i + 1)
   generalize z.getD i 0=x at *
   generalize (z.take i).sum=t at *
   have ft:=And.intro g3 (And.intro g7 (And.intro g8 (And.intro g9 q1)))
   repeat (first|(with_reducible first|refine pv_seq fun K hK=>?_|((first|refine hK _ _ ?_|(clear hK;refine hK _ _ ?_)|(clear hK;clear hK;refine hK _ _ ?_));clear hK;try clear K))| refine W0 ?_|exact Z|with_reducible intro b)
   exact ⟨⟨i + 1,by omega,by rw [hsum],Zr,Zr,Zr⟩,by simp only [intD];omega⟩
  ·obtain rfl:i=z.length:=by omega
   rw [List.take_length,hs] at g3
   have ft:=And.intro g7 (And.intro g3 (And.intro g8 g9))
   exact Wk
set_option maxHeartbeats 1000000 in
theorem p_pDegree {q:List Mo} (hq:WfM q):PC Tryz.prog 17 [MM q] fun d=>d=i64 (degR q):=by
 have hqn:=hq.n
 unfold MM degR
 by_cases h0:q.length=0
 ·obtain rfl:=List.eq_nil_of_length_eq_zero h0
  have k0:(((0:Nat):Int)=0)=True:=eq_true rfl
  refine PB (rs:=[.tmp 2]) Tryz.func17 ?_
  have ft:=k0
  exact Wk
 ·rw [if_neg h0]
  have k0:((q.length:Int)=0)=False:=eq_false (by omega)
  have q0:=gM_at (l:=q) (i:=0) (by omega)
  have pR:=p_pRight (n:=((gM q 0).e.length:Int)) hq
  have hok:=fun h=>polyB_ok (q:=q) (n:=((gM q 0).e.length:Int)) h
  have hln:=(hq.w _ (gM_mem (l:=q) (i:=0) (by omega))).n
  unfold MM at pR
  generalize polyB q ((gM q 0).e.length:Int)=r at *
  generalize hm0:gM q 0=m0 at *
  obtain ⟨⟨n0,e0,w0⟩,z0⟩:=m0
  simp only at *
  cases r
  ·rw [if_neg (by decide)]
   refine PB (rs:=[.tmp 2]) Tryz.func17 ?_
   have ft:=And.intro k0 q0
   exact Wk
  ·rw [if_pos rfl]
   have hok:=hok rfl
   have hdl:=degN_le hok
   have hdn:=fun i=>degN_nn (q:=q) i
   generalize hd:degN q q.length=d0 at *
   refine PB (rs:=[.tmp 2]) Tryz.func17 ?_
   have ft:=And.intro k0 q0
   repeat (first|(with_reducible first|refine pv_seq fun K hK=>?_|((first|refine hK _ _ ?_|(clear hK;refine hK _ _ ?_)|(clear hK;clear hK;refine hK _ _ ?_));clear hK;try clear K))| refine W ?_|exact Z|with_reducible intro b)
   refine pv_loop (fun e S=>Hid (∃ i:Nat,i≤q.length∧e 3=i64 (degN q i)∧e 19=.g (eS eM q)∧e 20=i64 q.length∧e 21=i64 i)) (fun e _=>q.length - (intD (e 21)).toNat) ?_ ?_
   ·exact ⟨0,Nat.zero_le _,Zr,Zr,Zr,Zr⟩
   ·rintro e S ⟨i,hi,g3,g19,g20,g21⟩
    have ft:=And.intro g3 (And.intro g19 (And.intro g20 g21))
    repeat (first|(with_reducible first|refine pv_seq fun K hK=>?_|((first|refine hK _ _ ?_|(clear hK;refine hK _ _ ?_)|(clear hK;clear hK;refine hK _ _ ?_));clear hK;try clear K))| refine W0 ?_|exact Z|with_reducible intro b)
    refine pv_cdD (fun ht=>?_) (fun ht=>?_)
    ·have hil:i<q.length:=by omega
     have q1:=gM_at hil
     have ok1:=hok _ (gM_mem hil)
     have pS:=p_size (hq.w _ (gM_mem hil)) ok1.nn ok1.sum
     have hst:degN q (i + 1)=maxI (degN q i) (gM q i).e.sum:=rfl
     clear ok1
     generalize degN q i=t at *
     generalize gM q i=m at *
     obtain ⟨⟨n1,e1,w1⟩,z⟩:=m
     simp only at *
     generalize z.sum=s at *
     unfold maxI at hst
     have ft:=And.intro g3 (And.intro g19 (And.intro g20 (And.intro g21 q1)))
     repeat (first|(with_reducible first|refine pv_seq fun K hK=>?_|((first|refine hK _ _ ?_|(clear hK;refine hK _ _ ?_)|(clear hK;clear hK;refine hK _ _ ?_));clear hK;try clear K))| refine W ?_|exact Z|with_reducible intro b)
     exact ⟨⟨i + 1,by omega,by rw [hst],Zr,Zr,Zr⟩,by simp only [intD];omega⟩
    ·obtain rfl:i=q.length:=by omega
     rw [hd] at g3
     have ft:=And.intro g19 (And.intro g3 (And.intro g20 g21))
     exact Wk
set_option maxHeartbeats 1000000 in
theorem p_rDegree {q:List Mo} (hq:WfM q):PC Tryz.prog 18 [MM q] fun d=>d=i64 (degR q):=by
 have hqn:=hq.n
 unfold MM degR
 by_cases h0:q.length=0
 ·obtain rfl:=List.eq_nil_of_length_eq_zero h0
  have k0:(((0:Nat):Int)=0)=True:=eq_true rfl
  refine PB (rs:=[.tmp 2]) Tryz.func18 ?_
  have ft:=k0
  exact Wk
 ·rw [if_neg h0]
  have k0:((q.length:Int)=0)=False:=eq_false (by omega)
  have q0:=gM_at (l:=q) (i:=0) (by omega)
  have pR:=p_rPRight (n:=((gM q 0).e.length:Int)) hq
  have hok:=fun h=>polyB_ok (q:=q) (n:=((gM q 0).e.length:Int)) h
  have hln:=(hq.w _ (gM_mem (l:=q) (i:=0) (by omega))).n
  unfold MM at pR
  generalize polyB q ((gM q 0).e.length:Int)=r at *
  generalize hm0:gM q 0=m0 at *
  obtain ⟨⟨n0,e0,w0⟩,z0⟩:=m0
  simp only at *
  cases r
  ·rw [if_neg (by decide)]
   refine PB (rs:=[.tmp 2]) Tryz.func18 ?_
   have ft:=And.intro k0 q0
   exact Wk
  ·rw [if_pos rfl]
   have hok:=hok rfl
   have hdl:=degN_le hok
   have hdn:=fun i=>degN_nn (q:=q) i
   generalize hd:degN q q.length=d0 at *
   refine PB (rs:=[.tmp 2]) Tryz.func18 ?_
   have ft:=And.intro k0 q0
   repeat (first|(with_reducible first|refine pv_seq fun K hK=>?_|((first|refine hK _ _ ?_|(clear hK;refine hK _ _ ?_)|(clear hK;clear hK;refine hK _ _ ?_));clear hK;try clear K))| refine W ?_|exact Z|with_reducible intro b)
   refine pv_loop (fun e S=>Hid (∃ i:Nat,i≤q.length∧e 0=.g (eS eM q)∧e 3=i64 (degN q i)∧e 4=i64 i)) (fun e _=>q.length - (intD (e 4)).toNat) ?_ ?_
   ·exact ⟨0,Nat.zero_le _,Zr,Zr,Zr⟩
   ·rintro e S ⟨i,hi,g0,g3,g4⟩
    have hm4:(intD (e 4)).toNat=i:=by rw [g4];exact Int.toNat_natCast i
    have ft:=And.intro g0 (And.intro g3 g4)
    repeat (first|(with_reducible first|refine pv_seq fun K hK=>?_|((first|refine hK _ _ ?_|(clear hK;refine hK _ _ ?_)|(clear hK;clear hK;refine hK _ _ ?_));clear hK;try clear K))| refine W0 ?_|exact Z|with_reducible intro b)
    refine pv_cdD (fun ht=>?_) (fun ht=>?_)
    ·have hil:i<q.length:=by omega
     have q1:=gM_at hil
     have ok1:=hok _ (gM_mem hil)
     have wm:=hq.w _ (gM_mem hil)
     have hst:degN q (i + 1)=maxI (degN q i) (gM q i).e.sum:=rfl
     have hle:=fun j=>sum_take_le (l:=(gM q i).e) j ok1.nn
     have h8:=ok1.sum
     have hge:∀ j,0≤((gM q i).e.take j).sum:=fun j=>by
      have:=sum_take_le (l:=(gM q i).e.take j) 0 (fun x hx=>ok1.nn x (List.mem_of_mem_take hx))
      simpa using this
     have hzn:=wm.n
     clear ok1 wm
     generalize degN q i=t at *
     generalize gM q i=m at *
     obtain ⟨⟨n1,e1,w1⟩,z⟩:=m
     simp only at *
     generalize hs:z.sum=s at *
     have ft:=And.intro g0 (And.intro g3 (And.intro g4 q1))
     repeat (first|(with_reducible first|refine pv_seq fun K hK=>?_|((first|refine hK _ _ ?_|(clear hK;refine hK _ _ ?_)|(clear hK;clear hK;refine hK _ _ ?_));clear hK;try clear K))| refine W0 ?_|exact Z|with_reducible intro b)
     refine pv_loop (fun e2 S2=>Hid (∃ j:Nat,j≤z.length∧e2 0=.g (eS eM q)∧e2 3=i64 t∧e2 4=i64 i∧e2 5=i64 (z.take j).sum∧e2 6=i64 j)) (fun e2 _=>z.length - (intD (e2 6)).toNat) ?_ ?_
     ·exact ⟨0,Nat.zero_le _,Zr,Zr,Zr,Zr,Zr⟩
     ·rintro e2 S2 ⟨j,hj,g0,g3,g4,g5,g6⟩
      have ft:=And.intro g0 (And.intro g3 (And.intro g4 (And.intro q1 (And.intro g5 g6))))
      repeat (first|(with_reducible first|refine pv_seq fun K hK=>?_|((first|refine hK _ _ ?_|(clear hK;refine hK _ _ ?_)|(clear hK;clear hK;refine hK _ _ ?_));clear hK;try clear K))| refine W0 ?_|exact Z|with_reducible intro b)
      refine pv_cdD (fun ht2=>?_) (fun ht2=>?_)
      ·have hjl:j<z.length:=by omega
       have q2:=zget hjl
       have hsum:=sum_take_succ q2
       have a1:=hle j
       have a2:=hle (j + 1)
       have a3:=hge j
       have a4:=hge (j + 1)
       generalize z.getD j 0=x at *
       generalize (z.take j).sum=u at *
       have ft:=And.intro g0 (And.intro g3 (And.intro g4 (And.intro q1 (And.intro g5 (And.intro g6 q2)))))
       repeat (first|(with_reducible first|refine pv_seq fun K hK=>?_|((first|refine hK _ _ ?_|(clear hK;refine hK _ _ ?_)|(clear hK;clear hK;refine hK _ _ ?_));clear hK;try clear K))| refine W0 ?_|exact Z|with_reducible intro b)
       exact ⟨⟨j + 1,by omega,Zr,Zr,Zr,by rw [hsum],Zr⟩,by simp only [intD];omega⟩
      ·obtain rfl:j=z.length:=by omega
       rw [List.take_length,hs] at g5
       unfold maxI at hst
       have ft:=And.intro g0 (And.intro g3 (And.intro g4 (And.intro q1 (And.intro g6 g5))))
       repeat (first|(with_reducible first|refine pv_seq fun K hK=>?_|((first|refine hK _ _ ?_|(clear hK;refine hK _ _ ?_)|(clear hK;clear hK;refine hK _ _ ?_));clear hK;try clear K))| refine W0 ?_|exact Z|with_reducible intro b)
       exact ⟨⟨i + 1,by omega,Zr,by rw [hst],Zr⟩,by first|(simp only [intD];omega)|(rw [hm4];simp only [intD];omega)⟩
    ·obtain rfl:i=q.length:=by omega
     rw [hd] at g3
     have ft:=And.intro g0 (And.intro g4 g3)
     exact Wk
end Go.V
namespace Go.V
open Go Go.RowKit Go.Proofs
theorem run_append_made {P:Program} {w:World} {t ti ty e:TypeId} {i:TypeInfo} {z:Value} (ht:P.underlying t=some (.slice e)) (hti:P.underlying ti=some (.int .i64)) (hi:P.info? e=some i) (hz:i.zero=some z) (hsz:i.size=z.cells.size) {n:Nat} (h0:0<n) (h63:n≤1000000) (h48:n * i.bytes≤281474976710656) :
 (Builtin.append_ #[t,ti] ty #[.slice none 0 0,.int .i64 (n:Int)]).run P w =
   .ok (.slice (some ⟨w.heap.size,0,none⟩) n (grownCap w n 0 e)) (w.drew.alloc (.cells ((if n * i.size=0 then #[] else Builtin.zeroCells z.cells n) ++ Builtin.zeroCells z.cells (grownCap w n 0 e - n)) e)):=by
 have hn:n≠0:=by omega
 have h63':¬ (9223372036854775807<(n:Int)):=by omega
 have h48':¬ (281474976710656<Builtin.nextslicecap n 0 * i.bytes):=by rw [nextslicecap_zero h0];omega
 have hw:IntKind.i64.wrap (n:Int)=n:=by simp [IntKind.wrap,IntKind.bits,IntKind.signed];omega
 have hneg:¬ ((n:Int)<0):=by omega
 have h48i:¬ ((281474976710656:Int)<(n:Int) * (i.bytes:Int)):=by rw [← Int.natCast_mul];omega
 by_cases hzz:n * i.size=0
 ·simp [Builtin.append_,run_underlying ht,run_underlying hti,sizeOf,typeInfo,zeroValue,hi,hz,Builtin.lenOf,hn,h63',h48',Question.forced,run_firstCells_none,newRow,grownCap,asInt,asIntOf,hw,hneg,h48i,hzz]
 ·simp [Builtin.append_,run_underlying ht,run_underlying hti,sizeOf,typeInfo,zeroValue,hi,hz,Builtin.lenOf,hn,h63',h48',Question.forced,run_firstCells_none,newRow,grownCap,asInt,asIntOf,hw,hneg,h48i,hzz]
theorem cap_nil {P:Program} {w:World} {ρ:Operand→Value} {x:Operand} {t e ty:TypeId} {K:Value→World→Prop} (ht:P.underlying t=some (.slice e)) (hx:ρ x=.slice none 0 0) (h:K (.int .i64 0) w) :
 After P K ((do let d ← resolve ρ { callee:=.builtin .cap,args:=#[x],argTypes:=#[t] } ty;invoke d.target d.args:Sem Next).run P w):=by
 have:((do let d ← resolve ρ { callee:=.builtin .cap,args:=#[x],argTypes:=#[t] } ty;invoke d.target d.args:Sem Next).run P w)=.ok (.value (.int .i64 0)) w:=by
  simp [resolve,invoke,builtin,Builtin.cap_,run_underlying ht,hx,goInt]
 rw [this]
 exact h
theorem slA_none {P:Program} {t el:TypeId} {k:IntKind} {i:TypeInfo} (hT:P.underlying t=some (.slice el)) (hi:P.info? el=some i):SlA P t (.slice none 0 0) none (some (.int k 0)) none (.slice none 0 0):=by
 intro w
 unfold Does Instr.sliceAt Instr.slice
 simp [run_underlying hT,Instr.sliceBounds,Instr.sliceBound,asIntOf,sizeOf,typeInfo,hi]
theorem slA_zero {P:Program} {t el:TypeId} {k:IntKind} {i:TypeInfo} {g n cap:Nat} (hT:P.underlying t=some (.slice el)) (hi:P.info? el=some i):SlA P t (.slice (some ⟨g,0,none⟩) n cap) none (some (.int k 0)) none (.slice (some ⟨g,0,none⟩) 0 cap):=by
 intro w
 unfold Does Instr.sliceAt Instr.slice
 simp [run_underlying hT,Instr.sliceBounds,Instr.sliceBound,asIntOf,sizeOf,typeInfo,hi,Addr.add]
theorem sl_info {P:Program} {t el s bytes:Nat} {z:Value} (T:SlT P t el s bytes z) (hs:z.cells.size=s:=by rfl):∃ i:TypeInfo,P.info? el=some i∧i.zero=some z∧i.size=z.cells.size∧i.bytes=bytes:=by
 have h:=T.info
 cases hp:P.info? el with
 | none=>rw [hp] at h;cases h
 | some i =>
   rw [hp] at h
   simp only [Option.map_some,Option.some.injEq,Prod.mk.injEq] at h
   exact ⟨i,rfl,h.1,by rw [h.2.1,hs],h.2.2⟩
theorem TMo:SlT Tryz.prog 22 45 4 64 (.agg #[.bool false,.int .i64 0,.slice none 0 0,.slice none 0 0]):=⟨Tryz.underlying22,by kernel_rfl⟩
def GrowN (w:World) (r:Value) (w':World):Prop:=Ext w w'∧(r=.slice none 0 0∨∃ g cap cur el,r=.slice (some ⟨g,0,none⟩) 0 cap∧w.heap.size≤g∧w'.heap[g]? = some (.cells cur el (0,0))∧cap≤maxLen∧cap * 4≤cur.size)
theorem grow_fc {w:World} {n:Nat} (hn:n≤100000):FC Tryz.prog 115 #[.slice none 0 0,.int .i64 (n:Int)] w fun r w'=>GrowN w r w':=by
 have kn:decide ((n:Int)<0)=false:=decide_eq_false (by omega)
 refine FC.body (l:=[.slice none 0 0,.int .i64 (n:Int)]) (rs:=[.tmp 4]) mixed Tryz.func115 rfl (by kernel_rfl) (by kernel_rfl) (Nat.le_of_ble_eq_true rfl) rfl ?_
 repeat (first
  | (with_reducible refine vc_seq fun K hK=>?_)
  | (with_reducible refine vc_reg ?_)
  | (with_reducible refine vc_skip ?_)
  | (with_reducible refine vc_block ?_)
  | (with_reducible refine vc_scope ?_)
  | (with_reducible refine vc_label ?_)
  | (with_reducible refine vc_condT ?_ ?_;· simp only [opsV,dV,modeV,pureV,guardV,undef,opV,callV,intV,arith,ne_eq,Nat.min_def,vsB,seval,kn]<;>rfl)
  | (with_reducible refine vc_condF ?_ ?_;· simp only [opsV,dV,modeV,pureV,guardV,undef,opV,callV,intV,arith,ne_eq,Nat.min_def,vsB,seval,kn]<;>rfl)
  | (with_reducible refine vc_exit ?_;simp only [↓reduceIte,Nat.reduceEqDiff])
  | (with_reducible refine vc_ret ?_;simp only [retV,resL,one])
  | (with_reducible refine hK _ _ ?_;clear hK)
  | (clear hK;with_reducible refine hK _ _ ?_;clear hK)
  | (clear hK;clear hK;with_reducible refine hK _ _ ?_;clear hK)
  | (simp only [opsV,dV,modeV,pureV,guardV,undef,opV,callV,intV,arith,ne_eq,Nat.min_def,vsB,seval,kn]))
 refine cap_nil Tryz.underlying22 rfl ?_
 repeat (first
  | (with_reducible refine vc_seq fun K hK=>?_)
  | (with_reducible refine vc_reg ?_)
  | (with_reducible refine vc_skip ?_)
  | (with_reducible refine vc_block ?_)
  | (with_reducible refine vc_scope ?_)
  | (with_reducible refine vc_label ?_)
  | (with_reducible refine vc_condT ?_ ?_;· simp only [opsV,dV,modeV,pureV,guardV,undef,opV,callV,intV,arith,ne_eq,Nat.min_def,vsB,seval,kn,Tryz.underlying22]<;>rfl)
  | (with_reducible refine vc_condF ?_ ?_;· simp only [opsV,dV,modeV,pureV,guardV,undef,opV,callV,intV,arith,ne_eq,Nat.min_def,vsB,seval,kn,Tryz.underlying22]<;>rfl)
  | (with_reducible refine vc_exit ?_;simp only [↓reduceIte,Nat.reduceEqDiff])
  | (with_reducible refine vc_ret ?_;simp only [retV,resL,one])
  | (with_reducible refine hK _ _ ?_;clear hK)
  | (clear hK;with_reducible refine hK _ _ ?_;clear hK)
  | (clear hK;clear hK;with_reducible refine hK _ _ ?_;clear hK)
  | (simp only [opsV,dV,modeV,pureV,guardV,undef,opV,callV,intV,arith,ne_eq,Nat.min_def,vsB,seval,kn,Tryz.underlying22]))
 have e0:(n:Int) - (0 - ((0:Nat):Int))=n:=by omega
 refine ⟨0,?_,(by unfold R64;omega),(by unfold R64;omega),?_⟩
 ·exact ⟨none,0,rfl⟩
 rw [e0]
 by_cases h0:n=0
 ·subst h0
  repeat (first
   | (with_reducible refine vc_seq fun K hK=>?_)
   | (with_reducible refine vc_reg ?_)
   | (with_reducible refine vc_skip ?_)
   | (with_reducible refine vc_block ?_)
   | (with_reducible refine vc_scope ?_)
   | (with_reducible refine vc_label ?_)
   | (with_reducible refine vc_condT ?_ ?_;· simp only [opsV,dV,modeV,pureV,guardV,undef,opV,callV,intV,arith,ne_eq,Nat.min_def,vsB,seval,kn,Tryz.underlying22]<;>rfl)
   | (with_reducible refine vc_condF ?_ ?_;· simp only [opsV,dV,modeV,pureV,guardV,undef,opV,callV,intV,arith,ne_eq,Nat.min_def,vsB,seval,kn,Tryz.underlying22]<;>rfl)
   | (with_reducible refine vc_exit ?_;simp only [↓reduceIte,Nat.reduceEqDiff])
   | (with_reducible refine vc_ret ?_;simp only [retV,resL,one])
   | (with_reducible refine hK _ _ ?_;clear hK)
   | (clear hK;with_reducible refine hK _ _ ?_;clear hK)
   | (clear hK;clear hK;with_reducible refine hK _ _ ?_;clear hK)
   | (simp only [opsV,dV,modeV,pureV,guardV,undef,opV,callV,intV,arith,ne_eq,Nat.min_def,vsB,seval,kn,Tryz.underlying22]))
  exact ⟨Ext.refl _,.inl rfl⟩
 ·have k0:decide ((0:Int)<(n:Int))=true:=decide_eq_true (by omega)
  repeat (first
   | (with_reducible refine vc_seq fun K hK=>?_)
   | (with_reducible refine vc_reg ?_)
   | (with_reducible refine vc_skip ?_)
   | (with_reducible refine vc_block ?_)
   | (with_reducible refine vc_scope ?_)
   | (with_reducible refine vc_label ?_)
   | (with_reducible refine vc_condT ?_ ?_;· simp only [opsV,dV,modeV,pureV,guardV,undef,opV,callV,intV,arith,ne_eq,Nat.min_def,vsB,seval,kn,Tryz.underlying22,k0]<;>rfl)
   | (with_reducible refine vc_condF ?_ ?_;· simp only [opsV,dV,modeV,pureV,guardV,undef,opV,callV,intV,arith,ne_eq,Nat.min_def,vsB,seval,kn,Tryz.underlying22,k0]<;>rfl)
   | (with_reducible refine vc_exit ?_;simp only [↓reduceIte,Nat.reduceEqDiff])
   | (with_reducible refine vc_ret ?_;simp only [retV,resL,one])
   | (with_reducible refine hK _ _ ?_;clear hK)
   | (clear hK;with_reducible refine hK _ _ ?_;clear hK)
   | (clear hK;clear hK;with_reducible refine hK _ _ ?_;clear hK)
   | (simp only [opsV,dV,modeV,pureV,guardV,undef,opV,callV,intV,arith,ne_eq,Nat.min_def,vsB,seval,kn,Tryz.underlying22,k0]))
  have k0:decide ((0:Int)<(n:Int))=true:=decide_eq_true (by omega)
  repeat (first
   | (with_reducible refine vc_seq fun K hK=>?_)
   | (with_reducible refine vc_reg ?_)
   | (with_reducible refine vc_skip ?_)
   | (with_reducible refine vc_block ?_)
   | (with_reducible refine vc_scope ?_)
   | (with_reducible refine vc_label ?_)
   | (with_reducible refine vc_condT ?_ ?_;· simp only [opsV,dV,modeV,pureV,guardV,undef,opV,callV,intV,arith,ne_eq,Nat.min_def,vsB,seval,kn,Tryz.underlying22,k0]<;>rfl)
   | (with_reducible refine vc_condF ?_ ?_;· simp only [opsV,dV,modeV,pureV,guardV,undef,opV,callV,intV,arith,ne_eq,Nat.min_def,vsB,seval,kn,Tryz.underlying22,k0]<;>rfl)
   | (with_reducible refine vc_exit ?_;simp only [↓reduceIte,Nat.reduceEqDiff])
   | (with_reducible refine vc_ret ?_;simp only [retV,resL,one])
   | (with_reducible refine hK _ _ ?_;clear hK)
   | (clear hK;with_reducible refine hK _ _ ?_;clear hK)
   | (clear hK;clear hK;with_reducible refine hK _ _ ?_;clear hK)
   | (simp only [opsV,dV,modeV,pureV,guardV,undef,opV,callV,intV,arith,ne_eq,Nat.min_def,vsB,seval,kn,Tryz.underlying22,k0]))
  refine vc_condT ?_ ?_
  ·simp only [opsV,dV,modeV,pureV,guardV,undef,opV,callV,intV,arith,ne_eq,Nat.min_def,vsB,seval,kn,Tryz.underlying22,k0]
   exact congrArg Value.bool (decide_eq_true (by omega))
  repeat (first
   | (with_reducible refine vc_seq fun K hK=>?_)
   | (with_reducible refine vc_reg ?_)
   | (with_reducible refine vc_skip ?_)
   | (with_reducible refine vc_block ?_)
   | (with_reducible refine vc_scope ?_)
   | (with_reducible refine vc_label ?_)
   | (with_reducible refine vc_condT ?_ ?_;· simp only [opsV,dV,modeV,pureV,guardV,undef,opV,callV,intV,arith,ne_eq,Nat.min_def,vsB,seval,kn,Tryz.underlying22,k0]<;>rfl)
   | (with_reducible refine vc_condF ?_ ?_;· simp only [opsV,dV,modeV,pureV,guardV,undef,opV,callV,intV,arith,ne_eq,Nat.min_def,vsB,seval,kn,Tryz.underlying22,k0]<;>rfl)
   | (with_reducible refine vc_exit ?_;simp only [↓reduceIte,Nat.reduceEqDiff])
   | (with_reducible refine vc_ret ?_;simp only [retV,resL,one])
   | (with_reducible refine hK _ _ ?_;clear hK)
   | (clear hK;with_reducible refine hK _ _ ?_;clear hK)
   | (clear hK;clear hK;with_reducible refine hK _ _ ?_;clear hK)
   | (simp only [opsV,dV,modeV,pureV,guardV,undef,opV,callV,intV,arith,ne_eq,Nat.min_def,vsB,seval,kn,Tryz.underlying22,k0]))
  refine cap_nil Tryz.underlying22 rfl ?_
  obtain ⟨ti,hi,hz,hsz,hby⟩:=sl_info TMo
  refine ⟨_,slA_none Tryz.underlying22 hi,_,_,run_append_made Tryz.underlying22 Tryz.underlying3 hi hz hsz (by omega) (by omega) (by rw [hby];omega),0,?_,_,slA_zero Tryz.underlying22 hi,?_⟩
  ·exact ⟨none,0,rfl⟩
  repeat (first
   | (with_reducible refine vc_seq fun K hK=>?_)
   | (with_reducible refine vc_reg ?_)
   | (with_reducible refine vc_skip ?_)
   | (with_reducible refine vc_block ?_)
   | (with_reducible refine vc_scope ?_)
   | (with_reducible refine vc_label ?_)
   | (with_reducible refine vc_condT ?_ ?_;· simp only [opsV,dV,modeV,pureV,guardV,undef,opV,callV,intV,arith,ne_eq,Nat.min_def,vsB,seval,kn,Tryz.underlying22,k0]<;>rfl)
   | (with_reducible refine vc_condF ?_ ?_;· simp only [opsV,dV,modeV,pureV,guardV,undef,opV,callV,intV,arith,ne_eq,Nat.min_def,vsB,seval,kn,Tryz.underlying22,k0]<;>rfl)
   | (with_reducible refine vc_exit ?_;simp only [↓reduceIte,Nat.reduceEqDiff])
   | (with_reducible refine vc_ret ?_;simp only [retV,resL,one])
   | (with_reducible refine hK _ _ ?_;clear hK)
   | (clear hK;with_reducible refine hK _ _ ?_;clear hK)
   | (clear hK;clear hK;with_reducible refine hK _ _ ?_;clear hK)
   | (simp only [opsV,dV,modeV,pureV,guardV,undef,opV,callV,intV,arith,ne_eq,Nat.min_def,vsB,seval,kn,Tryz.underlying22,k0]))
  have hge:=grownCap_ge w n 0 45
  have h4:ti.size=4:=by rw [hsz];rfl
  refine ⟨(ext_drew w).alloc' _,.inr ⟨w.drew.heap.size,_,_,_,rfl,Nat.le_refl _,heap_alloc_new w.drew _,grownCap_le_maxLen w _ _ _ (by unfold maxLen;omega),?_⟩⟩
  have h5:(Value.agg #[Value.bool false,Value.int IntKind.i64 0,Value.slice none 0 0,Value.slice none 0 0]).cells.size=4:=rfl
  rw [if_neg (by rw [h4];omega),Array.size_append,size_zeroCells,size_zeroCells,h5]
  omega
theorem p_GrowM {n:Nat} (hn:n≤100000) {S:Store} {K:D→Store→Prop} (nm:Nm) (hK:∀ d S',RowZ S' nm 4 d []→Keep nm S S'→K d S'):PFC Tryz.prog 115 [.nil,i64 n] S K:=by
 intro w I vs hR hv
 obtain ⟨v,r,rfl,h1,hr⟩:=hv.uncons
 obtain ⟨u,rfl,h2⟩:=hr.one
 cases h1
 have e2:u=.int .i64 n:=by
  cases h2 with
  | g h=>cases h;rfl
 subst e2
 refine (grow_fc (w:=w) hn).mono ?_
 rintro r w' ⟨hE,h⟩
 have hIs:∀ b j,I b j→I b j:=fun _ _ h=>h
 have r1:=hR.ext hE hIs (fun _ _ h=>.inl h) (fun b j hj=>Nat.lt_of_lt_of_le (hR.old b j hj) hE.size)
 have s1:=Stp.of_ext (S:=S) hE hIs (fun _ _ h=>.inl h) hR.old
 rcases h with rfl|⟨g,cap,cur,el,rfl,hgb,hb,hcm,hcs⟩
 ·exact ⟨I,S,.nil,s1,r1,.nil,hK _ _ .nil .rfl⟩
 ·have hlt:∀ q B,S q=some B→B.b≠g:=fun q B hq e=>by have:=hR.lt hq;omega
  refine ⟨I,updS S nm (some ⟨g,4,0,[]⟩),.own nm g 0 0 cap 4,⟨s1.os,s1.tape,s1.output,s1.size,s1.dr,s1.sub,s1.new,s1.ev,s1.frame,fun q C hq=>?_,s1.liveG⟩,⟨r1.gi,fun q C hq=>?_,fun q q' C C' hq hq' hbb=>?_,r1.gho⟩,?_,hK _ _ (.inr ⟨g,cap,by simp,updS_at⟩) .upd⟩
  ·rw [updS_apply] at hq
   split at hq
   ·injection hq with hq;subst hq;exact .inl hgb
   ·exact s1.live q C hq
  ·rw [updS_apply] at hq
   split at hq
   ·injection hq with hq;subst hq
    refine ⟨cur,el,hb,by simp,fun i es he=>by simp at he,fun i es j d he hd=>by simp at he,fun j hj=>?_,Nat.zero_le _⟩
    have:=hR.old g j hj;omega
   ·exact r1.has q C hq
  ·rw [updS_apply] at hq hq'
   split at hq<;>split at hq'
   ·rename_i e1 e2;rw [e1,e2]
   ·rename_i e1 _;injection hq with hq;subst hq;exact (hlt q' C' hq' hbb.symm).elim
   ·rename_i _ e2;injection hq' with hq';subst hq';exact (hlt q C hq hbb).elim
   ·exact r1.inj q q' C C' hq hq' hbb
  ·have:=RdD.own (I:=I) (H:=w'.heap) nm g 0 0 cap 4 cur el (0,0) (Nat.zero_le _) hcm (by omega) hb (by omega)
   simpa using this
end Go.V
namespace Go.V
open Go Go.RowKit Go.Proofs
theorem RowZ.app {S:Store} {K:D→Store→Prop} {q:SlZ} {k:Nm} {dd src:D} {els new:List (List D)} (h:RowZ S k q.s dd els) (hs:∀ K,K new→srcD S q.s src K) (hl:els.length + new.length≤140737488355328)
 (hb:(els.length + new.length) * q.bytes≤140737488355328) (hK:∀ d' S',RowZ S' k q.s d' (els ++ new)→Keep k S S'→K d' S'):appD q S k dd src K:=by
 rcases h with ⟨rfl,rfl⟩|⟨b0,cap0,rfl,hS⟩
 ·rw [appD_nil]
  refine hs _ ⟨by simpa using hl,by simpa using hb,fun h0=>?_,fun h0 b' cap'=>?_⟩
  ·subst h0;exact hK _ _ .nil .rfl
  ·exact hK _ _ (.inr ⟨b',cap',rfl,updS_at⟩) .upd
 ·rw [appD_own,hS]
  refine ⟨rfl,rfl,rfl,rfl,rfl,hs _ ⟨hl,hb,fun b' cap'=>?_⟩⟩
  exact hK _ _ (.inr ⟨b',cap',by simp,updS_at⟩) .upd
theorem WfM.nil:WfM []:=⟨by decide,fun m hm=>by cases hm⟩
theorem srcD_MM {S:Store} {q:List Mo} {K:List (List D)→Prop}:srcD S 4 (.g (eS eM q)) K=K (rS eM q):=srcD_eS fun _ _=>rfl
set_option maxHeartbeats 1000000 in
theorem p_ConcatM {a b:List Mo} (ha:a.length≤10000) (hb:b.length≤10000):PC Tryz.prog 72 [.g (.sl [[eS eM a],[eS eM b]])] fun d=>d=MM (a ++ b):=by
 refine PB (rs:=[.tmp 2]) Tryz.func72 ?_
 repeat (first|(with_reducible first|refine pv_seq fun K hK=>?_|((first|refine hK _ _ ?_|(clear hK;refine hK _ _ ?_)|(clear hK;clear hK;refine hK _ _ ?_));clear hK;try clear K))| refine W0 ?_|exact Z|with_reducible intro b)
 refine pv_loop (fun e S=>Hid (e 0=.g (.sl [[eS eM a],[eS eM b]])∧e 9=.g (.sl [[eS eM a],[eS eM b]])∧e 10=i64 2∧((e 3=i64 0∧e 11=i64 0)∨(e 3=i64 a.length∧e 11=i64 1)∨(e 3=i64 ((a.length + b.length:Nat):Int)∧e 11=i64 2)))) (fun e _=>2 - (intD (e 11)).toNat) ?_ ?_
 ·exact ⟨Zr,Zr,Zr,.inl ⟨Zr,Zr⟩⟩
 ·rintro e S ⟨g0,g9,g10,⟨g3,g11⟩|⟨g3,g11⟩|⟨g3,g11⟩⟩
  ·have k0:decide ((a.length:Int)<0)=false:=decide_eq_false (by omega)
   have z0:(0:Int) + (a.length:Int)=(a.length:Int):=Int.zero_add _
   have ft:=And.intro g0 (And.intro g3 (And.intro g9 (And.intro g10 (And.intro g11 (And.intro z0 k0)))))
   repeat (first|(with_reducible first|refine pv_seq fun K hK=>?_|((first|refine hK _ _ ?_|(clear hK;refine hK _ _ ?_)|(clear hK;clear hK;refine hK _ _ ?_));clear hK;try clear K))| refine W0 ?_|exact Z|with_reducible intro b)
   exact ⟨⟨Zr,Zr,Zr,.inr (.inl ⟨Zr,Zr⟩)⟩,by simp only [intD];omega⟩
  ·have k0:decide (((a.length + b.length:Nat):Int)<0)=false:=decide_eq_false (by omega)
   have ft:=And.intro g0 (And.intro g3 (And.intro g9 (And.intro g11 (And.intro g10 k0))))
   repeat (first|(with_reducible first|refine pv_seq fun K hK=>?_|((first|refine hK _ _ ?_|(clear hK;refine hK _ _ ?_)|(clear hK;clear hK;refine hK _ _ ?_));clear hK;try clear K))| refine W0 ?_|exact Z|with_reducible intro b)
   exact ⟨⟨Zr,Zr,Zr,.inr (.inr ⟨Zr,Zr⟩)⟩,by simp only [intD];decide⟩
  ·have ft:=And.intro g0 (And.intro g9 (And.intro g3 (And.intro g10 g11)))
   repeat (first|(with_reducible first|refine pv_seq fun K hK=>?_|((first|refine hK _ _ ?_|(clear hK;refine hK _ _ ?_)|(clear hK;clear hK;refine hK _ _ ?_));clear hK;try clear K))| refine W0 ?_|exact Z|with_reducible intro b)
   refine p_GrowM (by omega) (.l 33) fun d S2 hr hS=>?_
   repeat (first|(with_reducible first|refine pv_seq fun K hK=>?_|((first|refine hK _ _ ?_|(clear hK;refine hK _ _ ?_)|(clear hK;clear hK;refine hK _ _ ?_));clear hK;try clear K))| refine W0 ?_|exact Z|with_reducible intro b)
   refine pv_loop (fun e S=>Hid (e 25=.g (.sl [[eS eM a],[eS eM b]])∧e 26=i64 2∧((RowZ S (.l 33) 4 (e 6) []∧e 27=i64 0)∨(RowZ S (.l 33) 4 (e 6) (rS eM a)∧e 27=i64 1)∨(RowZ S (.l 33) 4 (e 6) (rS eM (a ++ b))∧e 27=i64 2)))) (fun e _=>2 - (intD (e 27)).toNat) ?_ ?_
   ·exact ⟨Zr,Zr,.inl ⟨hr,Zr⟩⟩
   ·rintro e S ⟨g25,g26,⟨hr,g27⟩|⟨hr,g27⟩|⟨hr,g27⟩⟩
    ·have ft:=And.intro g25 (And.intro g26 g27)
     repeat (first|(with_reducible first|refine pv_seq fun K hK=>?_|((first|refine hK _ _ ?_|(clear hK;refine hK _ _ ?_)|(clear hK;clear hK;refine hK _ _ ?_));clear hK;try clear K))| refine W0 ?_|exact Z|with_reducible intro b)
     refine RowZ.app hr (fun K hK=>by rw [srcD_MM];exact hK) (by rw [rS_len];simp;omega) (by rw [rS_len];simp;omega) fun d' S' hr' hS'=>?_
     repeat (first|(with_reducible first|refine pv_seq fun K hK=>?_|((first|refine hK _ _ ?_|(clear hK;refine hK _ _ ?_)|(clear hK;clear hK;refine hK _ _ ?_));clear hK;try clear K))| refine W0 ?_|exact Z|with_reducible intro b)
     exact ⟨⟨Zr,Zr,.inr (.inl ⟨hr',Zr⟩)⟩,by simp only [intD];decide⟩
    ·have ft:=And.intro g25 (And.intro g27 g26)
     repeat (first|(with_reducible first|refine pv_seq fun K hK=>?_|((first|refine hK _ _ ?_|(clear hK;refine hK _ _ ?_)|(clear hK;clear hK;refine hK _ _ ?_));clear hK;try clear K))| refine W0 ?_|exact Z|with_reducible intro b)
     refine RowZ.app hr (fun K hK=>by rw [srcD_MM];exact hK) (by rw [rS_len,rS_len];omega) (by rw [rS_len,rS_len];simp;omega) fun d' S' hr' hS'=>?_
     rw [rS_app] at hr'
     repeat (first|(with_reducible first|refine pv_seq fun K hK=>?_|((first|refine hK _ _ ?_|(clear hK;refine hK _ _ ?_)|(clear hK;clear hK;refine hK _ _ ?_));clear hK;try clear K))| refine W0 ?_|exact Z|with_reducible intro b)
     exact ⟨⟨Zr,Zr,.inr (.inr ⟨hr',Zr⟩)⟩,by simp only [intD];decide⟩
    ·have ft:=And.intro g27 (And.intro g25 g26)
     repeat (first|(with_reducible first|refine pv_seq fun K hK=>?_|((first|refine hK _ _ ?_|(clear hK;refine hK _ _ ?_)|(clear hK;clear hK;refine hK _ _ ?_));clear hK;try clear K))| refine W0 ?_|exact Z|with_reducible intro b)
     exact hr.toD.coeD fun S' _ _=>rfl
theorem WfM.app {a b:List Mo} (ha:WfM a) (hb:WfM b) (hl:a.length + b.length≤100000):WfM (a ++ b):=by
 refine ⟨by rw [List.length_append];exact hl,fun m hm=>?_⟩
 rcases List.mem_append.1 hm with h|h
 ·exact ha.w m h
 ·exact hb.w m h
theorem polyB_len {q:List Mo} {n:Int} (h:polyB q n=true):q.length≤24:=by
 unfold polyB at h
 simp only [Bool.and_eq_true,decide_eq_true_eq] at h
 omega
def addR (a b:List Mo) (n:Int):List Mo × Int:=if polyB a n && polyB b n then pmkR (a ++ b) n else ([],1)
set_option maxHeartbeats 1000000 in
theorem p_pAdd {a b:List Mo} {n:Int} (ha:WfM a) (hb:WfM b):PC Tryz.prog 29 [MM a,MM b,i64 n] fun d=>d=LM (addR a b n):=by
 have p1:=p_pRight (n:=n) ha
 have p2:=p_pRight (n:=n) hb
 have l1:=polyB_len (q:=a) (n:=n)
 have l2:=polyB_len (q:=b) (n:=n)
 unfold addR
 cases h1:polyB a n with
 | false =>
   rw [h1] at p1
   unfold MM at *
   refine PB (rs:=[.tmp 6,.tmp 7]) Tryz.func29 ?_
   exact Wk
 | true =>
   cases h2:polyB b n with
   | false =>
     rw [h1] at p1
     rw [h2] at p2
     unfold MM at *
     refine PB (rs:=[.tmp 6,.tmp 7]) Tryz.func29 ?_
     exact Wk
   | true =>
     have l1:=l1 h1
     have l2:=l2 h2
     have pC:=p_ConcatM (a:=a) (b:=b) (by omega) (by omega)
     have pM:=p_pMake (q:=a ++ b) (n:=n) (ha.app hb (by omega)) (by rw [List.length_append];omega)
     rw [h1] at p1
     rw [h2] at p2
     simp only [Bool.and_self,if_true]
     generalize pmkR (a ++ b) n=r at *
     obtain ⟨r,e⟩:=r
     unfold MM LM at *
     refine PB (rs:=[.tmp 6,.tmp 7]) Tryz.func29 ?_
     exact Wk
set_option maxHeartbeats 1000000 in
theorem p_rPAdd {a c:List Mo} {n:Int} (ha:WfM a) (hb:WfM c):PC Tryz.prog 64 [MM a,MM c,i64 n] fun d=>d=LM (addR a c n):=by
 have p1:=p_rPRight (n:=n) ha
 have p2:=p_rPRight (n:=n) hb
 have l1:=polyB_len (q:=a) (n:=n)
 have l2:=polyB_len (q:=c) (n:=n)
 unfold addR
 cases h1:polyB a n with
 | false =>
   rw [h1] at p1
   unfold MM at *
   refine PB (rs:=[.tmp 6,.tmp 7]) Tryz.func64 ?_
   exact Wk
 | true =>
   cases h2:polyB c n with
   | false =>
     rw [h1] at p1
     rw [h2] at p2
     unfold MM at *
     refine PB (rs:=[.tmp 6,.tmp 7]) Tryz.func64 ?_
     exact Wk
   | true =>
     have l1:=l1 h1
     have l2:=l2 h2
     have pM:=p_rPMake (q:=a ++ c) (n:=n) (ha.app hb (by omega)) (by rw [List.length_append];omega)
     rw [h1] at p1
     rw [h2] at p2
     simp only [Bool.and_self,if_true]
     generalize pmkR (a ++ c) n=r at *
     obtain ⟨r,e⟩:=r
     have hs:∀ (S:Store) (K:List (List D)→Prop),K (rS eM a)→srcD S 4 (.g (eS eM a)) K:=fun S K hK=>by rw [srcD_MM];exact hK
     have hs2:∀ (S:Store) (K:List (List D)→Prop),K (rS eM c)→srcD S 4 (.g (eS eM c)) K:=fun S K hK=>by rw [srcD_MM];exact hK
     unfold MM LM at *
     refine PB (rs:=[.tmp 6,.tmp 7]) Tryz.func64 ?_
     repeat (first|(with_reducible first|refine pv_seq fun K hK=>?_|((first|refine hK _ _ ?_|(clear hK;refine hK _ _ ?_)|(clear hK;clear hK;refine hK _ _ ?_));clear hK;try clear K))| refine W ?_|exact Z|with_reducible intro b)
     refine hs _ _ ⟨by rw [rS_len];omega,by rw [rS_len];omega,fun b' cap1=>?_⟩
     refine hs2 _ _ ⟨by rw [rS_len,rS_len];omega,by rw [rS_len,rS_len];omega,fun b2 cap2=>?_⟩
     rw [rS_app]
     refine PFC.coe ?_
     simp -implicitDefEqProofs only [ft,go_sem,seval]
     have e1:(rS eM a).length + (rS eM c).length=(rS eM (a ++ c)).length:=by rw [rS_len,rS_len,rS_len,List.length_append]
     refine ⟨Nat.le_of_eq e1,?_⟩
     rw [List.take_of_length_le (Nat.le_of_eq e1.symm),pureLL_rS]
     exact Wk
end Go.V
