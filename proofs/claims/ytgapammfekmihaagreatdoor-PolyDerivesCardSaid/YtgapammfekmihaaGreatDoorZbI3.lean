/- Package poly's product of two monomials. Products of polynomials, plain. Package poly's Mul. The document's Mul. Derivatives of polynomials, plain. Package poly's Diff, and the document's. The document's Diff. Lists of numbers: which hold right ones alone; values of polynomials, plain. -/
import Derived.Test.YtgapammfekmihaaGreatDoorZbI2
set_option linter.unusedSimpArgs false
set_option linter.unusedVariables false
set_option maxRecDepth 100000
namespace Go.V
open Go Go.RowKit Go.Proofs
def qQ11_73_2:PT:=(.lin [(1,0),(2,2)] (.fork3 0 4 (.lin [] (.fork 3 3 (.lin [(4,0),(5,4),(6,3)] .nil) 5 4 (.lin [(3,3),(4,0),(6,3)] .nil))) 3 3 (.lin [] (.fork 0 4 (.lin [(4,0),(5,4),(6,3)] .nil) 5 4 (.lin [(0,4),(4,0),(6,3)] .nil))) 5 4 (.lin [] (.fork 0 4 (.lin [(3,3),(4,0),(6,3)] .nil) 3 3 (.lin [(0,4),(4,0),(6,3)] .nil)))))
attribute [go_sem] qQ11_73_2
def pz (a b:List Int):Nat→List Int
 | 0=>a
 | i + 1=>(pz a b i).set i (a.getD i 0 + b.getD i 0)
theorem pz_len {a b:List Int}:∀ i,(pz a b i).length=a.length
 | 0=>rfl
 | i + 1=>by unfold pz;rw [List.length_set,pz_len i]
theorem pz_get {a b:List Int}:∀ i j,i≤a.length→(pz a b i)[j]? = if j<i then some (a.getD j 0 + b.getD j 0) else a[j]?
 | 0,j,_=>by rw [if_neg (Nat.not_lt_zero _)];rfl
 | i + 1,j,h=>by
   unfold pz
   by_cases hij:i=j
   ·subst hij
    rw [List.getElem?_set_self (by rw [pz_len];omega),if_pos (by omega)]
   ·rw [List.getElem?_set_ne hij,pz_get i j (by omega)]
    by_cases h1:j<i
    ·rw [if_pos h1,if_pos (by omega)]
    ·rw [if_neg h1,if_neg (by omega)]
def zs (a b:List Int):List Int:=List.zipWith (· + ·) a b
theorem pz_all {a b:List Int} (h:a.length=b.length):pz a b a.length=zs a b:=by
 refine List.ext_getElem? fun j=>?_
 rw [pz_get _ j (Nat.le_refl _)]
 unfold zs
 rw [List.getElem?_zipWith]
 by_cases hj:j<a.length
 ·rw [if_pos hj,List.getElem?_eq_getElem hj,List.getElem?_eq_getElem (h ▸ hj),show a.getD j 0=a[j] from by simp [List.getD,hj],show b.getD j 0=b[j]'(h ▸ hj) from by simp [List.getD,h ▸ hj]]
 ·rw [if_neg hj,List.getElem?_eq_none (by omega)]
theorem RowZ.upd {S S':Store} {k:Nm} {s:Nat} {d:D} {els:List (List D)} (h:RowZ S' k s d els) (hS:Keep k S S') (h0:0<els.length):∃ b cap,d=.own k b 0 els.length cap s∧S'=updS S k (some ⟨b,s,0,els⟩):=by
 rcases h with ⟨_,rfl⟩|⟨b,cap,h1,h2⟩
 ·exact absurd h0 (Nat.lt_irrefl _)
 ·refine ⟨b,cap,h1,Store.ext2 (fun q=>?_) hS.g⟩
  rw [updS_apply]
  split
  ·rename_i e;rw [e,h2]
  ·rename_i e;exact hS q e
theorem p_CloneX {z:List Int} (hz:∀ x ∈ z,0≤x) (hl:z.length≤100000) (h0:0<z.length) {S:Store} {K:D→Store→Prop} (nm:Nm) (hK:∀ b cap,K (.own nm b 0 z.length cap 1) (updS S nm (some ⟨b,1,0,rS eZ z⟩))):PFC Tryz.prog 57 [.g (eS eZ z)] S K:=by
 refine p_CloneO hz hl nm fun d S' hr hS=>?_
 obtain ⟨b,cap,rfl,rfl⟩:=hr.upd hS (by rw [rS_len];exact h0)
 rw [rS_len]
 exact hK b cap
set_option maxHeartbeats 1000000 in
theorem p_product {a b:Dyadic} {x y:List Int} (ha:OkD a) (hb:OkD b) (hx:∀ k ∈ x,0≤k∧k≤8) (hy:∀ k ∈ y,0≤k∧k≤8) (hl:x.length=y.length) (h1:1≤x.length) (h4:x.length≤4) :
 PC Tryz.prog 73 [MO ⟨nuOf a,x⟩,MO ⟨nuOf b,y⟩] fun d=>d=.tup [MO ⟨(numR (a * b)).1,zs x y⟩,i64 (numR (a * b)).2]:=by
 have pM:=p_nMulD ha hb
 generalize numR (a * b)=r at *
 obtain ⟨⟨n3,e3,w3⟩,e⟩:=r
 generalize nuOf a=u at *
 generalize nuOf b=v at *
 obtain ⟨n1,e1,w1⟩:=u
 obtain ⟨n2,e2',w2⟩:=v
 have hx0:∀ k ∈ x,0≤k:=fun k hk=>(hx k hk).1
 have hpos:0<x.length:=h1
 rw [← pz_all hl]
 unfold NE NU at pM
 have d1:=@dr 2 qQ11_73_2
 refine PB (rs:=[.cell 4 45,.tmp 5]) Tryz.func73 ?_
 repeat (first|(with_reducible first|refine pv_seq fun K hK=>?_|((first|refine hK _ _ ?_|(clear hK;refine hK _ _ ?_)|(clear hK;clear hK;refine hK _ _ ?_));clear hK;try clear K))| refine W0 ?_|exact Z|with_reducible intro b)
 refine call_is pM ?_
 repeat (first|with_reducible refine pv_stop 2 ?_|(with_reducible first|refine pv_seq fun K hK=>?_|((first|refine hK _ _ ?_|(clear hK;refine hK _ _ ?_)|(clear hK;clear hK;refine hK _ _ ?_));clear hK;try clear K))| refine W ?_|exact Z|with_reducible intro b)
 refine ⟨fun K2 q2 hC=>?_⟩
 have J2:∀ (e2:DEnv) (S2:Store) (b3 b4 b8 b9 cap:Nat),e2 3=.ptr (.l 3) b3 0 0 4→e2 4=.ptr (.l 4) b4 0 0 4→e2 7=i64 e→e2 8=.ptr (.l 8) b8 0 0 4→S2 (.l 3)=some ⟨b3,4,0,[[bl n2,i64 e2',W64 w2,.g (eS eZ y)]]⟩→S2 (.l 4)=some ⟨b4,4,0,[[bl false,i64 0,.nil,.nil]]⟩ →
  S2 (.l 8)=some ⟨b8,4,0,[[bl n3,i64 e3,W64 w3,.own (.l 22) b9 0 x.length cap 1]]⟩→S2 (.l 22)=some ⟨b9,1,0,rS eZ x⟩→K2 e2 S2:=by
  intro f S2 b3 b4 b8 b9 cap g3 g4 g7 g8 s3 s4 s8 s22
  refine q2 _ _ ?_
  clear q2 hC
  have ft:=And.intro g3 (And.intro g4 (And.intro g7 (And.intro g8 (And.intro s3 (And.intro s4 (And.intro s8 s22))))))
  repeat (first|(with_reducible first|refine pv_seq fun K hK=>?_|((first|refine hK _ _ ?_|(clear hK;refine hK _ _ ?_)|(clear hK;clear hK;refine hK _ _ ?_));clear hK;try clear K))| refine W0 ?_|exact Z|with_reducible intro b)
  refine pv_loop (fun e2 S=>Hid (∃ i:Nat,i≤x.length∧e2 4=.ptr (.l 4) b4 0 0 4∧e2 7=i64 e∧e2 8=.ptr (.l 8) b8 0 0 4∧e2 25=.g (eS eZ y)∧e2 26=i64 y.length∧e2 27=i64 i∧S (.l 4)=some ⟨b4,4,0,[[bl false,i64 0,.nil,.nil]]⟩∧S (.l 8)=some ⟨b8,4,0,[[bl n3,i64 e3,W64 w3,.own (.l 22) b9 0 x.length cap 1]]⟩∧S (.l 22)=some ⟨b9,1,0,rS eZ (pz x y i)⟩)) (fun e _=>x.length - (intD (e 27)).toNat) ?_ ?_
  ·exact ⟨0,Nat.zero_le _,Zr,Zr,Zr,Zr,Zr,Zr,s4,s8,s22⟩
  ·rintro e2 S ⟨i,hi,g4,g7,g8,g25,g26,g27,s4,s8,s22⟩
   have ft:=And.intro g4 (And.intro g7 (And.intro g8 (And.intro g25 (And.intro g26 (And.intro g27 (And.intro s4 (And.intro s8 s22)))))))
   repeat (first|(with_reducible first|refine pv_seq fun K hK=>?_|((first|refine hK _ _ ?_|(clear hK;refine hK _ _ ?_)|(clear hK;clear hK;refine hK _ _ ?_));clear hK;try clear K))| refine W0 ?_|exact Z|with_reducible intro b)
   refine pv_cdD (fun ht=>?_) (fun ht=>?_)
   ·have hil:i<x.length:=by omega
    have qy:=zget (l:=y) (i:=i) (by omega)
    have qx:(rS eZ (pz x y i))[i]? = some [i64 (x.getD i 0)]:=by
     rw [rS_get,pz_get _ _ hi,if_neg (Nat.lt_irrefl _),zget hil];rfl
    have hset:(rS eZ (pz x y i)).set i [i64 (x.getD i 0 + y.getD i 0)]=rS eZ (pz x y (i + 1)):=rS_set rfl
    have bx:=hx _ (List.mem_of_getElem? (zget hil))
    have byy:=hy _ (List.mem_of_getElem? qy)
    have hpl:=pz_len (a:=x) (b:=y) i
    generalize pz x y i=P at *
    generalize x.getD i 0=xi at *
    generalize y.getD i 0=yi at *
    have ft:=And.intro g4 (And.intro g7 (And.intro g8 (And.intro g25 (And.intro g26 (And.intro g27 (And.intro s4 (And.intro s8 (And.intro s22 (And.intro qx qy)))))))))
    repeat (first|(with_reducible first|refine pv_seq fun K hK=>?_|((first|refine hK _ _ ?_|(clear hK;refine hK _ _ ?_)|(clear hK;clear hK;refine hK _ _ ?_));clear hK;try clear K))| refine W0 ?_|exact Z|with_reducible intro b)
    exact ⟨⟨i + 1,by omega,Zr,Zr,Zr,Zr,Zr,Zr,s4,s8,by rw [← hset];rfl⟩,by simp only [intD];omega⟩
   ·obtain rfl:i=x.length:=by omega
    have ft:=And.intro g4 (And.intro g7 (And.intro g8 (And.intro s4 (And.intro s8 s22))))
    repeat (first|(with_reducible first|refine pv_seq fun K hK=>?_|((first|refine hK _ _ ?_|(clear hK;refine hK _ _ ?_)|(clear hK;clear hK;refine hK _ _ ?_));clear hK;try clear K))| refine W0 ?_|exact Z|with_reducible intro b)
    refine ⟨by rw [rS_len,pz_len];exact Nat.le_refl _,?_⟩
    rw [List.take_of_length_le (by rw [rS_len,pz_len];exact Nat.le_refl _),pureLL_rS]
    rfl
 clear q2 hC
 repeat (first|(with_reducible first|refine pv_seq fun K hK=>?_|((first|refine hK _ _ ?_|(clear hK;refine hK _ _ ?_)|(clear hK;clear hK;refine hK _ _ ?_));clear hK;try clear K))| refine W0 ?_|exact Z|with_reducible intro b)
 repeat' (first|(with_reducible first|refine pv_seq fun K hK=>?_|((first|refine hK _ _ ?_|(clear hK;refine hK _ _ ?_)|(clear hK;clear hK;refine hK _ _ ?_));clear hK;try clear K))| refine W ?_|exact Z|with_reducible intro b|with_reducible refine And.intro ?_ ?_|refine p_CloneX hx0 (by omega) hpos (.l 22) fun b9 cap=>?_|exact J2 _ _ _ _ _ _ _ Zr Zr Zr Zr (by simp only [updS_apply];rfl) (by simp only [updS_apply];rfl) (by simp only [updS_apply];rfl) (by simp only [updS_apply];rfl))
end Go.V
namespace Go.V
open Go Go.RowKit Go.Proofs
def tm (x y:Mo):Te:=⟨x.c.val * y.c.val,zs x.e y.e⟩
def mulP (a b:List Mo) (i j:Nat):List Te:=((a.take i).flatMap fun x=>b.map (tm x)) ++ (b.take j).map (tm (gM a i))
def mulT (a b:List Mo):List Te:=a.flatMap fun x=>b.map (tm x)
theorem mulP_step {a b:List Mo} {i j:Nat} (hj:j<b.length):mulP a b i (j + 1)=mulP a b i j ++ [tm (gM a i) (gM b j)]:=by
 unfold mulP
 rw [List.take_add_one,gM_at hj,List.map_append,← List.append_assoc];rfl
theorem mulP_row {a b:List Mo} {i:Nat} (hi:i<a.length):mulP a b (i + 1) 0=mulP a b i b.length:=by
 unfold mulP
 rw [List.take_add_one,gM_at hi,List.take_length]
 simp
theorem mulP_all {a b:List Mo}:mulP a b a.length 0=mulT a b:=by
 unfold mulP mulT
 rw [List.take_length];simp
theorem mulT_mem {a b:List Mo} {t:Te} (h:t ∈ mulT a b):∃ x ∈ a,∃ y ∈ b,t=tm x y:=by
 unfold mulT at h
 obtain ⟨x,hx,h⟩:=List.mem_flatMap.1 h
 obtain ⟨y,hy,rfl⟩:=List.mem_map.1 h
 exact ⟨x,hx,y,hy,rfl⟩
theorem mulT_of {a b:List Mo} {x y:Mo} (hx:x ∈ a) (hy:y ∈ b):tm x y ∈ mulT a b:=List.mem_flatMap.2 ⟨x,hx,List.mem_map.2 ⟨y,hy,rfl⟩⟩
theorem mulT_len {a b:List Mo}:(mulT a b).length=a.length * b.length:=by
 unfold mulT
 induction a with
 | nil=>simp
 | cons x a ih=>rw [List.flatMap_cons,List.length_append,ih,List.length_map,List.length_cons,Nat.add_mul];omega
theorem mulP_len {a b:List Mo} {i j:Nat} (hi:i≤a.length) (hj:j≤b.length):(mulP a b i j).length=i * b.length + j:=by
 unfold mulP
 have:=mulT_len (a:=a.take i) (b:=b)
 unfold mulT at this
 rw [List.length_append,this,List.length_map,List.length_take,List.length_take,Nat.min_eq_left hi,Nat.min_eq_left hj]
def okT (l:List Te):Bool:=decide (∀ t ∈ l,OkD t.v)
def mulR (a b:List Mo) (n:Int):List Mo × Int :=
 if polyB a n && polyB b n then (if decide (0<a.length) && decide (0<b.length) && decide (8<degR a + degR b) then ([],6) else if okT (mulT a b) then gathR (mulT a b) else ([],2)) else ([],1)
theorem okT_no {l:List Te} {t:Te} (ht:t ∈ l) (h:¬ OkD t.v):okT l=false:=decide_eq_false fun h2=>h (h2 t ht)
theorem degN_ge {q:List Mo}:∀ i j,j<i→(gM q j).e.sum≤degN q i
 | 0,j,h=>by omega
 | i + 1,j,h=>by
   show _≤maxI (degN q i) (gM q i).e.sum
   unfold maxI
   rcases Nat.lt_or_ge j i with h1|h1
   ·have:=degN_ge (q:=q) i j h1
    split<;>omega
   ·obtain rfl:j=i:=by omega
    split<;>omega
theorem degR_ge {q:List Mo} {n:Int} (h:polyB q n=true) {m:Mo} (hm:m ∈ q):m.e.sum≤degR q:=by
 have h0:¬ q.length=0:=fun h=>by rw [List.eq_nil_of_length_eq_zero h] at hm;cases hm
 have hl:=(polyB_ok h _ (gM_mem (l:=q) (i:=0) (by omega))).len
 unfold degR
 rw [if_neg h0,hl,if_pos h]
 obtain ⟨i,hi⟩:=List.getElem?_of_mem hm
 have hil:i<q.length:=(List.getElem?_eq_some_iff.1 hi).1
 have:=degN_ge (q:=q) q.length i hil
 rw [gM_at hil] at hi
 injection hi with hi
 rwa [hi] at this
theorem zs_len {a b:List Int} (h:a.length=b.length):(zs a b).length=a.length:=by unfold zs;rw [List.length_zipWith];omega
theorem zs_sum:∀ {a b:List Int},a.length=b.length→(zs a b).sum=a.sum + b.sum
 | [],[],_=>rfl
 | x :: a,y :: b,h=>by
   have ih:=zs_sum (a:=a) (b:=b) (by simpa using h)
   unfold zs at ih ⊢
   simp only [List.zipWith_cons_cons,List.sum_cons,ih];omega
 | [],_ :: _,h=>by simp at h
 | _ :: _,[],h=>by simp at h
theorem zs_nn {a b:List Int} (ha:∀ x ∈ a,0≤x) (hb:∀ x ∈ b,0≤x):∀ x ∈ zs a b,0≤x:=fun x hx=>by
 unfold zs at hx
 obtain ⟨i,hi⟩:=List.getElem?_of_mem hx
 rw [List.getElem?_zipWith] at hi
 cases h1:a[i]? with
 | none=>rw [h1] at hi;simp at hi
 | some u =>
   cases h2:b[i]? with
   | none=>rw [h1,h2] at hi;simp at hi
   | some v =>
     rw [h1,h2] at hi
     simp only [Option.some.injEq] at hi
     have:=ha u (List.mem_of_getElem? h1)
     have:=hb v (List.mem_of_getElem? h2)
     omega
def moN (t:Te):Mo:=⟨nuOf t.v,t.e⟩
theorem teM_moN {t:Te}:teM (moN t)=t:=by unfold teM moN;simp only [val_nuOf]
theorem mulT_ok {a b:List Mo} {n:Int} (ha:polyB a n=true) (hb:polyB b n=true) (h8:0<a.length→0<b.length→degR a + degR b≤8) {t:Te} (ht:t ∈ mulT a b):(t.e.length:Int)=n∧(∀ x ∈ t.e,0≤x)∧t.e.sum≤8:=by
 obtain ⟨x,hx,y,hy,rfl⟩:=mulT_mem ht
 have h1:=polyB_ok ha x hx
 have h2:=polyB_ok hb y hy
 have h8:=h8 (List.length_pos_of_mem hx) (List.length_pos_of_mem hy)
 have hl:x.e.length=y.e.length:=by have:=h1.len;have:=h2.len;omega
 have g1:=degR_ge ha hx
 have g2:=degR_ge hb hy
 refine ⟨?_,zs_nn h1.nn h2.nn,?_⟩
 ·show ((zs x.e y.e).length:Int)=n
  rw [zs_len hl];exact h1.len
 ·show (zs x.e y.e).sum≤8
  rw [zs_sum hl];omega
theorem polyB_n {q:List Mo} {n:Int} (h:polyB q n=true):1≤n∧n≤4:=by
 unfold polyB at h
 simp only [Bool.and_eq_true,decide_eq_true_eq] at h
 exact ⟨h.1.1.1,h.1.1.2⟩
theorem pmkR_mul {a b:List Mo} {n:Int} (ha:polyB a n=true) (hb:polyB b n=true) (h8:0<a.length→0<b.length→degR a + degR b≤8) (hok:okT (mulT a b)=true):pmkR ((mulT a b).map moN) n=gathR (mulT a b):=by
 have hn:=polyB_n ha
 have hall:allM ((mulT a b).map moN) n=true:=decide_eq_true fun m hm=>by
  obtain ⟨t,ht,rfl⟩:=List.mem_map.1 hm
  have h:=mulT_ok ha hb h8 ht
  have ho:=of_decide_eq_true hok t ht
  unfold monoB
  rw [decide_eq_true (show (((moN t).e.length:Nat):Int)=n from h.1),decide_eq_true (show ∀ x ∈ (moN t).e,0≤x from h.2.1),decide_eq_true (show (moN t).e.sum≤8 from h.2.2),show (moN t).c=nuOf t.v from rfl,rightB_nuOf,decide_eq_true ho];rfl
 unfold pmkR
 rw [hall,decide_eq_true hn.1,decide_eq_true hn.2,List.map_map,show teM ∘ moN=id from funext fun t=>teM_moN,List.map_id];rfl
theorem wf_mul {a b:List Mo} {n:Int} (ha:polyB a n=true) (hb:polyB b n=true) (h8:0<a.length→0<b.length→degR a + degR b≤8) (hok:okT (mulT a b)=true):WfM ((mulT a b).map moN):=by
 have l1:=polyB_len ha
 have l2:=polyB_len hb
 have hn:=polyB_n ha
 have h3:a.length * b.length≤24 * 24:=Nat.mul_le_mul l1 l2
 refine ⟨by rw [List.length_map,mulT_len];omega,fun m hm=>?_⟩
 obtain ⟨t,ht,rfl⟩:=List.mem_map.1 hm
 have h:=mulT_ok ha hb h8 ht
 have ho:=of_decide_eq_true hok t ht
 exact ⟨ho.sz.wl,by show t.e.length≤100000;have:=h.1;omega⟩
end Go.V
namespace Go.V
open Go Go.RowKit Go.Proofs
theorem sum8_le {l:List Int} (h:∀ x ∈ l,0≤x) (h8:l.sum≤8):∀ k ∈ l,0≤k∧k≤8:=fun k hk=>by
 refine ⟨h k hk,?_⟩
 obtain ⟨i,hi⟩:=List.getElem?_of_mem hk
 have:=le_sum h i (List.getElem?_eq_some_iff.1 hi).1
 rw [List.getD,hi] at this
 simp only [Option.getD_some] at this
 omega
theorem RowD.coe2 {α:Type} {f:α→List G} {xs:List α} {k:Nm} {s:Nat} {S:Store} {dd:D} {x:G} {K:List D→Store→Prop} (h:RowD S k s dd (rS f xs)) (hk:∀ S',RowD S' k s dd (rS f xs)→Keep k S S'→K [.g (eS f xs),.g x] S'):coeDs [dd,.g x] S K:=by
 rw [coeDs_cons]
 exact h.coeD hk
set_option maxHeartbeats 4000000 in
theorem p_pMul {a c:List Mo} {n:Int} (ha:WfM a) (hc:WfM c):PC Tryz.prog 30 [MM a,MM c,i64 n] fun d=>d=LM (mulR a c n):=by
 have p1:=p_pRight (n:=n) ha
 have p2:=p_pRight (n:=n) hc
 unfold mulR
 cases h1:polyB a n with
 | false =>
   rw [h1] at p1
   unfold MM at *
   refine PB (rs:=[.tmp 6,.tmp 7]) Tryz.func30 ?_
   exact Wk
 | true =>
   cases h2:polyB c n with
   | false =>
     rw [h1] at p1
     rw [h2] at p2
     unfold MM at *
     refine PB (rs:=[.tmp 6,.tmp 7]) Tryz.func30 ?_
     exact Wk
   | true =>
     rw [h1] at p1
     rw [h2] at p2
     have pd1:=p_pDegree ha
     have pd2:=p_pDegree hc
     have hd1:=degR_le a
     have hd2:=degR_le c
     have pok1:=polyB_ok h1
     have pok2:=polyB_ok h2
     have han:=ha.n
     have hcn:=hc.n
     have hn:=polyB_n h1
     have l1:=polyB_len h1
     have l2:=polyB_len h2
     have hno:=fun (t:Te) (ht:t ∈ mulT a c)=>okT_no ht
     have hpm:=fun h8 hok=>p_pMake (q:=(mulT a c).map moN) (n:=n) (wf_mul h1 h2 h8 hok) (by rw [List.length_map,mulT_len];have h3:a.length * c.length≤24 * 24:=Nat.mul_le_mul l1 l2;omega)
     have hpr:=fun h8 hok=>pmkR_mul h1 h2 h8 hok
     simp only [Bool.and_self,if_true]
     generalize hres:(if (decide (0<a.length) && decide (0<c.length) && decide (8<degR a + degR c))=true then ([],6) else if okT (mulT a c)=true then gathR (mulT a c) else ([],2))=res
     have r6:0<a.length→0<c.length→8<degR a + degR c→res=([],6):=fun u v w=>by
      rw [← hres,decide_eq_true u,decide_eq_true v,decide_eq_true w];rfl
     have rn:(0<a.length→0<c.length→degR a + degR c≤8)→res=if okT (mulT a c)=true then gathR (mulT a c) else ([],2):=fun h8=>by
      have hif:(decide (0<a.length) && decide (0<c.length) && decide (8<degR a + degR c))=false:=by
       rcases Nat.eq_zero_or_pos a.length with h0|h0
       ·rw [h0];rfl
       ·rcases Nat.eq_zero_or_pos c.length with h3|h3
        ·rw [h3];simp
        ·rw [decide_eq_false (show ¬ 8<degR a + degR c by have:=h8 h0 h3;omega),Bool.and_false]
      rw [← hres,hif];rfl
     clear hres
     unfold MM at *
     refine PB (rs:=[.tmp 6,.tmp 7]) Tryz.func30 ?_
     repeat (first|with_reducible refine pv_stopB 0 ?_|(with_reducible first|refine pv_seq fun K hK=>?_|((first|refine hK _ _ ?_|(clear hK;refine hK _ _ ?_)|(clear hK;clear hK;refine hK _ _ ?_));clear hK;try clear K))| refine W ?_|exact Z|with_reducible intro b)
     refine ⟨fun K0 q0 hC=>?_⟩
     have J0:∀ (e:DEnv) (S:Store),e 0=.g (eS eM a)→e 1=.g (eS eM c)→e 2=i64 n→(0<a.length→0<c.length→degR a + degR c≤8)→K0 e S:=by
      intro e S g0 g1 g2 h8
      refine q0 _ _ ?_
      clear q0 hC
      have hpm:=hpm h8
      have hpr:=hpr h8
      have rn:=rn h8
      have ft:=And.intro g0 (And.intro g1 g2)
      repeat (first|(with_reducible first|refine pv_seq fun K hK=>?_|((first|refine hK _ _ ?_|(clear hK;refine hK _ _ ?_)|(clear hK;clear hK;refine hK _ _ ?_));clear hK;try clear K))| refine W0 ?_|exact Z|with_reducible intro b)
      have JF:∀ (e:DEnv) (S:Store),e 2=i64 n→okT (mulT a c)=true→RowZ S (.l 67) 4 (e 8) (rS eM ((mulT a c).map moN))→K e S:=by
       intro e S g2 hok hw
       have hpm:=hpm hok
       rw [hpr hok] at hpm
       rw [if_pos hok] at rn
       rw [← rn] at hpm
       clear rn hpr
       generalize (mulT a c).map moN=l at *
       obtain ⟨r,er⟩:=res
       unfold LM at *
       have ft:=g2
       repeat (first|(with_reducible first|refine pv_seq fun K hK=>?_|((first|refine hK _ _ ?_|(clear hK;refine hK _ _ ?_)|(clear hK;clear hK;refine hK _ _ ?_));clear hK;try clear K))| refine W0 ?_|exact Z|with_reducible intro b)
       refine PFC.coe (hw.toD.coe2 fun S' _ _=>?_)
       exact Wk
      have rno:∀ t ∈ mulT a c,¬ OkD t.v→res=([],2):=fun t ht hc=>by rw [rn,hno t ht hc];rfl
      clear rn hpm hpr hno hK
      obtain ⟨I,mk,el⟩:=hide fun e S=>∃ i:Nat,i≤a.length∧e 1=.g (eS eM c)∧e 2=i64 n∧e 43=.g (eS eM a)∧e 44=i64 a.length∧e 45=i64 i∧RowZ S (.l 67) 4 (e 8) (rS eM ((mulP a c i 0).map moN))∧∀ t ∈ mulP a c i 0,OkD t.v
      refine pv_loop I (fun e _=>a.length - (intD (e 45)).toNat) ?_ ?_
      ·have ft:=And.intro g0 (And.intro g2 g1)
       exact mk _ _ ⟨0,Nat.zero_le _,Zr,Zr,Zr,Zr,Zr,.inl ⟨Zr,rfl⟩,fun t ht=>by cases ht⟩
      ·intro e S hI
       obtain ⟨i,hi,g1,g2,g43,g44,g45,hw,hz⟩:=el e S hI
       clear el hI
       have hm0:(intD (e 45)).toNat=i:=by rw [g45];exact Int.toNat_natCast i
       have ft:=And.intro g1 (And.intro g2 (And.intro g43 (And.intro g44 g45)))
       repeat (first|(with_reducible first|refine pv_seq fun K hK=>?_|((first|refine hK _ _ ?_|(clear hK;refine hK _ _ ?_)|(clear hK;clear hK;refine hK _ _ ?_));clear hK;try clear K))| refine W0 ?_|exact Z|with_reducible intro b)
       refine pv_cdD (fun ht=>?_) (fun ht=>?_)
       ·have hil:i<a.length:=by omega
        have q1:=gM_at hil
        have ok1:=pok1 _ (gM_mem hil)
        have wa:=ha.w _ (gM_mem hil)
        have hma:=gM_mem hil
        have hrow:=mulP_row (b:=c) hil
        have mk2:∀ (e:DEnv) (S:Store),e 1=.g (eS eM c)→e 2=i64 n→e 43=.g (eS eM a)→e 44=i64 a.length→e 45=i64 ((i + 1:Nat):Int)→RowZ S (.l 67) 4 (e 8) (rS eM ((mulP a c i c.length).map moN))→(∀ t ∈ mulP a c i c.length,OkD t.v)→I e S:=fun e S a1 a2 a3 a4 a5 a6 a7=>mk _ _ ⟨i + 1,by omega,a1,a2,a3,a4,a5,by rw [hrow];exact a6,by rw [hrow];exact a7⟩
        have hmi:a.length - (i + 1)<a.length - i:=by omega
        clear mk JF hrow
        have htm:∀ y,tm (gM a i) y=⟨(gM a i).c.val * y.c.val,zs (gM a i).e y.e⟩:=fun y=>rfl
        obtain ⟨da,hda,hdc⟩:=right_is wa.c.b ok1.right
        have hva:(gM a i).c.val=da:=by rw [hdc,val_nuOf]
        have hs:=sum8_le ok1.nn ok1.sum
        have hlx:=ok1.len
        have hmul:=fun j (hj:j<c.length)=>mulP_step (a:=a) (i:=i) hj
        have hpl:=fun j (hj:j≤c.length)=>mulP_len (a:=a) (b:=c) (i:=i) hi hj
        have hib:i * c.length≤24 * 24:=Nat.mul_le_mul (by omega) l2
        generalize gM a i=m at *
        obtain ⟨⟨n1,e1,w1⟩,z⟩:=m
        simp only at *
        have ft:=And.intro g1 (And.intro g2 (And.intro g43 (And.intro g44 (And.intro g45 q1))))
        repeat (first|(with_reducible first|refine pv_seq fun K hK=>?_|((first|refine hK _ _ ?_|(clear hK;refine hK _ _ ?_)|(clear hK;clear hK;refine hK _ _ ?_));clear hK;try clear K))| refine W0 ?_|exact Z|with_reducible intro b)
        obtain ⟨I2,mk3,el2⟩:=hide fun e S=>∃ j:Nat,j≤c.length∧e 1=.g (eS eM c)∧e 2=i64 n∧e 10=.ptr (.l 10) b 0 0 4∧e 43=.g (eS eM a)∧e 44=i64 a.length∧e 45=i64 i∧e 49=.g (eS eM c)∧e 50=i64 c.length∧e 51=i64 j∧S (.l 10)=some ⟨b,4,0,[[bl n1,i64 e1,W64 w1,.g (eS eZ z)]]⟩∧RowZ S (.l 67) 4 (e 8) (rS eM ((mulP a c i j).map moN))∧∀ t ∈ mulP a c i j,OkD t.v
        refine pv_loop I2 (fun e _=>c.length - (intD (e 51)).toNat) ?_ ?_
        ·have hw:=hw.up (S':=updS S (.l 10) (some ⟨b,4,0,[[bl n1,i64 e1,W64 w1,.g (eS eZ z)]]⟩)) rfl
         exact mk3 _ _ ⟨0,Nat.zero_le _,Zr,Zr,Zr,Zr,Zr,Zr,Zr,Zr,Zr,rfl,hw,hz⟩
        ·clear hw hz
         intro e S hI
         obtain ⟨j,hj,g1,g2,g10,g43,g44,g45,g49,g50,g51,s10,hw,hz⟩:=el2 e S hI
         clear el2 hI
         have hm1:(intD (e 51)).toNat=j:=by rw [g51];exact Int.toNat_natCast j
         have ft:=And.intro g1 (And.intro g2 (And.intro g10 (And.intro g43 (And.intro g44 (And.intro g45 (And.intro g49 (And.intro g50 (And.intro g51 s10))))))))
         repeat (first|(with_reducible first|refine pv_seq fun K hK=>?_|((first|refine hK _ _ ?_|(clear hK;refine hK _ _ ?_)|(clear hK;clear hK;refine hK _ _ ?_));clear hK;try clear K))| refine W0 ?_|exact Z|with_reducible intro b)
         refine pv_cdD (fun ht=>?_) (fun ht=>?_)
         ·have hjl:j<c.length:=by omega
          have q2:=gM_at hjl
          have ok2:=pok2 _ (gM_mem hjl)
          have wc2:=hc.w _ (gM_mem hjl)
          have hmul:=hmul j hjl
          have hpl:=hpl j hj
          have hmc:=gM_mem hjl
          have mk4:∀ (e:DEnv) (S:Store),e 1=.g (eS eM c)→e 2=i64 n→e 10=.ptr (.l 10) b 0 0 4→e 43=.g (eS eM a)→e 44=i64 a.length→e 45=i64 i→e 49=.g (eS eM c)→e 50=i64 c.length→e 51=i64 ((j + 1:Nat):Int)→S (.l 10)=some ⟨b,4,0,[[bl n1,i64 e1,W64 w1,.g (eS eZ z)]]⟩ →
           RowZ S (.l 67) 4 (e 8) (rS eM ((mulP a c i (j + 1)).map moN))→(∀ t ∈ mulP a c i (j + 1),OkD t.v)→I2 e S:=fun e S a1 a2 a3 a4 a5 a6 a7 a8 a9 a10 a11 a12=>mk3 _ _ ⟨j + 1,by omega,a1,a2,a3,a4,a5,a6,a7,a8,a9,a10,a11,a12⟩
          clear mk3
          have hin:=rno _ (mulT_of hma hmc)
          rw [htm] at hmul hin
          obtain ⟨dc,hdd,hdc2⟩:=right_is wc2.c.b ok2.right
          have hvc:(gM c j).c.val=dc:=by rw [hdc2,val_nuOf]
          rw [hva,hvc] at hmul hin
          have hs2:=sum8_le ok2.nn ok2.sum
          have hly:=ok2.len
          have pP:=p_product (x:=z) (y:=(gM c j).e) hda hdd hs hs2 (by omega) (by omega) (by omega)
          rw [← hdc,← hdc2] at pP
          have hlen:((mulP a c i j).map moN).length=i * c.length + j:=by rw [List.length_map,hpl]
          have hap:(mulP a c i (j + 1)).map moN=(mulP a c i j).map moN ++ [⟨nuOf (da * dc),zs z (gM c j).e⟩]:=by rw [hmul,List.map_append];rfl
          have hzn:OkD (da * dc)→∀ t ∈ mulP a c i (j + 1),OkD t.v:=fun h t ht=>by
           rw [hmul] at ht
           rcases List.mem_append.1 ht with h1|h1
           ·exact hz t h1
           ·rw [List.mem_singleton.1 h1];exact h
          have hzs:=zs_len (a:=z) (b:=(gM c j).e) (by omega)
          clear hmul ok2 wc2 hmc
          generalize (mulP a c i (j + 1)).map moN=L2 at *
          generalize (mulP a c i j).map moN=L at *
          generalize zs z (gM c j).e=zz at *
          generalize gM c j=m2 at *
          obtain ⟨⟨n2,e2,w2⟩,z2⟩:=m2
          simp only at *
          by_cases hod:OkD (da * dc)
          ·rw [numR_ok hod] at pP
           have hzn:=hzn hod
           generalize nuOf (da * dc)=u at *
           obtain ⟨n3,e3,w3⟩:=u
           have hnew:=rS_m (l:=L) (m:=⟨⟨n3,e3,w3⟩,zz⟩)
           rw [← hap] at hnew
           simp only at hnew
           unfold MO at pP
           simp only at pP
           have ft:=And.intro g1 (And.intro g2 (And.intro g10 (And.intro g43 (And.intro g44 (And.intro g45 (And.intro g49 (And.intro g50 (And.intro g51 (And.intro s10 q2)))))))))
           repeat (first|(with_reducible first|refine pv_seq fun K hK=>?_|((first|refine hK _ _ ?_|(clear hK;refine hK _ _ ?_)|(clear hK;clear hK;refine hK _ _ ?_));clear hK;try clear K))| refine W ?_|exact Z|with_reducible intro b)
           refine RowZ.appL (hw.up (by simp only [updS_apply];rfl)) (by decide) rfl (by simp [D.one,W64]) ?_ ?_ fun d' S' hr' hS'=>?_
           ·rw [rS_len,hlen];simp;omega
           ·rw [rS_len,hlen];simp;omega
           repeat (first|(with_reducible first|refine pv_seq fun K hK=>?_|((first|refine hK _ _ ?_|(clear hK;refine hK _ _ ?_)|(clear hK;clear hK;refine hK _ _ ?_));clear hK;try clear K))| refine W0 ?_|exact Z|with_reducible intro b)
           exact ⟨mk4 _ _ Zr Zr Zr Zr Zr Zr Zr Zr Zr ((hS' _ (by decide)).trans (by simp only [updS_apply];exact s10)) (by rw [← hnew];exact hr') hzn,by simp only [intD];omega⟩
          ·have hr:=hin hod
           subst hr
           have hnn:numR (da * dc)=(nu0,2):=by unfold numR;rw [if_neg (show ¬ (nuOf (da * dc)).Ok from hod)]
           rw [hnn] at pP
           unfold MO nu0 at pP
           simp only at pP
           have ft:=And.intro g1 (And.intro g2 (And.intro g10 (And.intro g43 (And.intro g44 (And.intro g45 (And.intro g49 (And.intro g50 (And.intro g51 (And.intro q2 s10)))))))))
           exact Wk
         ·obtain rfl:j=c.length:=by omega
          have ft:=And.intro g1 (And.intro g2 (And.intro g43 (And.intro g44 (And.intro g45 (And.intro g49 (And.intro g50 (And.intro g51 (And.intro g10 s10))))))))
          repeat (first|(with_reducible first|refine pv_seq fun K hK=>?_|((first|refine hK _ _ ?_|(clear hK;refine hK _ _ ?_)|(clear hK;clear hK;refine hK _ _ ?_));clear hK;try clear K))| refine W0 ?_|exact Z|with_reducible intro b)
          exact ⟨mk2 _ _ Zr Zr Zr Zr Zr hw hz,by rw [hm0];simp only [intD];omega⟩
       ·obtain rfl:i=a.length:=by omega
        rw [mulP_all] at hw hz
        have ft:=And.intro g2 (And.intro g1 (And.intro g43 (And.intro g44 g45)))
        repeat (first|(with_reducible first|refine pv_seq fun K hK=>?_|((first|refine hK _ _ ?_|(clear hK;refine hK _ _ ?_)|(clear hK;clear hK;refine hK _ _ ?_));clear hK;try clear K))| refine W0 ?_|exact Z|with_reducible intro b)
        exact JF _ _ g2 (decide_eq_true hz) hw
     clear q0
     by_cases ha0:0<a.length
     ·have k1:((0:Int)<(a.length:Int))=True:=eq_true (by omega)
      by_cases hc0:0<c.length
      ·have k2:((0:Int)<(c.length:Int))=True:=eq_true (by omega)
       generalize degR a=da at *
       generalize degR c=dc at *
       by_cases h8:8<da + dc
       ·have k8:(8<da + dc)=True:=eq_true h8
        have hr:=r6 ha0 hc0 h8
        subst hr
        have ft:=And.intro k1 (And.intro k2 k8)
        exact Wk
       ·have k8:(8<da + dc)=False:=eq_false h8
        have ft:=And.intro k1 (And.intro k8 k2)
        repeat (first|(with_reducible first|refine pv_seq fun K hK=>?_|((first|refine hK _ _ ?_|(clear hK;refine hK _ _ ?_)|(clear hK;clear hK;refine hK _ _ ?_));clear hK;try clear K))| refine W ?_|exact Z|with_reducible intro b)
        exact J0 _ _ Zr Zr Zr (fun _ _=>by omega)
      ·have k2:((0:Int)<(c.length:Int))=False:=eq_false (by omega)
       have ft:=And.intro k1 k2
       repeat (first|(with_reducible first|refine pv_seq fun K hK=>?_|((first|refine hK _ _ ?_|(clear hK;refine hK _ _ ?_)|(clear hK;clear hK;refine hK _ _ ?_));clear hK;try clear K))| refine W ?_|exact Z|with_reducible intro b)
       exact J0 _ _ Zr Zr Zr (fun _ h=>absurd h hc0)
     ·have k1:((0:Int)<(a.length:Int))=False:=eq_false (by omega)
      have ft:=k1
      repeat (first|(with_reducible first|refine pv_seq fun K hK=>?_|((first|refine hK _ _ ?_|(clear hK;refine hK _ _ ?_)|(clear hK;clear hK;refine hK _ _ ?_));clear hK;try clear K))| refine W ?_|exact Z|with_reducible intro b)
      exact J0 _ _ Zr Zr Zr (fun h=>absurd h ha0)
end Go.V
namespace Go.V
open Go Go.RowKit Go.Proofs
def qQ14_65_12:PT:=(.lin [(0,0),(1,0),(2,0),(3,0),(4,2),(6,0),(7,0),(8,0),(9,0),(10,2)] (.mix [5,11,12] [13] (.lin [(14,3)] .nil)))
def qQ14_65_20:List (Nat × Nat):=[(0,0),(1,0),(2,0),(3,0),(4,0),(5,1),(6,0),(7,0),(8,1),(9,0),(10,0),(11,0),(12,0),(13,1),(14,0),(15,0),(16,1),(17,0),(18,3),(19,3),(20,0)]
attribute [go_sem] qQ14_65_12 qQ14_65_20
theorem zs_get {a b:List Int} {k:Nat} (ha:k<a.length) (hb:k<b.length):(zs a b)[k]? = some (a.getD k 0 + b.getD k 0):=by
 unfold zs
 rw [List.getElem?_zipWith,zget ha,zget hb]
theorem zs_take {a b:List Int} {k:Nat} (ha:k<a.length) (hb:k<b.length):(zs a b).take (k + 1)=(zs a b).take k ++ [a.getD k 0 + b.getD k 0]:=by
 rw [List.take_add_one,zs_get ha hb];rfl
theorem rS_z {l:List Int} {x:Int}:rS eZ l ++ [[i64 x]]=rS eZ (l ++ [x]):=by rw [← rS_app];rfl
set_option maxHeartbeats 4000000 in
theorem p_rPMul {a c:List Mo} {n:Int} (ha:WfM a) (hc:WfM c):PC Tryz.prog 65 [MM a,MM c,i64 n] fun d=>d=LM (mulR a c n):=by
 have p1:=p_rPRight (n:=n) ha
 have p2:=p_rPRight (n:=n) hc
 unfold mulR
 cases h1:polyB a n with
 | false =>
   rw [h1] at p1
   unfold MM at *
   have d1:=@dr 12 qQ14_65_12
   have d2:=@dl 20 qQ14_65_20
   refine PB (rs:=[.tmp 6,.tmp 7]) Tryz.func65 ?_
   exact Wk
 | true =>
   cases h2:polyB c n with
   | false =>
     rw [h1] at p1
     rw [h2] at p2
     unfold MM at *
     have d1:=@dr 12 qQ14_65_12
     have d2:=@dl 20 qQ14_65_20
     refine PB (rs:=[.tmp 6,.tmp 7]) Tryz.func65 ?_
     exact Wk
   | true =>
     rw [h1] at p1
     rw [h2] at p2
     have pd1:=p_rDegree ha
     have pd2:=p_rDegree hc
     have hd1:=degR_le a
     have hd2:=degR_le c
     have pok1:=polyB_ok h1
     have pok2:=polyB_ok h2
     have han:=ha.n
     have hcn:=hc.n
     have hn:=polyB_n h1
     have l1:=polyB_len h1
     have l2:=polyB_len h2
     have hno:=fun (t:Te) (ht:t ∈ mulT a c)=>okT_no ht
     have hte:=fun h8 (t:Te) (ht:t ∈ mulT a c)=>mulT_ok h1 h2 h8 ht
     have hpm:=fun (he:∀ t ∈ mulT a c,t.e.length≤100000) (hok:okT (mulT a c)=true)=>p_gather (l:=mulT a c) (M:=135168) (Q:=65536) (by rw [mulT_len];have h3:a.length * c.length≤24 * 24:=Nat.mul_le_mul l1 l2;omega) (fun t ht=>okD_sm (of_decide_eq_true hok t ht)) he (by rw [mulT_len];have h3:a.length * c.length≤24 * 24:=Nat.mul_le_mul l1 l2;omega)
     simp only [Bool.and_self,if_true]
     generalize hres:(if (decide (0<a.length) && decide (0<c.length) && decide (8<degR a + degR c))=true then ([],6) else if okT (mulT a c)=true then gathR (mulT a c) else ([],2))=res
     have r6:0<a.length→0<c.length→8<degR a + degR c→res=([],6):=fun u v w=>by
      rw [← hres,decide_eq_true u,decide_eq_true v,decide_eq_true w];rfl
     have rn:(0<a.length→0<c.length→degR a + degR c≤8)→res=if okT (mulT a c)=true then gathR (mulT a c) else ([],2):=fun h8=>by
      have hif:(decide (0<a.length) && decide (0<c.length) && decide (8<degR a + degR c))=false:=by
       rcases Nat.eq_zero_or_pos a.length with h0|h0
       ·rw [h0];rfl
       ·rcases Nat.eq_zero_or_pos c.length with h3|h3
        ·rw [h3];simp
        ·rw [decide_eq_false (show ¬ 8<degR a + degR c by have:=h8 h0 h3;omega),Bool.and_false]
      rw [← hres,hif];rfl
     clear hres
     unfold MM at *
     have d1:=@dr 12 qQ14_65_12
     have d2:=@dl 20 qQ14_65_20
     refine PB (rs:=[.tmp 6,.tmp 7]) Tryz.func65 ?_
     repeat (first|with_reducible refine pv_stop 3 ?_|(with_reducible first|refine pv_seq fun K hK=>?_|((first|refine hK _ _ ?_|(clear hK;refine hK _ _ ?_)|(clear hK;clear hK;refine hK _ _ ?_));clear hK;try clear K))| refine W ?_|exact Z|with_reducible intro b)
     have J0:∀ (e:DEnv) (S:Store),e 0=.g (eS eM a)→e 1=.g (eS eM c)→e 2=i64 n→(0<a.length→0<c.length→degR a + degR c≤8)→S (.l 11)=none→K e S:=by
      intro e S g0 g1 g2 h8 s11
      refine hK _ _ ?_
      clear hK
      have hpm:=hpm (fun t ht=>by have:=(hte h8 t ht).1;omega)
      have rn:=rn h8
      have ft:=And.intro g0 (And.intro g1 g2)
      repeat (first|(with_reducible first|refine pv_seq fun K hK=>?_|((first|refine hK _ _ ?_|(clear hK;refine hK _ _ ?_)|(clear hK;clear hK;refine hK _ _ ?_));clear hK;try clear K))| refine W0 ?_|exact Z|with_reducible intro b)
      have JF:∀ (e:DEnv) (S:Store),okT (mulT a c)=true→RowZ S (.l 104) 4 (e 8) (rS eT (mulT a c))→K e S:=by
       intro e S hok hw
       have hpm:=hpm hok
       rw [if_pos hok] at rn
       rw [← rn] at hpm
       clear rn
       generalize mulT a c=l at *
       obtain ⟨r,er⟩:=res
       unfold LM TT at *
       have ft:=true_and
       repeat (first|(with_reducible first|refine pv_seq fun K hK=>?_|((first|refine hK _ _ ?_|(clear hK;refine hK _ _ ?_)|(clear hK;clear hK;refine hK _ _ ?_));clear hK;try clear K))| refine W0 ?_|exact Z|with_reducible intro b)
       refine PFC.coe (hw.toD.coe1 fun S' _ _=>?_)
       exact Wk
      have rno:∀ t ∈ mulT a c,¬ OkD t.v→res=([],2):=fun t ht hb=>by rw [rn,hno t ht hb];rfl
      clear rn hpm hno hK
      obtain ⟨I,mk,el⟩:=hide fun e S=>∃ i:Nat,i≤a.length∧e 0=.g (eS eM a)∧e 1=.g (eS eM c)∧e 2=i64 n∧e 9=i64 i∧S (.l 11)=none∧RowZ S (.l 104) 4 (e 8) (rS eT (mulP a c i 0))∧∀ t ∈ mulP a c i 0,OkD t.v
      refine pv_loop I (fun e _=>a.length - (intD (e 9)).toNat) ?_ ?_
      ·have ft:=And.intro g0 (And.intro g2 g1)
       exact mk _ _ ⟨0,Nat.zero_le _,Zr,Zr,Zr,Zr,s11,.inl ⟨Zr,rfl⟩,fun t ht=>by cases ht⟩
      ·intro e S hI
       obtain ⟨i,hi,g0,g1,g2,g9,s11,hw,hz⟩:=el e S hI
       clear el hI
       have hm0:(intD (e 9)).toNat=i:=by rw [g9];exact Int.toNat_natCast i
       have ft:=And.intro g0 (And.intro g1 (And.intro g2 g9))
       repeat (first|(with_reducible first|refine pv_seq fun K hK=>?_|((first|refine hK _ _ ?_|(clear hK;refine hK _ _ ?_)|(clear hK;clear hK;refine hK _ _ ?_));clear hK;try clear K))| refine W0 ?_|exact Z|with_reducible intro b)
       refine pv_cdD (fun ht=>?_) (fun ht=>?_)
       ·have hil:i<a.length:=by omega
        have q1:=gM_at hil
        have ok1:=pok1 _ (gM_mem hil)
        have wa:=ha.w _ (gM_mem hil)
        have hma:=gM_mem hil
        have hrow:=mulP_row (b:=c) hil
        have mk2:∀ (e:DEnv) (S:Store),e 0=.g (eS eM a)→e 1=.g (eS eM c)→e 2=i64 n→e 9=i64 ((i + 1:Nat):Int)→S (.l 11)=none→RowZ S (.l 104) 4 (e 8) (rS eT (mulP a c i c.length))→(∀ t ∈ mulP a c i c.length,OkD t.v)→I e S:=fun e S a1 a2 a3 a5 a8 a6 a7=>mk _ _ ⟨i + 1,by omega,a1,a2,a3,a5,a8,by rw [hrow];exact a6,by rw [hrow];exact a7⟩
        have hmi:a.length - (i + 1)<a.length - i:=by omega
        clear mk JF hrow
        have htm:∀ y,tm (gM a i) y=⟨(gM a i).c.val * y.c.val,zs (gM a i).e y.e⟩:=fun y=>rfl
        obtain ⟨da,hda,hdc⟩:=right_is wa.c.b ok1.right
        have hva:(gM a i).c.val=da:=by rw [hdc,val_nuOf]
        have hs:=sum8_le ok1.nn ok1.sum
        have hlx:=ok1.len
        have pOa:=p_rOf hda
        rw [← hdc] at pOa
        have hmul:=fun j (hj:j<c.length)=>mulP_step (a:=a) (i:=i) hj
        have hpl:=fun j (hj:j≤c.length)=>mulP_len (a:=a) (b:=c) (i:=i) hi hj
        have hib:i * c.length≤24 * 24:=Nat.mul_le_mul (by omega) l2
        generalize gM a i=m at *
        obtain ⟨⟨n1,e1,w1⟩,z⟩:=m
        simp only at *
        have ft:=And.intro g0 (And.intro g1 (And.intro g2 (And.intro g9 q1)))
        repeat (first|(with_reducible first|refine pv_seq fun K hK=>?_|((first|refine hK _ _ ?_|(clear hK;refine hK _ _ ?_)|(clear hK;clear hK;refine hK _ _ ?_));clear hK;try clear K))| refine W0 ?_|exact Z|with_reducible intro b)
        obtain ⟨I2,mk3,el2⟩:=hide fun e S=>∃ j:Nat,j≤c.length∧e 0=.g (eS eM a)∧e 1=.g (eS eM c)∧e 2=i64 n∧e 9=i64 i∧e 10=i64 j∧S (.l 11)=none∧RowZ S (.l 104) 4 (e 8) (rS eT (mulP a c i j))∧∀ t ∈ mulP a c i j,OkD t.v
        refine pv_loop I2 (fun e _=>c.length - (intD (e 10)).toNat) ?_ ?_
        ·exact mk3 _ _ ⟨0,Nat.zero_le _,Zr,Zr,Zr,Zr,Zr,s11,hw,hz⟩
        ·clear hw hz
         intro e S hI
         obtain ⟨j,hj,g0,g1,g2,g9,g10,s11,hw,hz⟩:=el2 e S hI
         clear el2 hI
         have hm1:(intD (e 10)).toNat=j:=by rw [g10];exact Int.toNat_natCast j
         have ft:=And.intro g0 (And.intro g1 (And.intro g2 (And.intro g9 g10)))
         repeat (first|(with_reducible first|refine pv_seq fun K hK=>?_|((first|refine hK _ _ ?_|(clear hK;refine hK _ _ ?_)|(clear hK;clear hK;refine hK _ _ ?_));clear hK;try clear K))| refine W0 ?_|exact Z|with_reducible intro b)
         refine pv_cdD (fun ht=>?_) (fun ht=>?_)
         ·have hjl:j<c.length:=by omega
          have q2:=gM_at hjl
          have ok2:=pok2 _ (gM_mem hjl)
          have wc2:=hc.w _ (gM_mem hjl)
          have hmul:=hmul j hjl
          have hpl:=hpl j hj
          have hmc:=gM_mem hjl
          have mk4:∀ (e:DEnv) (S:Store),e 0=.g (eS eM a)→e 1=.g (eS eM c)→e 2=i64 n→e 9=i64 i→e 10=i64 ((j + 1:Nat):Int)→S (.l 11)=none →
           RowZ S (.l 104) 4 (e 8) (rS eT (mulP a c i (j + 1)))→(∀ t ∈ mulP a c i (j + 1),OkD t.v)→I2 e S:=fun e S a1 a2 a3 a4 a5 a8 a6 a7=>mk3 _ _ ⟨j + 1,by omega,a1,a2,a3,a4,a5,a8,a6,a7⟩
          clear mk3
          have hin:=rno _ (mulT_of hma hmc)
          rw [htm] at hmul hin
          obtain ⟨dc,hdd,hdc2⟩:=right_is wc2.c.b ok2.right
          have hvc:(gM c j).c.val=dc:=by rw [hdc2,val_nuOf]
          rw [hva,hvc] at hmul hin
          have hs2:=sum8_le ok2.nn ok2.sum
          have hly:=ok2.len
          have pOc:=p_rOf hdd
          rw [← hdc2] at pOc
          have pB:=p_rBy (hda.bd) (hdd.bd) (by decide)
          have pN:=p_rNum (d:=da * dc) (hda.bd.mul hdd.bd) (by decide)
          have hlen:(mulP a c i j).length=i * c.length + j:=hpl
          have hzn:OkD (da * dc)→∀ t ∈ mulP a c i (j + 1),OkD t.v:=fun h t ht=>by
           rw [hmul] at ht
           rcases List.mem_append.1 ht with h1|h1
           ·exact hz t h1
           ·rw [List.mem_singleton.1 h1];exact h
          have hly2:z.length=(gM c j).e.length:=by omega
          have hzs:=zs_len hly2
          have hzt:=fun k (hk:k<z.length)=>zs_take (k:=k) hk (by omega:k<(gM c j).e.length)
          have hx9:=fun k (hk:k<z.length)=>hs _ (List.mem_of_getElem? (zget hk))
          have hy9:=fun k (hk:k<(gM c j).e.length)=>hs2 _ (List.mem_of_getElem? (zget hk))
          clear ok2 wc2 hmc hs hs2
          generalize hz3:zs z (gM c j).e=zz at *
          have hnew:=rS_t (l:=mulP a c i j) (t:=⟨da * dc,zz⟩)
          rw [← hmul] at hnew
          clear hmul
          generalize mulP a c i (j + 1)=L2 at *
          generalize mulP a c i j=L at *
          generalize gM c j=m2 at *
          obtain ⟨⟨n2,e2,w2⟩,z2⟩:=m2
          simp only at *
          clear hz3
          unfold NU VA at pOa pOc
          unfold VA at pB pN
          simp only at pOa pOc
          have ft:=And.intro g0 (And.intro g1 (And.intro g2 (And.intro g9 (And.intro s11 g10))))
          repeat (first|with_reducible refine pv_stopB 3 ?_|(with_reducible first|refine pv_seq fun K hK=>?_|((first|refine hK _ _ ?_|(clear hK;refine hK _ _ ?_)|(clear hK;clear hK;refine hK _ _ ?_));clear hK;try clear K))| refine W ?_|exact Z|with_reducible intro b)
          refine ⟨fun K0 q0 hC=>?_⟩
          by_cases hod:OkD (da * dc)
          ·rw [numR_ok hod] at pN
           generalize da * dc=v at *
           generalize nuOf v=u at *
           obtain ⟨n3,e3,w3⟩:=u
           unfold NE NU at pN
           have ft:=And.intro g0 (And.intro g1 (And.intro g2 (And.intro g9 (And.intro g10 (And.intro q1 (And.intro q2 s11))))))
           repeat (first|(with_reducible first|refine pv_seq fun K hK=>?_|((first|refine hK _ _ ?_|(clear hK;refine hK _ _ ?_)|(clear hK;clear hK;refine hK _ _ ?_));clear hK;try clear K))| refine W ?_|exact Z|with_reducible intro b)
           obtain ⟨I3,mk5,el3⟩:=hide fun e S=>∃ k b:Nat,k≤z.length∧e 0=.g (eS eM a)∧e 1=.g (eS eM c)∧e 2=i64 n∧e 9=i64 i∧e 10=i64 j∧e 11=.ptr (.l 11) b 0 0 3∧e 15=i64 k∧S (.l 11)=some ⟨b,3,0,[[bl (fS v),W32 (D32 (fN v)),i64 (fE v)]]⟩∧RowZ S (.l 98) 1 (e 14) (rS eZ (zz.take k))∧RowZ S (.l 104) 4 (e 8) (rS eT L)
           refine pv_loop I3 (fun e _=>z.length - (intD (e 15)).toNat) ?_ ?_
           ·exact mk5 _ _ ⟨0,_,Nat.zero_le _,Zr,Zr,Zr,Zr,Zr,rfl,Zr,by simp only [updS_apply];rfl,.inl ⟨Zr,rfl⟩,hw.up (by simp only [updS_apply];rfl)⟩
           ·clear hw
            intro e S hI
            obtain ⟨k,b',hk,g0,g1,g2,g9,g10,g11,g15,s11,hr,hw⟩:=el3 e S hI
            clear el3 hI
            have ft:=And.intro g0 (And.intro g1 (And.intro g2 (And.intro g9 (And.intro g10 (And.intro g11 (And.intro g15 s11))))))
            repeat (first|(with_reducible first|refine pv_seq fun K hK=>?_|((first|refine hK _ _ ?_|(clear hK;refine hK _ _ ?_)|(clear hK;clear hK;refine hK _ _ ?_));clear hK;try clear K))| refine W0 ?_|exact Z|with_reducible intro b)
            refine pv_cdD (fun ht=>?_) (fun ht=>?_)
            ·have hkl:k<z.length:=by omega
             have q3:=zget hkl
             have q4:=zget (l:=z2) (i:=k) (by omega)
             have b3:=hx9 k hkl
             have b4:=hy9 k (by omega)
             have hzt:=hzt k hkl
             have hnr:=rS_z (l:=zz.take k) (x:=z.getD k 0 + z2.getD k 0)
             rw [← hzt] at hnr
             have htl:(zz.take k).length=k:=by rw [List.length_take];omega
             generalize zz.take k=zk at *
             generalize z.getD k 0=xk at *
             generalize z2.getD k 0=yk at *
             have ft:=And.intro g0 (And.intro g1 (And.intro g2 (And.intro g9 (And.intro g10 (And.intro g11 (And.intro g15 (And.intro s11 (And.intro q1 (And.intro q2 (And.intro q3 q4))))))))))
             repeat (first|(with_reducible first|refine pv_seq fun K hK=>?_|((first|refine hK _ _ ?_|(clear hK;refine hK _ _ ?_)|(clear hK;clear hK;refine hK _ _ ?_));clear hK;try clear K))| refine W0 ?_|exact Z|with_reducible intro b)
             refine RowZ.appL (hr.up (by simp only [updS_apply]<;>rfl)) (by decide) rfl (by simp [D.one]) ?_ ?_ fun d' S' hr' hS'=>?_
             ·rw [rS_len,htl];(try simp only [List.length_cons,List.length_nil]);(try omega)
             ·rw [rS_len,htl];(try simp only [List.length_cons,List.length_nil]);(try omega)
             repeat (first|(with_reducible first|refine pv_seq fun K hK=>?_|((first|refine hK _ _ ?_|(clear hK;refine hK _ _ ?_)|(clear hK;clear hK;refine hK _ _ ?_));clear hK;try clear K))| refine W0 ?_|exact Z|with_reducible intro b)
             exact ⟨mk5 _ _ ⟨k + 1,b',by omega,Zr,Zr,Zr,Zr,Zr,Zr,Zr,(hS' _ (by decide)).trans (by simp only [updS_apply];exact s11),by rw [← hnr];exact hr',hw.up ((hS' _ (by decide)).trans (by simp only [updS_apply];rfl))⟩,by simp only [intD];omega⟩
            ·obtain rfl:k=z.length:=by omega
             rw [← hzs,List.take_length] at hr
             have hzp:zz≠[]:=fun h=>by rw [h] at hzs;simp at hzs;omega
             rcases hr with ⟨_,h0⟩|⟨b14,cap14,g14,s98⟩
             ·exact absurd (List.eq_nil_of_length_eq_zero (by have:=congrArg List.length h0;rwa [rS_len] at this)) hzp
             ·rw [rS_len] at g14
              have ft:=And.intro g0 (And.intro g1 (And.intro g2 (And.intro g9 (And.intro g10 (And.intro g11 (And.intro g14 (And.intro g15 (And.intro s11 s98))))))))
              repeat (first|(with_reducible first|refine pv_seq fun K hK=>?_|((first|refine hK _ _ ?_|(clear hK;refine hK _ _ ?_)|(clear hK;clear hK;refine hK _ _ ?_));clear hK;try clear K))| refine W0 ?_|exact Z|with_reducible intro b)
              refine RowZ.appL (hw.up (by simp only [updS_apply]<;>rfl)) (by decide) rfl (by simp [D.one,W32]) ?_ ?_ fun d' S' hr' hS'=>?_
              ·rw [rS_len,hlen];simp;omega
              ·rw [rS_len,hlen];simp;omega
              repeat (first|(with_reducible first|refine pv_seq fun K hK=>?_|((first|refine hK _ _ ?_|(clear hK;refine hK _ _ ?_)|(clear hK;clear hK;refine hK _ _ ?_));clear hK;try clear K))| refine W0 ?_|exact Z|with_reducible intro b)
              have s98':=(hS' (.l 98) (by decide)).trans (by simp only [updS_apply];exact s98)
              have s11':=(hS' (.l 11) (by decide)).trans (by simp only [updS_apply];exact s11)
              refine hC _ _ (Recast.join (RowZ.frz (N:=Recast K0) (k3:=.l 98) 3 hr' rfl (by decide) s98' (gs:=zz.map eZ) (by rw [List.drop_zero,List.take_of_length_le (by rw [rS_len];exact Nat.le_refl _)];exact pureLL_rS) (by rw [rS_len];omega) fun S2 hz2 hf hg2=>Recast.move (.l 11) (.r 7 7) (by decide) ?_))
              refine q0 _ _ ?_
              clear q0 hC
              have hw2:=hz2.up (S':=updS (updS S2 (.l 11) none) (.r 7 7) (S2 (.l 11))) (by simp only [updS_apply];rfl)
              have ft:=And.intro g0 (And.intro g1 (And.intro g2 (And.intro g9 (And.intro g10 g15))))
              repeat (first|(with_reducible first|refine pv_seq fun K hK=>?_|((first|refine hK _ _ ?_|(clear hK;refine hK _ _ ?_)|(clear hK;clear hK;refine hK _ _ ?_));clear hK;try clear K))| refine W0 ?_|exact Z|with_reducible intro b)
              exact ⟨mk4 _ _ Zr Zr Zr Zr Zr rfl (by rw [← hnew];exact hw2) (hzn hod),by simp only [intD];omega⟩
          ·have hr:=hin hod
           subst hr
           have hnn:numR (da * dc)=(nu0,2):=by unfold numR;rw [if_neg (show ¬ (nuOf (da * dc)).Ok from hod)]
           rw [hnn] at pN
           unfold NE nu0 NU at pN
           generalize da * dc=v at *
           have ft:=And.intro g0 (And.intro g1 (And.intro g2 (And.intro g9 (And.intro g10 (And.intro q2 (And.intro q1 s11))))))
           exact Wk
         ·obtain rfl:j=c.length:=by omega
          have ft:=And.intro g0 (And.intro g1 (And.intro g2 (And.intro g10 g9)))
          repeat (first|(with_reducible first|refine pv_seq fun K hK=>?_|((first|refine hK _ _ ?_|(clear hK;refine hK _ _ ?_)|(clear hK;clear hK;refine hK _ _ ?_));clear hK;try clear K))| refine W0 ?_|exact Z|with_reducible intro b)
          exact ⟨mk2 _ _ Zr Zr Zr Zr s11 hw hz,by rw [hm0];simp only [intD];omega⟩
       ·obtain rfl:i=a.length:=by omega
        rw [mulP_all] at hw hz
        have ft:=And.intro g2 (And.intro g1 (And.intro g0 g9))
        repeat (first|(with_reducible first|refine pv_seq fun K hK=>?_|((first|refine hK _ _ ?_|(clear hK;refine hK _ _ ?_)|(clear hK;clear hK;refine hK _ _ ?_));clear hK;try clear K))| refine W0 ?_|exact Z|with_reducible intro b)
        exact JF _ _ (decide_eq_true hz) hw
     clear hK
     refine ⟨fun K0 q0 hC=>?_⟩
     by_cases ha0:0<a.length
     ·have k1:((0:Int)<(a.length:Int))=True:=eq_true (by omega)
      by_cases hc0:0<c.length
      ·have k2:((0:Int)<(c.length:Int))=True:=eq_true (by omega)
       generalize degR a=da at *
       generalize degR c=dc at *
       by_cases h8:8<da + dc
       ·have k8:(8<da + dc)=True:=eq_true h8
        have hr:=r6 ha0 hc0 h8
        subst hr
        have ft:=And.intro k1 (And.intro k2 k8)
        repeat (first|(with_reducible first|refine pv_seq fun K hK=>?_|((first|refine hK _ _ ?_|(clear hK;refine hK _ _ ?_)|(clear hK;clear hK;refine hK _ _ ?_));clear hK;try clear K))| refine W ?_|exact Z|with_reducible intro b)
        refine q0 _ _ ?_
        clear q0 hC
        exact Wk
       ·have k8:(8<da + dc)=False:=eq_false h8
        have ft:=And.intro k1 (And.intro k8 k2)
        repeat (first|(with_reducible first|refine pv_seq fun K hK=>?_|((first|refine hK _ _ ?_|(clear hK;refine hK _ _ ?_)|(clear hK;clear hK;refine hK _ _ ?_));clear hK;try clear K))| refine W ?_|exact Z|with_reducible intro b)
        refine q0 _ _ ?_
        clear q0 hC
        repeat (first|(with_reducible first|refine pv_seq fun K hK=>?_|((first|refine hK _ _ ?_|(clear hK;refine hK _ _ ?_)|(clear hK;clear hK;refine hK _ _ ?_));clear hK;try clear K))| refine W0 ?_|exact Z|with_reducible intro b)
        exact J0 _ _ Zr Zr Zr (fun _ _=>by omega) rfl
      ·have k2:((0:Int)<(c.length:Int))=False:=eq_false (by omega)
       have ft:=And.intro k1 k2
       repeat (first|(with_reducible first|refine pv_seq fun K hK=>?_|((first|refine hK _ _ ?_|(clear hK;refine hK _ _ ?_)|(clear hK;clear hK;refine hK _ _ ?_));clear hK;try clear K))| refine W0 ?_|exact Z|with_reducible intro b)
       refine q0 _ _ ?_
       clear q0 hC
       repeat (first|(with_reducible first|refine pv_seq fun K hK=>?_|((first|refine hK _ _ ?_|(clear hK;refine hK _ _ ?_)|(clear hK;clear hK;refine hK _ _ ?_));clear hK;try clear K))| refine W0 ?_|exact Z|with_reducible intro b)
       exact J0 _ _ Zr Zr Zr (fun _ h=>absurd h hc0) rfl
     ·have k1:((0:Int)<(a.length:Int))=False:=eq_false (by omega)
      have ft:=k1
      repeat (first|(with_reducible first|refine pv_seq fun K hK=>?_|((first|refine hK _ _ ?_|(clear hK;refine hK _ _ ?_)|(clear hK;clear hK;refine hK _ _ ?_));clear hK;try clear K))| refine W0 ?_|exact Z|with_reducible intro b)
      refine q0 _ _ ?_
      clear q0 hC
      repeat (first|(with_reducible first|refine pv_seq fun K hK=>?_|((first|refine hK _ _ ?_|(clear hK;refine hK _ _ ?_)|(clear hK;clear hK;refine hK _ _ ?_));clear hK;try clear K))| refine W0 ?_|exact Z|with_reducible intro b)
      exact J0 _ _ Zr Zr Zr (fun h=>absurd h ha0) rfl
end Go.V
namespace Go.V
open Go Go.RowKit Go.Proofs
def wD (k:Int):Dyadic:=dy (decide (k<0)) k.natAbs 0
def dec (e:List Int) (i:Nat):List Int:=e.set i (e.getD i 0 - 1)
def td (i:Nat) (m:Mo):Te:=⟨m.c.val * wD (m.e.getD i 0),dec m.e i⟩
def difP (q:List Mo) (i k:Nat):List Te:=((q.take k).filter fun m=>decide (m.e.getD i 0≠0)).map (td i)
def difT (q:List Mo) (i:Nat):List Te:=(q.filter fun m=>decide (m.e.getD i 0≠0)).map (td i)
theorem difP_all {q:List Mo} {i:Nat}:difP q i q.length=difT q i:=by unfold difP difT;rw [List.take_length]
theorem difP_step {q:List Mo} {i k:Nat} (hk:k<q.length):difP q i (k + 1)=if (gM q k).e.getD i 0=0 then difP q i k else difP q i k ++ [td i (gM q k)]:=by
 unfold difP
 rw [List.take_add_one,gM_at hk,List.filter_append,List.map_append]
 by_cases h:(gM q k).e.getD i 0=0
 ·rw [if_pos h];simp only [Option.toList_some,List.filter_cons,List.filter_nil,h,ne_eq,not_true_eq_false,decide_false,Bool.false_eq_true,if_false,List.map_nil,List.append_nil]
 ·rw [if_neg h];simp only [Option.toList_some,List.filter_cons,List.filter_nil,h,ne_eq,not_false_eq_true,decide_true,if_true,List.map_cons,List.map_nil]
theorem difP_len {q:List Mo} {i k:Nat}:(difP q i k).length≤k:=by
 unfold difP
 rw [List.length_map]
 exact Nat.le_trans (List.length_filter_le _ _) (by rw [List.length_take];omega)
theorem difT_len {q:List Mo} {i:Nat}:(difT q i).length≤q.length:=by rw [← difP_all];exact difP_len
def difR (q:List Mo) (i n:Int):List Mo × Int:=if polyB q n && decide (0≤i) && decide (i<n) then gathR (difT q i.toNat) else ([],1)
theorem cmpE_dec:∀ (a b:List Int) (i:Nat),i<a.length→i<b.length→cmpE (dec a i) (dec b i)=cmpE a b
 | [],b,i,h,_=>by simp at h
 | x :: a,[],i,_,h=>by simp at h
 | x :: a,y :: b,0,_,_=>by
   show cmpE ((x - 1) :: a) ((y - 1) :: b)=_
   unfold cmpE
   by_cases h1:x<y
   ·rw [if_pos h1,if_pos (by omega)]
   ·rw [if_neg h1,if_neg (by omega)]
    by_cases h2:y<x
    ·rw [if_pos h2,if_pos (by omega)]
    ·rw [if_neg h2,if_neg (by omega)]
 | x :: a,y :: b,i + 1,ha,hb=>by
   have ih:=cmpE_dec a b i (by simpa using ha) (by simpa using hb)
   show cmpE (x :: dec a i) (y :: dec b i)=_
   unfold cmpE
   rw [ih]
theorem polyB_ord {q:List Mo} {n:Int} (h:polyB q n=true):q.Pairwise fun a b=>cmpE b.e a.e<0:=by
 unfold polyB at h
 simp only [Bool.and_eq_true] at h
 have h2:=of_decide_eq_true h.2
 have step:∀ j,j + 1<q.length→cmpE (gM q (j + 1)).e (gM q j).e<0:=fun j hj=>(h2 (j + 1) hj).2.2 (by omega)
 have all:∀ d i,i + (d + 1)<q.length→cmpE (gM q (i + (d + 1))).e (gM q i).e<0:=by
  intro d
  induction d with
  | zero=>exact fun i hi=>step i hi
  | succ d ih=>exact fun i hi=>cmpE_trans (step (i + (d + 1)) hi) (ih i (by omega))
 refine List.pairwise_iff_getElem.2 fun i j hi hj hij=>?_
 have:=all (j - i - 1) i (by omega)
 rw [show i + (j - i - 1 + 1)=j by omega] at this
 have e1:=gM_at hi
 have e2:=gM_at hj
 rw [List.getElem?_eq_getElem hi] at e1
 rw [List.getElem?_eq_getElem hj] at e2
 injection e1 with e1
 injection e2 with e2
 rw [e1,e2];exact this
theorem polyB_w {q:List Mo} {n:Int} (h:polyB q n=true):∀ m ∈ q,m.c.w≠[]:=fun m hm=>by
 unfold polyB at h
 simp only [Bool.and_eq_true] at h
 have h2:=of_decide_eq_true h.2
 obtain ⟨i,hi⟩:=List.getElem?_of_mem hm
 have hil:i<q.length:=(List.getElem?_eq_some_iff.1 hi).1
 have:=(h2 i hil).2.1
 rw [gM_at hil] at hi
 injection hi with hi
 rwa [hi] at this
theorem gathN_one {n:Nat} {l:List Te} (hl:∀ t ∈ l,t.e.length=n) (hd:l.Pairwise fun a b=>a.e≠b.e):∀ i,i≤l.length→(l.take i).Perm (gathN l i)
 | 0,_=>by rw [List.take_zero];exact List.Perm.refl _
 | i + 1,hi=>by
   have ih:=gathN_one hl hd i (by omega)
   have hil:i<l.length:=by omega
   rw [List.take_add_one,gT_at hil]
   refine acc_miss ih (gathN_sort hl i (by omega)) (hl _ (gT_mem hil)) fun x hx he=>?_
   obtain ⟨j,hj⟩:=List.getElem?_of_mem hx
   have hj2:j<i:=by
    have:=(List.getElem?_eq_some_iff.1 hj).1
    rw [List.length_take] at this;omega
   rw [List.getElem?_take,if_pos hj2,List.getElem?_eq_getElem (by omega)] at hj
   injection hj with hj
   have e:=gT_at hil
   rw [List.getElem?_eq_getElem hil] at e
   injection e with e
   have:=List.pairwise_iff_getElem.1 hd j i (by omega) hil hj2
   rw [hj,e] at this
   exact this he
theorem gathR_one {n:Nat} {l:List Te} (hl:∀ t ∈ l,t.e.length=n) (hd:l.Pairwise fun a b=>cmpE b.e a.e<0) (h0:∀ t ∈ l,t.v≠0) (h24:l.length≤24):gathR l=if okT l=true then (l.map moN,0) else ([],2):=by
 have hne:l.Pairwise fun a b=>a.e≠b.e:=hd.imp fun {a b} h he=>by rw [he,cmpE_self] at h;exact absurd h (by decide)
 have hp:=gathN_one hl hne l.length (Nat.le_refl _)
 rw [List.take_length] at hp
 cases hok:okT l with
 | false =>
   rw [if_neg (by decide)]
   have:=of_decide_eq_false hok
   simp only [Classical.not_forall] at this
   obtain ⟨t,ht,hb⟩:=this
   exact gathR_bad hp ht hb
 | true =>
   rw [if_pos rfl]
   have hout:outM l=l.map moN:=by
    unfold outM
    rw [List.filter_eq_self.2 (fun t ht=>decide_eq_true (h0 t ht))];rfl
   refine gathR_sorted hl hp (of_decide_eq_true hok) (by rw [hout,List.length_map];exact h24) (by rw [hout]) ?_
   refine List.Pairwise.map _ (fun a b h=>?_) hd
   show ¬ cmpE a.e b.e<0
   rw [cmpE_neg];omega
theorem dy_mul_ne {a b:Dyadic} (ha:a≠0) (hb:b≠0):a * b≠0:=by
 rw [← dy_f a,← dy_f b,dy_mul]
 intro h
 have h:=dy_zero.1 h
 rcases Nat.mul_eq_zero.1 h with h1|h1
 ·exact ha (by rw [← dy_f a,h1,dy0])
 ·exact hb (by rw [← dy_f b,h1,dy0])
theorem wD_ne {k:Int} (h:k≠0):wD k≠0:=fun h0=>h (by have:=dy_zero.1 h0;omega)
theorem dec_len {e:List Int} {i:Nat}:(dec e i).length=e.length:=List.length_set
theorem mo_ne {m:Mo} (hb:B64 m.c.w) (hr:rightB m.c=true) (hw:m.c.w≠[]):m.c.val≠0:=fun h=>by
 obtain ⟨d,hd,hc⟩:=right_is hb hr
 rw [hc,val_nuOf] at h
 rw [hc,h,nuOf_zero] at hw
 exact hw rfl
theorem difR_is {q:List Mo} {n:Int} {i:Nat} (hw:WfM q) (hq:polyB q n=true) (hi:(i:Int)<n):gathR (difT q i)=if okT (difT q i)=true then ((difT q i).map moN,0) else ([],2):=by
 have hok:=polyB_ok hq
 have hwn:=polyB_w hq
 have hlen:=polyB_len hq
 have hl2:∀ m ∈ q,m.e.length=n.toNat:=fun m hm=>by have:=(hok m hm).len;omega
 refine gathR_one (n:=n.toNat) (fun t ht=>?_) ?_ (fun t ht=>?_) (Nat.le_trans difT_len hlen)
 ·obtain ⟨m,hm,rfl⟩:=List.mem_map.1 ht
  show (dec m.e i).length=_
  rw [dec_len];exact hl2 m (List.mem_filter.1 hm).1
 ·unfold difT
  refine List.Pairwise.map _ (fun a b h=>h) (List.Pairwise.filter _ ((polyB_ord hq).imp_of_mem (S:=fun a b=>cmpE (td i b).e (td i a).e<0) fun {a b} ha hb h=>?_))
  show cmpE (dec b.e i) (dec a.e i)<0
  rw [cmpE_dec _ _ _ (by rw [hl2 b hb];omega) (by rw [hl2 a ha];omega)];exact h
 ·obtain ⟨m,hm,rfl⟩:=List.mem_map.1 ht
  obtain ⟨hm,h0⟩:=List.mem_filter.1 hm
  exact dy_mul_ne (mo_ne (hw.w m hm).c.b (hok m hm).right (hwn m hm)) (wD_ne (of_decide_eq_true h0))
end Go.V
namespace Go.V
open Go Go.RowKit Go.Proofs
def qQ16_36_8:PT:=(.lin [(0,0),(1,2),(2,0),(3,2),(4,0),(5,0),(6,2)] (.fork 7 4 (.lin [] (.fork 8 3 (.lin [(9,0),(10,0),(11,0),(12,4),(13,3),(14,0)] .nil) 12 4 (.lin [(8,3),(9,0),(10,0),(11,0),(13,3),(14,0)] .nil))) 12 4 (.lin [(7,4),(8,3),(9,0),(10,0),(11,0),(13,3),(14,0)] .nil)))
def qQ16_36_11:PT:=(.lin [(1,0),(2,2)] (.fork3 0 4 (.lin [] (.fork 3 3 (.lin [(4,0),(5,4),(6,3)] .nil) 5 4 (.lin [(3,3),(4,0),(6,3)] .nil))) 3 3 (.lin [] (.fork 0 4 (.lin [(4,0),(5,4),(6,3)] .nil) 5 4 (.lin [(0,4),(4,0),(6,3)] .nil))) 5 4 (.lin [] (.fork 0 4 (.lin [(3,3),(4,0),(6,3)] .nil) 3 3 (.lin [(0,4),(4,0),(6,3)] .nil)))))
attribute [go_sem] qQ16_36_8 qQ16_36_11
theorem wD_ok {k:Int} (h0:0≤k) (h8:k≤8):OkD (wD k):=by
 unfold wD
 exact (Sm.dy (neg:=decide (k<0)) (n:=k.natAbs) (e:=0) (by omega) (by decide) (by decide)).ok (by decide) (by decide)
set_option maxHeartbeats 4000000 in
theorem p_pDiff {q:List Mo} {i n:Int} (hq:WfM q):PC Tryz.prog 36 [MM q,i64 i,i64 n] fun d=>d=LM (difR q i n):=by
 have p1:=p_pRight (n:=n) hq
 have hqn:=hq.n
 unfold difR
 cases h1:polyB q n with
 | false =>
   rw [h1] at p1
   unfold MM at *
   have d1:=@dr 8 qQ16_36_8
   have d2:=@dr 11 qQ16_36_11
   refine PB (rs:=[.tmp 6,.tmp 7]) Tryz.func36 ?_
   exact Wk
 | true =>
   rw [h1] at p1
   by_cases h0:0≤i
   ·have k0:(i<0)=False:=eq_false (by omega)
    by_cases hin:i<n
    ·have k1:(n≤i)=False:=eq_false (by omega)
     obtain ⟨I0,rfl⟩:∃ I0:Nat,i=I0:=⟨i.toNat,by omega⟩
     rw [decide_eq_true h0,decide_eq_true hin]
     simp only [Bool.and_self,if_true,Int.toNat_natCast]
     rw [difR_is hq h1 hin]
     have pok:=polyB_ok h1
     have hno:=fun (t:Te) (ht:t ∈ difT q I0)=>okT_no ht
     have hn:=polyB_n h1
     have hlen:=polyB_len h1
     generalize hres:(if okT (difT q I0)=true then ((difT q I0).map moN,(0:Int)) else ([],2))=res
     have ry:okT (difT q I0)=true→res=((difT q I0).map moN,0):=fun h=>by rw [← hres,h];rfl
     have rno:∀ t ∈ difT q I0,¬ OkD t.v→res=([],2):=fun t ht hb=>by rw [← hres,hno t ht hb];rfl
     clear hres hno
     unfold MM at *
     have d1:=@dr 8 qQ16_36_8
     have d2:=@dr 11 qQ16_36_11
     refine PB (rs:=[.tmp 6,.tmp 7]) Tryz.func36 ?_
     have ft:=And.intro k0 k1
     repeat (first|(with_reducible first|refine pv_seq fun K hK=>?_|((first|refine hK _ _ ?_|(clear hK;refine hK _ _ ?_)|(clear hK;clear hK;refine hK _ _ ?_));clear hK;try clear K))| refine W ?_|exact Z|with_reducible intro b)
     have JF:∀ (e:DEnv) (S:Store),okT (difT q I0)=true→RowZ S (.l 69) 4 (e 8) (rS eM ((difT q I0).map moN))→K e S:=by
      intro e S hok hw
      have ry:=ry hok
      subst ry
      generalize (difT q I0).map moN=l at *
      have ft:=true_and
      repeat (first|(with_reducible first|refine pv_seq fun K hK=>?_|((first|refine hK _ _ ?_|(clear hK;refine hK _ _ ?_)|(clear hK;clear hK;refine hK _ _ ?_));clear hK;try clear K))| refine W0 ?_|exact Z|with_reducible intro b)
      exact hw.toD.coeD fun S' _ _=>rfl
     clear hK ry
     obtain ⟨I,mk,el⟩:=hide fun e S=>∃ k:Nat,k≤q.length∧e 1=i64 I0∧e 27=.g (eS eM q)∧e 28=i64 q.length∧e 29=i64 k∧RowZ S (.l 69) 4 (e 8) (rS eM ((difP q I0 k).map moN))∧∀ t ∈ difP q I0 k,OkD t.v
     refine pv_loop I (fun e _=>q.length - (intD (e 29)).toNat) ?_ ?_
     ·exact mk _ _ ⟨0,Nat.zero_le _,Zr,Zr,Zr,Zr,.inl ⟨Zr,rfl⟩,fun t ht=>by cases ht⟩
     ·intro e S hI
      obtain ⟨k,hk,g1,g27,g28,g29,hw,hz⟩:=el e S hI
      clear el hI
      have hm0:(intD (e 29)).toNat=k:=by rw [g29];exact Int.toNat_natCast k
      have ft:=And.intro g1 (And.intro g27 (And.intro g28 g29))
      repeat (first|(with_reducible first|refine pv_seq fun K hK=>?_|((first|refine hK _ _ ?_|(clear hK;refine hK _ _ ?_)|(clear hK;clear hK;refine hK _ _ ?_));clear hK;try clear K))| refine W0 ?_|exact Z|with_reducible intro b)
      refine pv_cdD (fun ht=>?_) (fun ht=>?_)
      ·have hkl:k<q.length:=by omega
       have q1:=gM_at hkl
       have ok1:=pok _ (gM_mem hkl)
       have wa:=hq.w _ (gM_mem hkl)
       have hma:=gM_mem hkl
       have hst:=difP_step (i:=I0) hkl
       have hpl:=difP_len (q:=q) (i:=I0) (k:=k)
       have mk2:∀ (e:DEnv) (S:Store),e 1=i64 I0→e 27=.g (eS eM q)→e 28=i64 q.length→e 29=i64 ((k + 1:Nat):Int)→RowZ S (.l 69) 4 (e 8) (rS eM ((difP q I0 (k + 1)).map moN))→(∀ t ∈ difP q I0 (k + 1),OkD t.v)→I e S:=fun e S a1 a2 a3 a4 a5 a6=>mk _ _ ⟨k + 1,by omega,a1,a2,a3,a4,a5,a6⟩
       clear mk JF
       have htm:td I0 (gM q k)=⟨(gM q k).c.val * wD ((gM q k).e.getD I0 0),dec (gM q k).e I0⟩:=rfl
       have hmt:(gM q k).e.getD I0 0≠0→td I0 (gM q k) ∈ difT q I0:=fun h=>List.mem_map.2 ⟨_,List.mem_filter.2 ⟨hma,decide_eq_true h⟩,rfl⟩
       have hin2:=fun h=>rno _ (hmt h)
       rw [htm] at hst hin2
       clear rno htm hmt hma
       obtain ⟨da,hda,hdc⟩:=right_is wa.c.b ok1.right
       have hva:(gM q k).c.val=da:=by rw [hdc,val_nuOf]
       rw [hva] at hst hin2
       have hs:=sum8_le ok1.nn ok1.sum
       have hlx:=ok1.len
       have q2:=zget (l:=(gM q k).e) (i:=I0) (by omega)
       have bx:=hs _ (List.mem_of_getElem? q2)
       have pI:=p_nInt (n:=(gM q k).e.getD I0 0) (by unfold R64;omega)
       have pM:=p_nMulD hda (wD_ok bx.1 bx.2)
       rw [← hdc] at pM
       unfold wD at pM hst hin2
       have hset:(rS eZ (gM q k).e).set I0 [i64 ((gM q k).e.getD I0 0 - 1)]=rS eZ (dec (gM q k).e I0):=rS_set rfl
       have hdl:=dec_len (e:=(gM q k).e) (i:=I0)
       generalize hx0:(gM q k).e.getD I0 0=x at *
       generalize dy (decide (x<0)) x.natAbs 0=wx at *
       generalize dec (gM q k).e I0=zd at *
       generalize gM q k=m at *
       obtain ⟨⟨n1,e1,w1⟩,z⟩:=m
       simp only at *
       have ft:=And.intro g1 (And.intro g27 (And.intro g29 g28))
       repeat (first|with_reducible refine pv_stopB 1 ?_|(with_reducible first|refine pv_seq fun K hK=>?_|((first|refine hK _ _ ?_|(clear hK;refine hK _ _ ?_)|(clear hK;clear hK;refine hK _ _ ?_));clear hK;try clear K))| refine W ?_|exact Z|with_reducible intro b)
       refine ⟨fun K1 q1' hC=>?_⟩
       by_cases hx:x=0
       ·have kx:(x=0)=True:=eq_true hx
        rw [if_pos hx] at hst
        have ft:=And.intro g1 (And.intro g27 (And.intro g28 (And.intro g29 (And.intro q1 (And.intro q2 kx)))))
        repeat (first|(with_reducible first|refine pv_seq fun K hK=>?_|((first|refine hK _ _ ?_|(clear hK;refine hK _ _ ?_)|(clear hK;clear hK;refine hK _ _ ?_));clear hK;try clear K))| refine W0 ?_|exact Z|with_reducible intro b)
        refine q1' _ _ ?_
        clear q1' hC
        repeat (first|(with_reducible first|refine pv_seq fun K hK=>?_|((first|refine hK _ _ ?_|(clear hK;refine hK _ _ ?_)|(clear hK;clear hK;refine hK _ _ ?_));clear hK;try clear K))| refine W0 ?_|exact Z|with_reducible intro b)
        exact ⟨mk2 _ _ Zr Zr Zr Zr (by rw [hst];exact hw.up (by simp only [updS_apply]<;>rfl)) (by rw [hst];exact hz),by simp only [intD];omega⟩
       ·have kx:(x=0)=False:=eq_false hx
        rw [if_neg hx] at hst
        have hin2:=hin2 hx
        have hap:(difP q I0 (k + 1)).map moN=(difP q I0 k).map moN ++ [⟨nuOf (da * wx),zd⟩]:=by rw [hst,List.map_append];rfl
        have hll:((difP q I0 k).map moN).length≤k:=by rw [List.length_map];exact hpl
        have hzn:OkD (da * wx)→∀ t ∈ difP q I0 (k + 1),OkD t.v:=fun h t ht=>by
         rw [hst] at ht
         rcases List.mem_append.1 ht with h1|h1
         ·exact hz t h1
         ·rw [List.mem_singleton.1 h1];exact h
        clear hst
        generalize (difP q I0 (k + 1)).map moN=L2 at *
        generalize (difP q I0 k).map moN=L at *
        generalize da * wx=v at *
        have hzp:0<z.length:=by omega
        have hz0:∀ k ∈ z,0≤k:=fun k hk=>(hs k hk).1
        by_cases hod:OkD v
        ·rw [numR_ok hod] at pM
         generalize nuOf v=u at *
         obtain ⟨n3,e3,w3⟩:=u
         have hnew:=rS_m (l:=L) (m:=⟨⟨n3,e3,w3⟩,zd⟩)
         rw [← hap] at hnew
         simp only at hnew
         generalize nuOf wx=uw at *
         obtain ⟨n2,e2,w2⟩:=uw
         unfold NE NU at pM
         unfold NU at pI
         simp only at pM pI
         have ft:=And.intro g1 (And.intro g27 (And.intro g28 (And.intro g29 (And.intro q1 (And.intro q2 kx)))))
         repeat (first|with_reducible refine pv_stop 8 ?_|(with_reducible first|refine pv_seq fun K hK=>?_|((first|refine hK _ _ ?_|(clear hK;refine hK _ _ ?_)|(clear hK;clear hK;refine hK _ _ ?_));clear hK;try clear K))| refine W ?_|exact Z|with_reducible intro b)
         refine ⟨fun K8 q8 _=>?_⟩
         have J8:∀ (f:DEnv) (S3:Store) (b10 b11:Nat),f 1=i64 I0→f 8=e 8→f 27=.g (eS eM q)→f 28=i64 q.length→f 29=i64 k→f 10=.ptr (.l 10) b10 0 0 4→f 11=.ptr (.l 11) b11 0 0 3→f 12=i64 0 →
          S3 (.l 10)=some ⟨b10,4,0,[[bl n1,i64 e1,W64 w1,.g (eS eZ z)]]⟩→S3 (.l 11)=some ⟨b11,3,0,[[bl n3,i64 e3,W64 w3]]⟩→S3 (.l 69)=S (.l 69)→K8 f S3:=by
          intro f S3 b10 b11 g1 g8 g27 g28 g29 g10 g11 g12 s10 s11 s69
          refine q8 _ _ ?_
          clear q8
          have ft:=And.intro g1 (And.intro g8 (And.intro g27 (And.intro g28 (And.intro g29 (And.intro g10 (And.intro g11 (And.intro g12 (And.intro s10 s11))))))))
          repeat (first|with_reducible refine pv_stop 11 ?_|(with_reducible first|refine pv_seq fun K hK=>?_|((first|refine hK _ _ ?_|(clear hK;refine hK _ _ ?_)|(clear hK;clear hK;refine hK _ _ ?_));clear hK;try clear K))| refine W ?_|exact Z|with_reducible intro b)
          refine ⟨fun K2 q2' _=>?_⟩
          have J2:∀ (f2:DEnv) (S2:Store) (b13 b9 cap:Nat),f2 1=i64 I0→f2 8=f 8→f2 27=.g (eS eM q)→f2 28=i64 q.length→f2 29=i64 k→f2 13=.ptr (.l 13) b13 0 0 4→S2 (.l 13)=some ⟨b13,4,0,[[bl n3,i64 e3,W64 w3,.own (.l 57) b9 0 z.length cap 1]]⟩→S2 (.l 57)=some ⟨b9,1,0,rS eZ z⟩→S2 (.l 69)=S3 (.l 69)→K2 f2 S2:=by
           intro f2 S2 b13 b9 cap g1 g8' g27 g28 g29 g13 s13 s57 s69'
           refine q2' _ _ ?_
           clear q2'
           have qz:(rS eZ z)[I0]? = some [i64 x]:=by rw [rS_get,q2];rfl
           have hw:=hw.up (s69'.trans s69)
           rw [← g8,← g8'] at hw
           have ft:=And.intro g1 (And.intro g27 (And.intro g28 (And.intro g29 (And.intro g13 (And.intro s13 (And.intro s57 qz))))))
           repeat (first|(with_reducible first|refine pv_seq fun K hK=>?_|((first|refine hK _ _ ?_|(clear hK;refine hK _ _ ?_)|(clear hK;clear hK;refine hK _ _ ?_));clear hK;try clear K))| refine W0 ?_|exact Z|with_reducible intro b)
           refine RowZ.appL (hw.up (by simp only [updS_apply]<;>rfl)) (by decide) rfl (by simp [D.one,W64]) ?_ ?_ fun d' S' hr' hS'=>?_
           ·rw [rS_len];simp;omega
           ·rw [rS_len];simp;omega
           repeat (first|(with_reducible first|refine pv_seq fun K hK=>?_|((first|refine hK _ _ ?_|(clear hK;refine hK _ _ ?_)|(clear hK;clear hK;refine hK _ _ ?_));clear hK;try clear K))| refine W0 ?_|exact Z|with_reducible intro b)
           have s57':=(hS' (.l 57) (by decide)).trans (show _=some ⟨b9,1,0,rS eZ zd⟩ by simp only [updS_apply];rw [← hset];rfl)
           refine hC _ _ (RowZ.frz (k3:=.l 57) 3 hr' rfl (by decide) s57' (gs:=zd.map eZ) (by rw [List.drop_zero,List.take_of_length_le (by rw [rS_len];omega)];exact pureLL_rS) (by rw [rS_len];omega) fun S4 hz2 hf hg2=>?_)
           refine q1' _ _ ?_
           clear q1' hC
           have ft:=And.intro g1 (And.intro g27 (And.intro g28 g29))
           repeat (first|(with_reducible first|refine pv_seq fun K hK=>?_|((first|refine hK _ _ ?_|(clear hK;refine hK _ _ ?_)|(clear hK;clear hK;refine hK _ _ ?_));clear hK;try clear K))| refine W0 ?_|exact Z|with_reducible intro b)
           exact ⟨mk2 _ _ Zr Zr Zr Zr (by rw [← hnew];exact hz2) (hzn hod),by simp only [intD];omega⟩
          clear q2'
          have ft:=And.intro g1 (And.intro g27 (And.intro g28 (And.intro g29 (And.intro g8 (And.intro g10 (And.intro g11 (And.intro g12 (And.intro s10 s11))))))))
          repeat (first|(with_reducible first|refine pv_seq fun K hK=>?_|((first|refine hK _ _ ?_|(clear hK;refine hK _ _ ?_)|(clear hK;clear hK;refine hK _ _ ?_));clear hK;try clear K))| refine W0 ?_|exact Z|with_reducible intro b)
          repeat' (first|(with_reducible first|refine pv_seq fun K hK=>?_|((first|refine hK _ _ ?_|(clear hK;refine hK _ _ ?_)|(clear hK;clear hK;refine hK _ _ ?_));clear hK;try clear K))| refine W ?_|exact Z|with_reducible intro b|with_reducible refine And.intro ?_ ?_|refine p_CloneX hz0 (by omega) hzp (.l 57) fun b9 cap=>?_|exact J2 _ _ _ _ _ Zr rfl Zr Zr Zr Zr (by simp only [updS_apply];rfl) (by simp only [updS_apply];rfl) (by simp only [updS_apply];rfl))
         clear q8
         have ft:=And.intro g1 (And.intro g27 (And.intro g29 (And.intro g28 (And.intro q1 q2))))
         repeat (first|(with_reducible first|refine pv_seq fun K hK=>?_|((first|refine hK _ _ ?_|(clear hK;refine hK _ _ ?_)|(clear hK;clear hK;refine hK _ _ ?_));clear hK;try clear K))| refine W0 ?_|exact Z|with_reducible intro b)
         repeat' (first|(with_reducible first|refine pv_seq fun K hK=>?_|((first|refine hK _ _ ?_|(clear hK;refine hK _ _ ?_)|(clear hK;clear hK;refine hK _ _ ?_));clear hK;try clear K))| refine W ?_|exact Z|with_reducible intro b|with_reducible refine And.intro ?_ ?_|exact J8 _ _ _ _ Zr rfl Zr Zr Zr Zr Zr Zr (by simp only [updS_apply];rfl) (by simp only [updS_apply];rfl) (by simp only [updS_apply];rfl))
        ·have hr:=hin2 hod
         subst hr
         have hnn:numR v=(nu0,2):=by unfold numR;rw [if_neg (show ¬ (nuOf v).Ok from hod)]
         rw [hnn] at pM
         generalize nuOf wx=uw at *
         obtain ⟨n2,e2,w2⟩:=uw
         unfold NE NU nu0 at pM
         unfold NU at pI
         simp only at pM pI
         have ft:=And.intro g1 (And.intro g27 (And.intro g28 (And.intro g29 (And.intro q1 (And.intro kx q2)))))
         exact Wk
      ·obtain rfl:k=q.length:=by omega
       rw [difP_all] at hw hz
       repeat (first|(with_reducible first|refine pv_seq fun K hK=>?_|((first|refine hK _ _ ?_|(clear hK;refine hK _ _ ?_)|(clear hK;clear hK;refine hK _ _ ?_));clear hK;try clear K))| refine W0 ?_|exact Z|with_reducible intro b)
       exact JF _ _ (decide_eq_true hz) hw
    ·have k1:(n≤i)=True:=eq_true (by omega)
     rw [decide_eq_false hin,Bool.and_false]
     unfold MM at *
     have d1:=@dr 8 qQ16_36_8
     have d2:=@dr 11 qQ16_36_11
     refine PB (rs:=[.tmp 6,.tmp 7]) Tryz.func36 ?_
     have ft:=And.intro k0 k1
     exact Wk
   ·have k0:(i<0)=True:=eq_true (by omega)
    rw [decide_eq_false h0,Bool.and_false]
    unfold MM at *
    have d1:=@dr 8 qQ16_36_8
    have d2:=@dr 11 qQ16_36_11
    refine PB (rs:=[.tmp 6,.tmp 7]) Tryz.func36 ?_
    have ft:=k0
    exact Wk
end Go.V
namespace Go.V
open Go Go.RowKit Go.Proofs
def qQ17_66_10:List (Nat × Nat):=[(0,0),(1,0),(2,0),(3,0),(4,0),(5,1),(7,0),(8,0),(9,0),(10,0),(11,2),(12,0),(13,0),(14,2),(17,0),(6,4),(15,3),(16,3),(18,0),(19,3),(20,3),(21,0)]
attribute [go_sem] qQ17_66_10
set_option maxHeartbeats 4000000 in
theorem p_rPDiff {q:List Mo} {i n:Int} (hq:WfM q):PC Tryz.prog 66 [MM q,i64 i,i64 n] fun d=>d=LM (difR q i n):=by
 have p1:=p_rPRight (n:=n) hq
 have hqn:=hq.n
 unfold difR
 cases h1:polyB q n with
 | false =>
   rw [h1] at p1
   unfold MM at *
   have d1:=@dl 10 qQ17_66_10
   refine PB (rs:=[.tmp 6,.tmp 7]) Tryz.func66 ?_
   exact Wk
 | true =>
   rw [h1] at p1
   by_cases h0:0≤i
   ·have k0:(i<0)=False:=eq_false (by omega)
    by_cases hin:i<n
    ·have k1:(n≤i)=False:=eq_false (by omega)
     obtain ⟨I0,rfl⟩:∃ I0:Nat,i=I0:=⟨i.toNat,by omega⟩
     rw [decide_eq_true h0,decide_eq_true hin]
     simp only [Bool.and_self,if_true,Int.toNat_natCast]
     have pok:=polyB_ok h1
     have hn:=polyB_n h1
     have hlen:=polyB_len h1
     have hte:∀ t ∈ difT q I0,Sm (135168 + 14) (65536 + 6) t.v∧t.e.length≤100000:=fun t ht=>by
      obtain ⟨m,hm,rfl⟩:=List.mem_map.1 ht
      have hm:=(List.mem_filter.1 hm).1
      have ok1:=pok m hm
      have wa:=hq.w m hm
      obtain ⟨da,hda,hdc⟩:=right_is wa.c.b ok1.right
      have hva:m.c.val=da:=by rw [hdc,val_nuOf]
      have hl:=ok1.len
      have bx:=sum8_le ok1.nn ok1.sum _ (List.mem_of_getElem? (zget (l:=m.e) (i:=I0) (by omega)))
      refine ⟨?_,by show (dec m.e I0).length≤_;rw [dec_len];exact wa.n⟩
      show Sm _ _ (m.c.val * wD (m.e.getD I0 0))
      rw [hva]
      exact (okD_sm hda).mul (Sm.dy (by omega) (by decide) (by decide))
     have pG:=p_gather (l:=difT q I0) (M:=135168 + 14) (Q:=65536 + 6) (by have:=difT_len (q:=q) (i:=I0);omega) (fun t ht=>(hte t ht).1) (fun t ht=>(hte t ht).2) (by have:=difT_len (q:=q) (i:=I0);omega)
     clear hte
     generalize hres:gathR (difT q I0)=res at *
     clear hres
     unfold MM at *
     have d1:=@dl 10 qQ17_66_10
     refine PB (rs:=[.tmp 6,.tmp 7]) Tryz.func66 ?_
     have ft:=And.intro k0 k1
     repeat (first|(with_reducible first|refine pv_seq fun K hK=>?_|((first|refine hK _ _ ?_|(clear hK;refine hK _ _ ?_)|(clear hK;clear hK;refine hK _ _ ?_));clear hK;try clear K))| refine W ?_|exact Z|with_reducible intro b)
     have JF:∀ (e:DEnv) (S:Store),RowZ S (.l 72) 4 (e 8) (rS eT (difT q I0))→K e S:=by
      intro e S hw
      generalize difT q I0=l at *
      obtain ⟨r,er⟩:=res
      unfold LM TT at *
      have ft:=true_and
      repeat (first|(with_reducible first|refine pv_seq fun K hK=>?_|((first|refine hK _ _ ?_|(clear hK;refine hK _ _ ?_)|(clear hK;clear hK;refine hK _ _ ?_));clear hK;try clear K))| refine W0 ?_|exact Z|with_reducible intro b)
      refine PFC.coe (hw.toD.coe1 fun S' _ _=>?_)
      exact Wk
     clear hK pG
     obtain ⟨I,mk,el⟩:=hide fun e S=>∃ k:Nat,k≤q.length∧e 0=.g (eS eM q)∧e 1=i64 I0∧e 9=i64 k∧RowZ S (.l 72) 4 (e 8) (rS eT (difP q I0 k))
     refine pv_loop I (fun e _=>q.length - (intD (e 9)).toNat) ?_ ?_
     ·exact mk _ _ ⟨0,Nat.zero_le _,Zr,Zr,Zr,.inl ⟨Zr,rfl⟩⟩
     ·intro e S hI
      obtain ⟨k,hk,g0,g1,g9,hw⟩:=el e S hI
      clear el hI
      have hm0:(intD (e 9)).toNat=k:=by rw [g9];exact Int.toNat_natCast k
      have ft:=And.intro g0 (And.intro g1 g9)
      repeat (first|(with_reducible first|refine pv_seq fun K hK=>?_|((first|refine hK _ _ ?_|(clear hK;refine hK _ _ ?_)|(clear hK;clear hK;refine hK _ _ ?_));clear hK;try clear K))| refine W0 ?_|exact Z|with_reducible intro b)
      refine pv_cdD (fun ht=>?_) (fun ht=>?_)
      ·have hkl:k<q.length:=by omega
       have q1:=gM_at hkl
       have ok1:=pok _ (gM_mem hkl)
       have wa:=hq.w _ (gM_mem hkl)
       have hst:=difP_step (i:=I0) hkl
       have hpl:=difP_len (q:=q) (i:=I0) (k:=k)
       have mk2:∀ (e:DEnv) (S:Store),e 0=.g (eS eM q)→e 1=i64 I0→e 9=i64 ((k + 1:Nat):Int)→RowZ S (.l 72) 4 (e 8) (rS eT (difP q I0 (k + 1)))→I e S:=fun e S a1 a2 a3 a4=>mk _ _ ⟨k + 1,by omega,a1,a2,a3,a4⟩
       clear mk JF
       have htm:td I0 (gM q k)=⟨(gM q k).c.val * wD ((gM q k).e.getD I0 0),dec (gM q k).e I0⟩:=rfl
       rw [htm] at hst
       clear htm
       obtain ⟨da,hda,hdc⟩:=right_is wa.c.b ok1.right
       have hva:(gM q k).c.val=da:=by rw [hdc,val_nuOf]
       rw [hva] at hst
       have hs:=sum8_le ok1.nn ok1.sum
       have hlx:=ok1.len
       have q2:=zget (l:=(gM q k).e) (i:=I0) (by omega)
       have bx:=hs _ (List.mem_of_getElem? q2)
       have pO:=p_rOf hda
       have pI:=p_rWhole (n:=(gM q k).e.getD I0 0) (by unfold R64;omega)
       have pB:=p_rBy hda.bd (wD_ok bx.1 bx.2).bd (by decide)
       rw [← hdc] at pO
       unfold wD at pB hst
       have hset:(rS eZ (gM q k).e).set I0 [i64 ((gM q k).e.getD I0 0 - 1)]=rS eZ (dec (gM q k).e I0):=rS_set rfl
       have hdl:=dec_len (e:=(gM q k).e) (i:=I0)
       generalize hx0:(gM q k).e.getD I0 0=x at *
       generalize dy (decide (x<0)) x.natAbs 0=wx at *
       generalize dec (gM q k).e I0=zd at *
       generalize gM q k=m at *
       obtain ⟨⟨n1,e1,w1⟩,z⟩:=m
       simp only at *
       have ft:=And.intro g0 (And.intro g9 g1)
       repeat (first|with_reducible refine pv_stopB 1 ?_|(with_reducible first|refine pv_seq fun K hK=>?_|((first|refine hK _ _ ?_|(clear hK;refine hK _ _ ?_)|(clear hK;clear hK;refine hK _ _ ?_));clear hK;try clear K))| refine W ?_|exact Z|with_reducible intro b)
       refine ⟨fun K1 q1' hC=>?_⟩
       by_cases hx:x=0
       ·have kx:(x=0)=True:=eq_true hx
        rw [if_pos hx] at hst
        have ft:=And.intro g0 (And.intro g1 (And.intro g9 (And.intro q1 (And.intro q2 kx))))
        repeat (first|(with_reducible first|refine pv_seq fun K hK=>?_|((first|refine hK _ _ ?_|(clear hK;refine hK _ _ ?_)|(clear hK;clear hK;refine hK _ _ ?_));clear hK;try clear K))| refine W0 ?_|exact Z|with_reducible intro b)
        refine q1' _ _ ?_
        clear q1' hC
        repeat (first|(with_reducible first|refine pv_seq fun K hK=>?_|((first|refine hK _ _ ?_|(clear hK;refine hK _ _ ?_)|(clear hK;clear hK;refine hK _ _ ?_));clear hK;try clear K))| refine W0 ?_|exact Z|with_reducible intro b)
        exact ⟨mk2 _ _ Zr Zr Zr (by rw [hst];exact hw.up (by simp only [updS_apply]<;>rfl)),by simp only [intD];omega⟩
       ·have kx:(x=0)=False:=eq_false hx
        rw [if_neg hx] at hst
        have hnew:=rS_t (l:=difP q I0 k) (t:=⟨da * wx,zd⟩)
        rw [← hst] at hnew
        clear hst
        generalize difP q I0 (k + 1)=L2 at *
        generalize difP q I0 k=L at *
        generalize da * wx=v at *
        have hzp:0<z.length:=by omega
        have hz0:∀ k ∈ z,0≤k:=fun k hk=>(hs k hk).1
        unfold NU VA at pO
        unfold VA at pB pI
        simp only at pO
        have qz:(rS eZ z)[I0]? = some [i64 x]:=by rw [rS_get,q2];rfl
        have ft:=And.intro g0 (And.intro g1 (And.intro g9 (And.intro q1 (And.intro q2 (And.intro kx qz)))))
        repeat (first|(with_reducible first|refine pv_seq fun K hK=>?_|((first|refine hK _ _ ?_|(clear hK;refine hK _ _ ?_)|(clear hK;clear hK;refine hK _ _ ?_));clear hK;try clear K))| refine W0 ?_|exact Z|with_reducible intro b)
        refine ⟨by rw [rS_len];omega,by rw [rS_len];omega,fun b' cap'=>?_⟩
        rw [rS_len]
        repeat (first|(with_reducible first|refine pv_seq fun K hK=>?_|((first|refine hK _ _ ?_|(clear hK;refine hK _ _ ?_)|(clear hK;clear hK;refine hK _ _ ?_));clear hK;try clear K))| refine W ?_|exact Z|with_reducible intro b)
        refine RowZ.appL (hw.up (by simp only [updS_apply]<;>rfl)) (by decide) rfl (by simp [D.one,W32]) ?_ ?_ fun d' S' hr' hS'=>?_
        ·rw [rS_len];simp;omega
        ·rw [rS_len];simp;omega
        repeat (first|(with_reducible first|refine pv_seq fun K hK=>?_|((first|refine hK _ _ ?_|(clear hK;refine hK _ _ ?_)|(clear hK;clear hK;refine hK _ _ ?_));clear hK;try clear K))| refine W0 ?_|exact Z|with_reducible intro b)
        have s39:=(hS' (.l 39) (by decide)).trans (show _=some ⟨b',1,0,rS eZ zd⟩ by simp only [updS_apply];rw [← hset];rfl)
        refine hC _ _ (RowZ.frz (k3:=.l 39) 3 hr' rfl (by decide) s39 (gs:=zd.map eZ) (by rw [List.drop_zero,List.take_of_length_le (by rw [rS_len];omega)];exact pureLL_rS) (by rw [rS_len];omega) fun S4 hz2 hf hg2=>?_)
        refine q1' _ _ ?_
        clear q1' hC
        have ft:=And.intro g0 (And.intro g1 g9)
        repeat (first|(with_reducible first|refine pv_seq fun K hK=>?_|((first|refine hK _ _ ?_|(clear hK;refine hK _ _ ?_)|(clear hK;clear hK;refine hK _ _ ?_));clear hK;try clear K))| refine W0 ?_|exact Z|with_reducible intro b)
        exact ⟨mk2 _ _ Zr Zr Zr (by rw [← hnew];exact hz2),by simp only [intD];omega⟩
      ·obtain rfl:k=q.length:=by omega
       rw [difP_all] at hw
       repeat (first|(with_reducible first|refine pv_seq fun K hK=>?_|((first|refine hK _ _ ?_|(clear hK;refine hK _ _ ?_)|(clear hK;clear hK;refine hK _ _ ?_));clear hK;try clear K))| refine W0 ?_|exact Z|with_reducible intro b)
       exact JF _ _ hw
    ·have k1:(n≤i)=True:=eq_true (by omega)
     rw [decide_eq_false hin,Bool.and_false]
     unfold MM at *
     have d1:=@dl 10 qQ17_66_10
     refine PB (rs:=[.tmp 6,.tmp 7]) Tryz.func66 ?_
     have ft:=And.intro k0 k1
     exact Wk
   ·have k0:(i<0)=True:=eq_true (by omega)
    rw [decide_eq_false h0,Bool.and_false]
    unfold MM at *
    have d1:=@dl 10 qQ17_66_10
    refine PB (rs:=[.tmp 6,.tmp 7]) Tryz.func66 ?_
    have ft:=k0
    exact Wk
end Go.V
namespace Go.V
open Go Go.RowKit Go.Proofs
def UU (l:List Nu):D:=.g (eS eU l)
attribute [go_sem] eU_0
def gU (l:List Nu) (i:Nat):Nu:=l.getD i nu0
theorem gU_at {l:List Nu} {i:Nat} (h:i<l.length):l[i]? = some (gU l i):=by simp [gU,List.getD,List.getElem?_eq_getElem h]
theorem gU_mem {l:List Nu} {i:Nat} (h:i<l.length):gU l i ∈ l:=List.mem_of_getElem? (gU_at h)
structure WfU (l:List Nu):Prop where
 n:l.length≤100000
 w:∀ x ∈ l,Wl 65536 x
def allU (l:List Nu):Bool:=decide (∀ x ∈ l,rightB x=true)
theorem allU_no {l:List Nu} {i:Nat} (hi:i<l.length) (h:rightB (gU l i)=false):allU l=false:=decide_eq_false fun h2=>by rw [h2 _ (gU_mem hi)] at h;cases h
theorem allU_yes {l:List Nu} (h:∀ i,i<l.length→rightB (gU l i)=true):allU l=true:=decide_eq_true fun m hm=>by
 obtain ⟨i,hi⟩:=List.getElem?_of_mem hm
 have hil:i<l.length:=(List.getElem?_eq_some_iff.1 hi).1
 have:=h i hil
 rw [gU_at hil] at hi
 injection hi with hi
 rwa [hi] at this
theorem p_At1 {x:Nu} (hx:Wl 65536 x):PC Tryz.prog 75 [.agg [bl x.neg,i64 x.exp,W64 x.w]] fun d=>d=bl (!rightB x):=by
 have pR:=p_nRight hx.b
 generalize rightB x=r at *
 obtain ⟨n1,e1,w1⟩:=x
 unfold NU at pR
 simp only at pR
 cases r
 ·refine PB (rs:=[.tmp 2]) Tryz.func75 ?_
  exact Wk
 ·refine PB (rs:=[.tmp 2]) Tryz.func75 ?_
  exact Wk
set_option maxHeartbeats 1000000 in
theorem p_IndexU {q:List Nu} (hq:WfU q):PC Tryz.prog 116 [UU q,.fn 75 [] []] fun d=>∃ t:Int,d=i64 t∧(t = -1 ↔ allU q=true) ∧ -1≤t:=by
 have hqn:=hq.n
 unfold UU
 refine PB (rs:=[.tmp 4]) Tryz.func116 ?_
 repeat (first|(with_reducible first|refine pv_seq fun K hK=>?_|((first|refine hK _ _ ?_|(clear hK;refine hK _ _ ?_)|(clear hK;clear hK;refine hK _ _ ?_));clear hK;try clear K))| refine W0 ?_|exact Z|with_reducible intro b)
 obtain ⟨I,mk,el⟩:=hide fun e (T:Store)=>∃ i:Nat,i≤q.length∧e 0=.g (eS eU q)∧e 1=.fn 75 [] []∧e 6=.g (eS eU q)∧e 7=i64 q.length∧e 8=i64 i∧∀ j,j<i→rightB (gU q j)=true
 refine pv_loop I (fun e _=>q.length - (intD (e 8)).toNat) ?_ ?_
 ·exact mk _ _ ⟨0,Nat.zero_le _,Zr,Zr,Zr,Zr,Zr,fun j hj=>by omega⟩
 ·intro e T hI
  obtain ⟨i,hi,g0,g1,g6,g7,g8,hz⟩:=el e T hI
  clear el hI
  have ft:=And.intro g0 (And.intro g1 (And.intro g6 (And.intro g7 g8)))
  repeat (first|(with_reducible first|refine pv_seq fun K hK=>?_|((first|refine hK _ _ ?_|(clear hK;refine hK _ _ ?_)|(clear hK;clear hK;refine hK _ _ ?_));clear hK;try clear K))| refine W0 ?_|exact Z|with_reducible intro b)
  refine pv_cdD (fun ht=>?_) (fun ht=>?_)
  ·have hil:i<q.length:=by omega
   have q1:=gU_at hil
   have wm:=hq.w _ (gU_mem hil)
   have hb:=fun h=>allU_no hil h
   have hzs:rightB (gU q i)=true→∀ j,j<i + 1→rightB (gU q j)=true:=fun h j hj=>by
    rcases Nat.lt_or_ge j i with h3|h3
    ·exact hz j h3
    ·obtain rfl:j=i:=by omega
     exact h
   have pM:=p_At1 wm
   clear hz
   generalize gU q i=m at *
   obtain ⟨n1,e1,w1⟩:=m
   simp only at pM
   generalize rightB ⟨n1,e1,w1⟩=r at *
   cases r
   ·have ft:=And.intro g0 (And.intro g1 (And.intro g6 (And.intro g7 (And.intro g8 q1))))
    repeat (first|(with_reducible first|refine pv_seq fun K hK=>?_|((first|refine hK _ _ ?_|(clear hK;refine hK _ _ ?_)|(clear hK;clear hK;refine hK _ _ ?_));clear hK;try clear K))| refine W ?_|exact Z|with_reducible intro b)
    exact ⟨i,rfl,⟨fun h=>by omega,fun h=>by rw [hb rfl] at h;cases h⟩,by omega⟩
   ·have ft:=And.intro g0 (And.intro g1 (And.intro g6 (And.intro g7 (And.intro q1 g8))))
    repeat (first|(with_reducible first|refine pv_seq fun K hK=>?_|((first|refine hK _ _ ?_|(clear hK;refine hK _ _ ?_)|(clear hK;clear hK;refine hK _ _ ?_));clear hK;try clear K))| refine W ?_|exact Z|with_reducible intro b)
    exact ⟨mk _ _ ⟨i + 1,by omega,Zr,Zr,Zr,Zr,Zr,hzs rfl⟩,by simp only [intD];omega⟩
  ·obtain rfl:i=q.length:=by omega
   have hall:=allU_yes hz
   repeat (first|(with_reducible first|refine pv_seq fun K hK=>?_|((first|refine hK _ _ ?_|(clear hK;refine hK _ _ ?_)|(clear hK;clear hK;refine hK _ _ ?_));clear hK;try clear K))| refine W0 ?_|exact Z|with_reducible intro b)
   exact ⟨-1,rfl,⟨fun _=>hall,fun _=>rfl⟩,by omega⟩
theorem p_ContU {q:List Nu} (hq:WfU q):PC Tryz.prog 74 [UU q,.fn 75 [] []] fun d=>d=bl (!allU q):=by
 have pI:=p_IndexU hq
 unfold UU at *
 refine PB (rs:=[.tmp 4]) Tryz.func74 ?_
 repeat (first|(with_reducible first|refine pv_seq fun K hK=>?_|((first|refine hK _ _ ?_|(clear hK;refine hK _ _ ?_)|(clear hK;clear hK;refine hK _ _ ?_));clear hK;try clear K))| refine W0 ?_|exact Z|with_reducible intro b)
 refine call_pc pI ?_
 rintro d ⟨t,rfl,ht,h0⟩
 have hd:(0≤t)=((!allU q)=true):=by
  refine propext ⟨fun h=>?_,fun h=>?_⟩
  ·cases ha:allU q
   ·rfl
   ·have:=ht.2 ha;omega
  ·rcases Int.lt_or_le t 0 with h2|h2
   ·rw [ht.1 (by omega)] at h;cases h
   ·exact h2
 generalize (!allU q)=r at *
 have ft:=hd
 repeat (first|(with_reducible first|refine pv_seq fun K hK=>?_|((first|refine hK _ _ ?_|(clear hK;refine hK _ _ ?_)|(clear hK;clear hK;refine hK _ _ ?_));clear hK;try clear K))| refine W0 ?_|exact Z|with_reducible intro b)
 cases r<;>rfl
end Go.V
