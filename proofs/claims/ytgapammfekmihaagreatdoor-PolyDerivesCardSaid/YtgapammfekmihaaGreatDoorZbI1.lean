/- Terms gathered by their powers, plainly: the greater powers first, one term for each. The document's gathering of terms over values as data. The document's polynomials of monomials over values as data; the seat's deck: powers, monomials, polynomials. slices.SortFunc over values as data: by the contract of the shelf. No program in sight. Rows that a call answers and that its caller may change; slices.Clone of integers; sums of any length. Plain laws: terms gathered in any order, and sorted, are the document's. No program in sight. -/
import Derived.Test.YtgapammfekmihaaGreatDoorZbI0
import Derived.Test.YtgapammfekmihaaGreatDoorZbPC
import Derived.Shelf.SlSortCmp.WholeK
set_option linter.unusedSimpArgs false
set_option linter.unusedVariables false
set_option maxRecDepth 100000
namespace Go.V
open Go Go.RowKit Go.Proofs
structure Te where
 v:Dyadic
 e:List Int
def te0:Te:=⟨0,[]⟩
def gT (l:List Te) (i:Nat):Te:=l.getD i te0
theorem gT_at {l:List Te} {i:Nat} (h:i<l.length):l[i]? = some (gT l i):=by simp [gT,List.getD,List.getElem?_eq_getElem h]
theorem gT_mem {l:List Te} {i:Nat} (h:i<l.length):gT l i ∈ l:=List.mem_of_getElem? (gT_at h)
def posT:List Te→List Int→Nat
 | [],_=>0
 | x :: r,e=>if 0<ordE x.e e then posT r e + 1 else 0
def insT (out:List Te) (t:Te):List Te :=
 if posT out t.e<out.length∧ordE (gT out (posT out t.e)).e t.e=0 then out.set (posT out t.e) ⟨(gT out (posT out t.e)).v + t.v,(gT out (posT out t.e)).e⟩
 else out.take (posT out t.e) ++ t :: out.drop (posT out t.e)
theorem posT_le:∀ (out:List Te) (e:List Int),posT out e≤out.length
 | [],_=>Nat.le_refl _
 | x :: r,e=>by
   unfold posT
   split
   ·have:=posT_le r e;simp only [List.length_cons];omega
   ·exact Nat.zero_le _
theorem posT_all:∀ {out:List Te} {e:List Int} {j:Nat},j<posT out e→0<ordE (gT out j).e e
 | [],e,j,h=>by exact absurd h (Nat.not_lt_zero _)
 | x :: r,e,j,h=>by
   unfold posT at h
   split at h
   ·rename_i hp
    cases j with
    | zero=>exact hp
    | succ j=>exact posT_all (out:=r) (j:=j) (by omega)
   ·omega
theorem posT_max:∀ {out:List Te} {e:List Int},posT out e<out.length→¬ 0<ordE (gT out (posT out e)).e e
 | [],e,h=>by exact absurd h (Nat.not_lt_zero _)
 | x :: r,e,h=>by
   by_cases hp:0<ordE x.e e
   ·have hq:posT (x :: r) e=posT r e + 1:=by
     show (if 0<ordE x.e e then posT r e + 1 else 0)=_
     rw [if_pos hp]
    rw [hq] at h ⊢
    exact posT_max (out:=r) (by simpa using h)
   ·have hq:posT (x :: r) e=0:=by unfold posT;rw [if_neg hp]
    rw [hq];exact hp
theorem insT_nil (t:Te):insT [] t=[t]:=rfl
theorem insT_cons (x:Te) (r:List Te) (t:Te):insT (x :: r) t=if 0<ordE x.e t.e then x :: insT r t else if ordE x.e t.e=0 then ⟨x.v + t.v,x.e⟩ :: r else t :: x :: r:=by
 by_cases h:0<ordE x.e t.e
 ·have hp:posT (x :: r) t.e=posT r t.e + 1:=by
   show (if 0<ordE x.e t.e then posT r t.e + 1 else 0)=_
   rw [if_pos h]
  have hg:gT (x :: r) (posT r t.e + 1)=gT r (posT r t.e):=rfl
  rw [if_pos h]
  unfold insT
  rw [hp,hg]
  by_cases h2:posT r t.e<r.length∧ordE (gT r (posT r t.e)).e t.e=0
  ·rw [if_pos h2,if_pos ⟨by simpa using h2.1,h2.2⟩];rfl
  ·rw [if_neg h2,if_neg (fun h3=>h2 ⟨by simpa using h3.1,h3.2⟩)];rfl
 ·have hp:posT (x :: r) t.e=0:=by unfold posT;rw [if_neg h]
  rw [if_neg h]
  unfold insT
  rw [hp]
  by_cases h2:ordE x.e t.e=0
  ·rw [if_pos h2,if_pos ⟨by simp,h2⟩];rfl
  ·rw [if_neg h2,if_neg (fun h3=>h2 h3.2)];rfl
theorem insT_len (out:List Te) (t:Te):(insT out t).length≤out.length + 1:=by
 have:=posT_le out t.e
 unfold insT
 split
 ·simp
 ·simp;omega
def gathN (l:List Te):Nat→List Te
 | 0=>[]
 | i + 1=>insT (gathN l i) (gT l i)
theorem gathN_len (l:List Te):∀ i,(gathN l i).length≤i
 | 0=>Nat.le_refl _
 | i + 1=>by have:=gathN_len l i;have:=insT_len (gathN l i) (gT l i);show (insT _ _).length≤_;omega
def monoN (out:List Te):Nat→List Mo × Int
 | 0=>([],0)
 | i + 1=>if (monoN out i).2=0 then (if (gT out i).v=0 then monoN out i else if (numR (gT out i).v).2=0 then ((monoN out i).1 ++ [⟨(numR (gT out i).v).1,(gT out i).e⟩],0) else ([],2)) else monoN out i
theorem monoN_stuck {out:List Te} {i n:Nat} (h:(monoN out i).2≠0) (hn:i≤n):monoN out n=monoN out i:=by
 induction n with
 | zero=>obtain rfl:i=0:=by omega
         rfl
 | succ n ih =>
   by_cases hi:i=n + 1
   ·rw [hi]
   ·have e:=ih (by omega)
    show (if (monoN out n).2=0 then _ else monoN out n)=_
    rw [e,if_neg h]
theorem monoN_len (out:List Te):∀ i,(monoN out i).1.length≤i
 | 0=>Nat.le_refl _
 | i + 1=>by
   have:=monoN_len out i
   unfold monoN
   split
   ·split
    ·omega
    ·split
     ·simp only [List.length_append,List.length_singleton];omega
     ·exact Nat.zero_le _
   ·omega
def gathR (l:List Te):List Mo × Int :=
 if (monoN (gathN l l.length) (gathN l l.length).length).2=0 then (if (monoN (gathN l l.length) (gathN l l.length).length).1.length≤24 then monoN (gathN l l.length) (gathN l l.length).length else ([],6)) else monoN (gathN l l.length) (gathN l l.length).length
def teM (m:Mo):Te:=⟨m.c.val,m.e⟩
def allM (q:List Mo) (n:Int):Bool:=decide (∀ m ∈ q,monoB m n=true)
def pmkR (q:List Mo) (n:Int):List Mo × Int:=if decide (1≤n) && decide (n≤4) && allM q n then gathR (q.map teM) else ([],1)
theorem okD_sm {d:Dyadic} (h:OkD d):Sm 135168 65536 d:=by
 have h1:=h.lo
 have h2:=h.hi
 have h3:=h.len
 rw [nuOf_f] at h1 h2 h3
 simp only at h1 h2 h3
 obtain ⟨m,hm,h5⟩:=okD_fN h
 have e:=dy_f d
 obtain ⟨j,hj⟩:∃ j:Nat,fE d=j - 65536:=⟨(fE d + 65536).toNat,by omega⟩
 have hj2:j≤131072:=by omega
 have h6:=owp_shl (sg (fS d) (fN d)) (65536 - j) j
 rw [show ((65536:Int) - j + j)=((65536:Nat):Int) by omega] at h6
 refine ⟨sg (fS d) (fN d) * 2 ^ j,e.symm.trans ?_,?_⟩
 ·unfold dy
  rw [show -(fE d)=(65536:Int) - j by omega]
  exact h6.symm
 ·rw [Int.natAbs_mul,sg_abs,Int.natAbs_pow]
  calc fN d * (2:Int).natAbs ^ j<2 ^ m * 2 ^ j:=Nat.mul_lt_mul_of_pos_right h5 (Nat.two_pow_pos j)
   _=2 ^ (m + j):=(Nat.pow_add _ _ _).symm
   _≤2 ^ 135168:=Nat.pow_le_pow_right (by decide) (by omega)
theorem Sm.bd {k q:Nat} {d:Dyadic} (h:Sm k q d):Bd (k + q) d:=by
 have b:=h.bx
 exact ⟨Nat.lt_of_lt_of_le b.n (Nat.pow_le_pow_right (by decide) (by omega)),b.lo,b.hi⟩
theorem ordE_cases:∀ (a b:List Int),ordE a b = -1∨ordE a b=0∨ordE a b=1
 | [],_=>.inr (.inl (by unfold ordE;rfl))
 | _ :: _,[]=>.inr (.inl rfl)
 | x :: a,y :: b=>by
   unfold ordE
   split
   ·exact .inr (.inr rfl)
   ·split
    ·exact .inl rfl
    ·exact ordE_cases a b
theorem ordE_self:∀ a,ordE a a=0
 | []=>rfl
 | x :: a=>by unfold ordE;rw [if_neg (by omega),if_neg (by omega)];exact ordE_self a
theorem ordE_eq:∀ {a b:List Int},a.length=b.length→ordE a b=0→a=b
 | [],[],_,_=>rfl
 | x :: a,y :: b,h,h0=>by
   unfold ordE at h0
   split at h0
   ·cases h0
   ·split at h0
    ·cases h0
    ·rw [ordE_eq (by simpa using h) h0,show x=y by omega]
theorem ordE_neg:∀ {a b:List Int},ordE b a = - ordE a b
 | [],[]=>rfl
 | [],_ :: _=>rfl
 | _ :: _,[]=>rfl
 | x :: a,y :: b=>by
   have ih:=ordE_neg (a:=a) (b:=b)
   unfold ordE
   by_cases h1:y<x
   ·rw [if_neg (by omega),if_pos h1,if_pos h1]
   ·by_cases h2:x<y
    ·rw [if_pos h2,if_neg h1,if_pos h2];rfl
    ·rw [if_neg h2,if_neg h1,if_neg h1,if_neg h2];exact ih
theorem ordE_trans:∀ {a b c:List Int},a.length=b.length→b.length=c.length→0<ordE a b→0<ordE b c→0<ordE a c
 | [],[],[],_,_,h,_=>by exact absurd h (by decide)
 | x :: a,y :: b,z :: c,h1,h2,p,q=>by
   unfold ordE at *
   by_cases a1:y<x
   ·by_cases a2:z<y
    ·rw [if_pos (by omega)];decide
    ·rw [if_neg a2] at q
     by_cases a3:y<z
     ·rw [if_pos a3] at q;exact absurd q (by decide)
     ·rw [if_pos (by omega)];decide
   ·rw [if_neg a1] at p
    by_cases a2:x<y
    ·rw [if_pos a2] at p;exact absurd p (by decide)
    ·rw [if_neg a2] at p
     obtain rfl:x=y:=by omega
     by_cases a3:z<x
     ·rw [if_pos a3];decide
     ·rw [if_neg a3] at q ⊢
      by_cases a4:x<z
      ·rw [if_pos a4] at q;exact absurd q (by decide)
      ·rw [if_neg a4] at q ⊢
       exact ordE_trans (by simpa using h1) (by simpa using h2) p q
structure SortT (n:Nat) (out:List Te):Prop where
 len:∀ t ∈ out,t.e.length=n
 ord:out.Pairwise fun a b=>0<ordE a.e b.e
theorem insT_mem {t y:Te}:∀ {out:List Te},y ∈ insT out t→y=t∨∃ z ∈ out,y.e=z.e∧(y=z∨y.v=z.v + t.v∧z.e.length=t.e.length→True)
 | [],h=>by rw [insT_nil] at h;exact .inl (List.mem_singleton.1 h)
 | x :: r,h=>by
   rw [insT_cons] at h
   split at h
   ·rcases List.mem_cons.1 h with rfl|h
    ·exact .inr ⟨_,List.mem_cons_self,rfl,by simp⟩
    ·rcases insT_mem h with h|⟨z,hz,he,_⟩
     ·exact .inl h
     ·exact .inr ⟨z,List.mem_cons_of_mem _ hz,he,by simp⟩
   ·split at h
    ·rcases List.mem_cons.1 h with rfl|h
     ·exact .inr ⟨x,List.mem_cons_self,rfl,by simp⟩
     ·exact .inr ⟨y,List.mem_cons_of_mem _ h,rfl,by simp⟩
    ·rcases List.mem_cons.1 h with rfl|h
     ·exact .inl rfl
     ·exact .inr ⟨y,h,rfl,by simp⟩
theorem insT_e {t y:Te} {out:List Te} (h:y ∈ insT out t):y.e=t.e∨∃ z ∈ out,y.e=z.e:=by
 rcases insT_mem h with rfl|⟨z,hz,he,_⟩
 ·exact .inl rfl
 ·exact .inr ⟨z,hz,he⟩
theorem insT_sort {n:Nat} {t:Te} (ht:t.e.length=n):∀ {out:List Te},SortT n out→SortT n (insT out t)
 | [],_=>⟨fun y hy=>by rw [insT_nil] at hy;rw [List.mem_singleton.1 hy];exact ht,by rw [insT_nil];exact List.pairwise_singleton _ _⟩
 | x :: r,h=>by
   have hx:=h.len x List.mem_cons_self
   have hr:SortT n r:=⟨fun y hy=>h.len y (List.mem_cons_of_mem _ hy),(List.pairwise_cons.1 h.ord).2⟩
   have ih:=insT_sort ht hr
   have hxr:=(List.pairwise_cons.1 h.ord).1
   rw [insT_cons]
   split
   ·rename_i hp
    refine ⟨fun y hy=>?_,List.pairwise_cons.2 ⟨fun y hy=>?_,ih.ord⟩⟩
    ·rcases List.mem_cons.1 hy with rfl|hy
     ·exact hx
     ·exact ih.len y hy
    ·rcases insT_e hy with he|⟨z,hz,he⟩
     ·rw [he];exact hp
     ·rw [he];exact hxr z hz
   ·rename_i hp
    split
    ·refine ⟨fun y hy=>?_,List.pairwise_cons.2 ⟨fun y hy=>hxr y hy,hr.ord⟩⟩
     rcases List.mem_cons.1 hy with rfl|hy
     ·exact hx
     ·exact hr.len y hy
    ·rename_i h0
     have hneg:0<ordE t.e x.e:=by
      rw [ordE_neg]
      rcases ordE_cases x.e t.e with h1|h1|h1<;>omega
     refine ⟨fun y hy=>?_,List.pairwise_cons.2 ⟨fun y hy=>?_,h.ord⟩⟩
     ·rcases List.mem_cons.1 hy with rfl|hy
      ·exact ht
      ·exact h.len y hy
     ·rcases List.mem_cons.1 hy with rfl|hy
      ·exact hneg
      ·exact ordE_trans (by rw [ht,hx]) (by rw [hx,hr.len y hy]) hneg (hxr y hy)
theorem gathN_sort {n:Nat} {l:List Te} (h:∀ t ∈ l,t.e.length=n):∀ i,i≤l.length→SortT n (gathN l i)
 | 0=>fun _=>⟨fun t ht=>(by cases ht),List.Pairwise.nil⟩
 | i + 1=>fun hi=>insT_sort (h _ (gT_mem (by omega))) (gathN_sort h i (by omega))
theorem insT_all {P:List Int→Prop} {t:Te} (ht:P t.e) {out:List Te} (h:∀ y ∈ out,P y.e):∀ y ∈ insT out t,P y.e:=fun y hy=>by
 rcases insT_e hy with he|⟨z,hz,he⟩
 ·rw [he];exact ht
 ·rw [he];exact h z hz
theorem gathN_all {P:List Int→Prop} {l:List Te} (h:∀ t ∈ l,P t.e):∀ i,i≤l.length→∀ y ∈ gathN l i,P y.e
 | 0=>fun _ y hy=>by cases hy
 | i + 1=>fun hi=>insT_all (h _ (gT_mem (by omega))) (gathN_all h i (by omega))
theorem insT_sm {k q:Nat} {t:Te} (ht:Sm k q t.v):∀ {out:List Te},(∀ y ∈ out,Sm k q y.v)→∀ y ∈ insT out t,Sm (k + 1) q y.v
 | [],_=>fun y hy=>by rw [insT_nil] at hy;rw [List.mem_singleton.1 hy];exact ht.mono (by omega)
 | x :: r,h=>fun y hy=>by
   have hx:=h x List.mem_cons_self
   rw [insT_cons] at hy
   split at hy
   ·rcases List.mem_cons.1 hy with rfl|hy
    ·exact hx.mono (by omega)
    ·exact insT_sm ht (fun z hz=>h z (List.mem_cons_of_mem _ hz)) y hy
   ·split at hy
    ·rcases List.mem_cons.1 hy with rfl|hy
     ·exact hx.add ht
     ·exact (h y (List.mem_cons_of_mem _ hy)).mono (by omega)
    ·rcases List.mem_cons.1 hy with rfl|hy
     ·exact ht.mono (by omega)
     ·exact (h y hy).mono (by omega)
theorem gathN_sm {k q:Nat} {l:List Te} (h:∀ t ∈ l,Sm k q t.v):∀ i,i≤l.length→∀ y ∈ gathN l i,Sm (k + i) q y.v
 | 0=>fun _ y hy=>by cases hy
 | i + 1=>fun hi=>insT_sm (k:=k + i) ((h _ (gT_mem (by omega))).mono (Nat.le_add_right k i)) (gathN_sm h i (by omega))
def moT (t:Te):Mo:=⟨nuOf t.v,t.e⟩
theorem monoN_ok {out:List Te} (h:∀ y ∈ out,OkD y.v):∀ i,i≤out.length→monoN out i=(((out.take i).filter fun t=>decide (t.v≠0)).map moT,0)
 | 0=>fun _=>rfl
 | i + 1=>fun hi=>by
   have ih:=monoN_ok h i (by omega)
   have ho:=h _ (gT_mem (l:=out) (i:=i) (by omega))
   have ht:out.take (i + 1)=out.take i ++ [gT out i]:=by rw [List.take_add_one,gT_at (by omega)];rfl
   unfold monoN
   rw [ih,if_pos rfl,ht,List.filter_append,List.map_append]
   by_cases h0:(gT out i).v=0
   ·rw [if_pos h0]
    simp [h0]
   ·rw [if_neg h0,numR_ok ho,if_pos rfl]
    simp [h0,moT]
theorem monosB_of {q:List Mo} {n:Int} (h1:∀ m ∈ q,monoB m n=true∧m.c.w≠[]) (h2:q.Pairwise fun a b=>cmpE b.e a.e<0):monosB q n=true:=by
 refine monosB_yes fun i hi=>?_
 obtain ⟨a,b⟩:=h1 _ (gM_mem hi)
 refine ⟨a,b,fun h0=>?_⟩
 have:=List.pairwise_iff_getElem.1 h2 (i - 1) i (by omega) hi (by omega)
 have e1:=gM_at hi
 have e2:=gM_at (l:=q) (i:=i - 1) (by omega)
 rw [List.getElem?_eq_getElem hi] at e1
 rw [List.getElem?_eq_getElem (show i - 1<q.length by omega)] at e2
 injection e1 with e1
 injection e2 with e2
 rw [e1,e2] at this
 exact this
theorem nuOf_w {d:Dyadic} (h:d≠0):(nuOf d).w≠[]:=by
 rw [nuOf_f]
 exact fun h2=>h (fN_eq_zero.1 ((digs_eq_nil (by decide)).1 h2))
theorem gathR_ok {n:Nat} {l:List Te} (h1:1≤n) (h4:n≤4) (hl:l.length≤24) (he:∀ t ∈ l,t.e.length=n∧(∀ x ∈ t.e,0≤x)∧t.e.sum≤8) (ho:∀ y ∈ gathN l l.length,OkD y.v) :
 ∃ q,gathR l=(q,0)∧q=((gathN l l.length).filter fun t=>decide (t.v≠0)).map moT∧polyB q (n:Int)=true:=by
 unfold gathR
 have e:=monoN_ok ho (gathN l l.length).length (Nat.le_refl _)
 rw [List.take_length] at e
 have hs:=gathN_sort (n:=n) (fun t ht=>(he t ht).1) l.length (Nat.le_refl _)
 have ha:=gathN_all (P:=fun e=>(∀ x ∈ e,0≤x)∧e.sum≤8) (fun t ht=>(he t ht).2) l.length (Nat.le_refl _)
 have hln:=gathN_len l l.length
 generalize gathN l l.length=out at *
 have hq:(((out.filter fun t=>decide (t.v≠0)).map moT)).length≤24:=by
  rw [List.length_map]
  exact Nat.le_trans (List.length_filter_le _ _) (by omega)
 refine ⟨_,?_,rfl,?_⟩
 ·rw [e,if_pos rfl,if_pos hq]
 ·unfold polyB
  rw [decide_eq_true (show (1:Int)≤n by omega),decide_eq_true (show (n:Int)≤4 by omega),decide_eq_true hq]
  refine monosB_of (fun m hm=>?_) ?_
  ·obtain ⟨t,ht,rfl⟩:=List.mem_map.1 hm
   obtain ⟨ht,h0⟩:=List.mem_filter.1 ht
   have h0:t.v≠0:=of_decide_eq_true h0
   refine ⟨?_,nuOf_w h0⟩
   unfold monoB moT
   rw [decide_eq_true (show ((t.e.length:Nat):Int)=n by rw [hs.len t ht]),decide_eq_true (ha t ht).1,decide_eq_true (ha t ht).2,rightB_nuOf,decide_eq_true (ho t ht)];rfl
  ·refine List.Pairwise.map _ (fun a b h=>?_) (List.Pairwise.filter _ (hs.ord.imp_of_mem (S:=fun a b=>a.e.length=b.e.length∧0<ordE a.e b.e) fun ha hb h=>⟨by rw [hs.len _ ha,hs.len _ hb],h⟩))
   have:=ordE_cmpE h.1
   show cmpE b.e a.e<0
   omega
end Go.V
namespace Go.V
open Go Go.RowKit Go.Proofs
def qT15_62_6:List (Nat × Nat):=[(0,0),(1,0),(2,0),(3,0),(4,0),(5,0),(6,0),(7,0),(8,0),(9,1),(10,0),(11,0),(12,0),(13,0),(14,1),(15,3),(16,0),(17,0)]
def qT15_62_8:List (Nat × Nat):=[(0,0),(1,0),(2,0),(3,0),(4,0),(5,0),(6,0),(7,0),(8,0),(9,1),(10,0),(11,0),(12,0),(13,0),(14,1),(15,3),(16,0),(17,0)]
def qT15_62_9:List (Nat × Nat):=[(0,0),(1,0),(2,0),(3,0),(4,0),(5,0),(6,1),(7,0),(8,0),(9,0),(10,0),(11,1),(12,3),(13,0),(14,0),(15,3)]
def qT15_62_22:PT:=(.lin [(0,0),(3,0),(4,0),(5,0),(6,0),(7,2)] (.fork 1 4 (.lin [(2,4),(8,3),(9,0),(10,3),(11,3),(12,0)] .nil) 2 4 (.lin [] (.fork 1 4 (.lin [(8,3),(9,0),(10,3),(11,3),(12,0)] .nil) 8 3 (.lin [(1,4),(9,0),(10,3),(11,3),(12,0)] .nil)))))
attribute [go_sem] qT15_62_6 qT15_62_8 qT15_62_9 qT15_62_22
def RowP (P:Nm→Prop) (S:Store) (s:Nat) (d:D) (els:List (List D)):Prop:=(d=.nil∧els=[])∨∃ k b cap,P k∧d=.own k b 0 els.length cap s∧S k=some ⟨b,s,0,els⟩
theorem RowP.nil {P:Nm→Prop} {S:Store} {s:Nat}:RowP P S s .nil []:=.inl ⟨rfl,rfl⟩
theorem RowP.up {P:Nm→Prop} {S S':Store} {s:Nat} {d:D} {els:List (List D)} (h:RowP P S s d els) (hS:∀ k,P k→S' k=S k):RowP P S' s d els :=
 h.imp id fun ⟨k,b,cap,h0,h1,h2⟩=>⟨k,b,cap,h0,h1,(hS k h0).trans h2⟩
theorem RowP.app {P:Nm→Prop} {S:Store} {K:D→Store→Prop} {q:SlZ} {kd:Nm} {d src:D} {els new:List (List D)} (h:RowP P S q.s d els) (hp:P kd) (hs:∀ K,K new→srcD S q.s src K) (hl:els.length + new.length≤140737488355328)
 (hb:(els.length + new.length) * q.bytes≤140737488355328) (hk:∀ d' S',RowP P S' q.s d' (els ++ new)→(∀ j,¬ P j→S' j=S j)→S'.g=S.g→K d' S'):appD q S kd d src K:=by
 rcases h with ⟨rfl,rfl⟩|⟨k,b,cap,h0,rfl,hS⟩
 ·rw [appD_nil]
  refine hs _ ⟨by simpa using hl,by simpa using hb,fun h1=>?_,fun h1 b' cap'=>?_⟩
  ·subst h1;exact hk _ _ .nil (fun _ _=>rfl) rfl
  ·exact hk _ _ (.inr ⟨kd,b',cap',hp,rfl,updS_at⟩) (fun j hj=>updS_ne (fun e=>hj (by rw [e];exact hp))) rfl
 ·rw [appD_own,hS]
  refine ⟨rfl,rfl,rfl,rfl,rfl,hs _ ⟨hl,hb,fun b' cap'=>?_⟩⟩
  exact hk _ _ (.inr ⟨k,b',cap',h0,by simp,updS_at⟩) (fun j hj=>updS_ne (fun e=>hj (by rw [e];exact h0))) rfl
theorem RowP.move {P:Nm→Prop} {N:DEnv→Store→Prop} {e:DEnv} {S:Store} {s:Nat} {els:List (List D)} (i:Nat) (k':Nm) (hk:¬ P k') (h:RowP P S s (e i) els) (hN:∀ d S',RowZ S' k' s d els→(∀ j,¬ P j→j≠k'→S' j=S j)→S'.g=S.g→N (updD e i d) S'):Recast N e S:=by
 rcases h with ⟨h1,h2⟩|⟨k,b,cap,h0,h1,h2⟩
 ·subst h2
  refine Recast.slot i (d:=.nil) (fun I w v _ hv=>by rw [← h1];exact hv) ?_
  exact hN _ _ .nil (fun _ _ _=>rfl) rfl
 ·have hne:k≠k':=fun e=>hk (by rw [← e];exact h0)
  refine Recast.join (Recast.move k k' hne (Recast.slot i (d:=.own k' b 0 els.length cap s) (fun I w v _ hv=>own_name k' (by rw [← h1];exact hv)) ?_))
  refine hN _ _ (.inr ⟨b,cap,rfl,by rw [updS_at];exact h2⟩) (fun j hj hj2=>?_) rfl
  rw [updS_ne hj2,updS_ne (fun e=>hj (by rw [e];exact h0))]
theorem RowP.appL {P:Nm→Prop} {S:Store} {K:D→Store→Prop} {q:SlZ} {kd k2:Nm} {dd:D} {els new:List (List D)} {b n cap p:Nat} (h:RowP P S q.s dd els) (hk2:¬ P k2) (hp:P kd) (hn:n=new.length) (h1:∀ es ∈ new,es.all D.one=true) (hl:els.length + new.length≤140737488355328)
 (hb:(els.length + new.length) * q.bytes≤140737488355328) (hK:∀ d' S',RowP P S' q.s d' (els ++ new)→(∀ j,¬ P j→S' j=updS S k2 (some ⟨b,q.s,p,new⟩) j)→S'.g=S.g→K d' S') :
 appD q (updS S k2 (some ⟨b,q.s,p,new⟩)) kd dd (.own k2 b 0 n cap q.s) K:=by
 subst hn
 refine RowP.app (h.up fun k hk=>updS_ne fun e=>hk2 (by rw [← e];exact hk)) hp (fun K hK=>?_) hl hb hK
 rw [srcD_own,updS_at]
 exact ⟨rfl,rfl,rfl,by simp,h1,by simpa using hK⟩
theorem RowZ.frz {N:DEnv→Store→Prop} {e:DEnv} {S:Store} {k k3:Nm} {s:Nat} {d:D} {els:List (List D)} {es:List D} {b3 n3 cap3 s3 p3:Nat} {els3:List (List D)} {gs:List (List G)} (j:Nat) (h:RowZ S k s d (els ++ [es])) (hj:es[j]? = some (.own k3 b3 0 n3 cap3 s3)) (hne:k≠k3)
 (hk:S k3=some ⟨b3,s3,p3,els3⟩) (hg:pureLL ((els3.drop 0).take n3)=some gs) (hn:0 + n3≤els3.length) (hN:∀ S',RowZ S' k s d (els ++ [es.set j (.g (.sl gs))])→(∀ q,q≠k→q≠k3→S' q=S q)→S'.g=S.g→N e S'):Recast N e S:=by
 rcases h with ⟨_,h2⟩|⟨b,cap,h1,h2⟩
 ·simp at h2
 ·refine Recast.frzCell h2 els.length j (by simp) hj hne hk hg hn (hN _ (.inr ⟨b,cap,?_,?_⟩) (fun q h3 h4=>?_) rfl)
  ·rw [h1];simp
  ·rw [updS_at];simp
  ·rw [updS_ne h3,updS_ne h4]
def eT (t:Te):List G:=[.lit (.bool (fS t.v)),eS (eK .u32) (D32 (fN t.v)),.lit (.int .i64 (fE t.v)),eS eZ t.e]
def TT (l:List Te):D:=.g (eS eT l)
theorem eT_0 {t:Te}:eT t=[.lit (.bool (fS t.v)),eS (eK .u32) (D32 (fN t.v)),.lit (.int .i64 (fE t.v)),eS eZ t.e]:=rfl
attribute [go_sem] eT_0
def cT (t:Te):List D:=[bl (fS t.v),W32 (D32 (fN t.v)),i64 (fE t.v),.g (eS eZ t.e)]
theorem rT_at {out:List Te} {k:Nat} (h:k<out.length):(rS eT out)[k]? = some (cT (gT out k)):=by
 unfold rS gl
 rw [List.getElem?_map,List.getElem?_map,gT_at h];rfl
theorem rT_set {out:List Te} {k:Nat} {t:Te}:(rS eT out).set k (cT t)=rS eT (out.set k t):=by
 unfold rS gl
 rw [List.map_set,List.map_set];rfl
theorem rT_all {out:List Te}:∀ es ∈ rS eT out,es.all D.one=true:=by
 intro es h
 unfold rS gl at h
 obtain ⟨x,hx,rfl⟩:=List.mem_map.1 h
 obtain ⟨t,ht,rfl⟩:=List.mem_map.1 hx
 rfl
theorem rT_take {out:List Te} {k:Nat}:(rS eT out).take k=rS eT (out.take k):=by unfold rS gl;rw [List.map_take,List.map_take]
theorem rT_drop {out:List Te} {k:Nat}:(rS eT out).drop k=rS eT (out.drop k):=by unfold rS gl;rw [List.map_drop,List.map_drop]
def LM (s:List Mo × Int):D:=.tup [.g (eS eM s.1),i64 s.2]
def P3 (k:Nm):Prop:=k=.l 75∨k=.l 82∨k=.l 87
theorem P3_r:¬ P3 (.r 0 0):=by unfold P3;simp
theorem P3_81:¬ P3 (.l 81):=by unfold P3;simp
theorem srcD_ZI {S:Store} {xs:List Int} {K:List (List D)→Prop}:srcD S 1 (.g (eS eZ xs)) K=K (rS eZ xs):=srcD_eS fun _ _=>rfl
theorem slD_nilZ {s:Nat} {lo hi mx:Option D} {K:D→Prop}:slD s .nil lo hi mx K=bndD lo 0 fun l=>bndD hi 0 fun h=>l=0∧h=0∧(mx.isSome=true→mx=hi)∧K .nil:=rfl
theorem litsD_0 {S:Store} {q:SlZ} {k:Nm} {K:D→Store→Prop}:litsD q k S 0 [] [] K=∀ b,K (.own k b 0 0 0 q.s) (updS S k (some ⟨b,q.s,0,[]⟩)):=by
 simp [litsD]
attribute [go_sem ↓] srcD_ZI slD_nilZ litsD_0
theorem rS_m {l:List Mo} {m:Mo}:rS eM l ++ [[bl m.c.neg,i64 m.c.exp,W64 m.c.w,.g (eS eZ m.e)]]=rS eM (l ++ [m]):=by rw [← rS_app];rfl
set_option maxHeartbeats 8000000 in
theorem p_gather {l:List Te} {M Q:Nat} (hl:l.length≤10000) (hs:∀ t ∈ l,Sm M Q t.v) (he:∀ t ∈ l,t.e.length≤100000) (hk:M + Q + l.length≤60000000):PC Tryz.prog 62 [TT l] fun d=>d=LM (gathR l):=by
 generalize hr:gathR l=r
 have hsm:=gathN_sm hs
 have hel:=gathN_all (P:=fun e=>e.length≤100000) he
 have hln:=gathN_len l
 unfold TT
 have d1:=@dl 6 qT15_62_6
 have d2:=@dl 8 qT15_62_8
 have d3:=@dl 9 qT15_62_9
 have d4:=@dr 22 qT15_62_22
 refine PB (rs:=[.tmp 2,.tmp 3]) Tryz.func62 ?_
 repeat (first|(with_reducible first|refine pv_seq fun K hK=>?_|((first|refine hK _ _ ?_|(clear hK;refine hK _ _ ?_)|(clear hK;clear hK;refine hK _ _ ?_));clear hK;try clear K))| refine W0 ?_|exact Z|with_reducible intro b)
 have J:∀ (e:DEnv) (S:Store),RowZ S (.r 0 0) 4 (e 4) (rS eT (gathN l l.length))→K e S:=by
  as_aux_lemma =>
  intro e S hw
  have ho:=hsm l.length (Nat.le_refl _)
  have hoe:=hel l.length (Nat.le_refl _)
  have hon:=hln l.length
  unfold gathR at hr
  generalize gathN l l.length=out at *
  clear hsm hel hln hs he
  rcases hw with ⟨g4,h4⟩|⟨b4,cap,g4,s4⟩
  ·obtain rfl:out=[]:=by have:=congrArg List.length h4;rw [rS_len] at this;exact List.eq_nil_of_length_eq_zero this
   have hr2:r=([],0):=by rw [← hr];rfl
   subst hr2
   have ft:=g4
   repeat (first|(with_reducible first|refine pv_seq fun K hK=>?_|((first|refine hK _ _ ?_|(clear hK;refine hK _ _ ?_)|(clear hK;clear hK;refine hK _ _ ?_));clear hK;try clear K))| refine W0 ?_|exact Z|with_reducible intro b)
   refine pv_loop (fun e T=>Hid (e 4=.nil∧e 8=.nil∧e 9=i64 0)) (fun _ _=>0) ?_ ?_
   ·exact ⟨Zr,Zr,Zr⟩
   ·rintro e2 T ⟨g4,g8,g9⟩
    have ft:=And.intro g4 (And.intro g8 g9)
    exact Wk
  ·rw [rS_len] at g4
   have k4:∀ k:Nat,k<out.length→(rS eT out)[k]? = some (cT (gT out k)):=fun k=>rT_at
   have hml:=monoN_len out
   have ft:=g4
   repeat (first|(with_reducible first|refine pv_seq fun K hK=>?_|((first|refine hK _ _ ?_|(clear hK;refine hK _ _ ?_)|(clear hK;clear hK;refine hK _ _ ?_));clear hK;try clear K))| refine W0 ?_|exact Z|with_reducible intro b)
   have JF:∀ (e:DEnv) (S:Store),(monoN out out.length).2=0→RowZ S (.l 123) 4 (e 8) (rS eM (monoN out out.length).1)→K e S:=by
    intro e S h0 hw
    rw [if_pos h0] at hr
    have hl2:=hml out.length
    generalize monoN out out.length=mm at *
    obtain ⟨mm,em⟩:=mm
    simp only at h0
    subst h0
    simp only at hr hl2 hw
    by_cases h24:mm.length≤24
    ·rw [if_pos h24] at hr
     subst hr
     have k24:((24:Int)<(mm.length:Int))=False:=eq_false (by omega)
     have ft:=k24
     repeat (first|(with_reducible first|refine pv_seq fun K hK=>?_|((first|refine hK _ _ ?_|(clear hK;refine hK _ _ ?_)|(clear hK;clear hK;refine hK _ _ ?_));clear hK;try clear K))| refine W0 ?_|exact Z|with_reducible intro b)
     refine hw.toD.len ?_
     rw [rS_len]
     repeat (first|(with_reducible first|refine pv_seq fun K hK=>?_|((first|refine hK _ _ ?_|(clear hK;refine hK _ _ ?_)|(clear hK;clear hK;refine hK _ _ ?_));clear hK;try clear K))| refine W0 ?_|exact Z|with_reducible intro b)
     exact hw.toD.coeD fun S' _ _=>rfl
    ·rw [if_neg h24] at hr
     subst hr
     have k24:((24:Int)<(mm.length:Int))=True:=eq_true (by omega)
     have ft:=k24
     repeat (first|(with_reducible first|refine pv_seq fun K hK=>?_|((first|refine hK _ _ ?_|(clear hK;refine hK _ _ ?_)|(clear hK;clear hK;refine hK _ _ ?_));clear hK;try clear K))| refine W0 ?_|exact Z|with_reducible intro b)
     refine hw.toD.len ?_
     rw [rS_len]
     exact Wk
   clear hK
   obtain ⟨I,mk,el⟩:=hide fun e S=>∃ i:Nat,i≤out.length∧e 4=.own (.r 0 0) b4 0 out.length cap 4∧e 9=i64 i∧S (.r 0 0)=some ⟨b4,4,0,rS eT out⟩∧(monoN out i).2=0∧RowZ S (.l 123) 4 (e 8) (rS eM (monoN out i).1)
   refine pv_loop I (fun e _=>out.length - (intD (e 9)).toNat) ?_ ?_
   ·exact mk _ _ ⟨0,Nat.zero_le _,Zr,Zr,s4,rfl,.inl ⟨Zr,rfl⟩⟩
   ·intro e S hI
    obtain ⟨i,hi,g4,g9,s4,hm2,hw⟩:=el e S hI
    clear el hI
    have ft:=And.intro g4 g9
    repeat (first|(with_reducible first|refine pv_seq fun K hK=>?_|((first|refine hK _ _ ?_|(clear hK;refine hK _ _ ?_)|(clear hK;clear hK;refine hK _ _ ?_));clear hK;try clear K))| refine W0 ?_|exact Z|with_reducible intro b)
    refine pv_cdD (fun ht=>?_) (fun ht=>?_)
    ·have hil:i<out.length:=by omega
     have q1:=k4 i hil
     have wv:=ho _ (gT_mem hil)
     have we:=hoe _ (gT_mem hil)
     have hst:(monoN out (i + 1)).2≠0→r=monoN out (i + 1):=fun h=>by
      have e1:=monoN_stuck (n:=out.length) h (by omega)
      rw [e1,if_neg h] at hr
      exact hr.symm
     have hsu:monoN out (i + 1)=if (gT out i).v=0 then monoN out i else if (numR (gT out i).v).2=0 then ((monoN out i).1 ++ [⟨(numR (gT out i).v).1,(gT out i).e⟩],0) else ([],2):=by
      conv=>lhs;unfold monoN
      rw [if_pos hm2]
     have hle:=hml i
     have mk2:∀ (e:DEnv) (S:Store),e 4=.own (.r 0 0) b4 0 out.length cap 4→e 9=i64 ((i + 1:Nat):Int)→S (.r 0 0)=some ⟨b4,4,0,rS eT out⟩→(monoN out (i + 1)).2=0→RowZ S (.l 123) 4 (e 8) (rS eM (monoN out (i + 1)).1)→I e S:=fun e S a1 a2 a3 a4 a5=>mk e S ⟨i + 1,by omega,a1,a2,a3,a4,a5⟩
     clear mk hml JF hr k4
     generalize monoN out (i + 1)=m1 at *
     generalize monoN out i=m0 at *
     have pS:=p_rSign (d:=(gT out i).v)
     have pN:=p_rNum wv.bd (by omega)
     have kz:(sgnD (gT out i).v=0)=((gT out i).v=0):=propext sgnD_zero
     repeat (first|with_reducible refine pv_stopB 5 ?_|(with_reducible first|refine pv_seq fun K hK=>?_|((first|refine hK _ _ ?_|(clear hK;refine hK _ _ ?_)|(clear hK;clear hK;refine hK _ _ ?_));clear hK;try clear K))| refine W ?_|exact Z|with_reducible intro b)
     refine ⟨fun K1 q1' hC=>?_⟩
     have JE:∀ (e2:DEnv) (S:Store),e2 4=.own (.r 0 0) b4 0 out.length cap 4→e2 9=i64 i→S (.r 0 0)=some ⟨b4,4,0,rS eT out⟩→m1.2=0→RowZ S (.l 123) 4 (e2 8) (rS eM m1.1)→K1 e2 S:=by
      intro e2 S g4 g9 s4 h0 hw
      refine q1' _ _ ?_
      clear q1' hC
      have ft:=And.intro g9 g4
      repeat (first|(with_reducible first|refine pv_seq fun K hK=>?_|((first|refine hK _ _ ?_|(clear hK;refine hK _ _ ?_)|(clear hK;clear hK;refine hK _ _ ?_));clear hK;try clear K))| refine W0 ?_|exact Z|with_reducible intro b)
      exact ⟨mk2 _ _ Zr Zr s4 h0 hw,by simp only [intD];omega⟩
     clear q1' mk2
     generalize gT out i=t at *
     obtain ⟨tv,te⟩:=t
     unfold cT at q1
     unfold VA at pS pN
     simp only at *
     generalize hnr:numR tv=nr at *
     obtain ⟨⟨n1,e1,w1⟩,er⟩:=nr
     by_cases h0:tv=0
     ·rw [if_pos h0] at hsu
      subst hsu
      rw [eq_true h0] at kz
      have ft:=And.intro g4 (And.intro g9 (And.intro s4 (And.intro q1 kz)))
      repeat (first|(with_reducible first|refine pv_seq fun K hK=>?_|((first|refine hK _ _ ?_|(clear hK;refine hK _ _ ?_)|(clear hK;clear hK;refine hK _ _ ?_));clear hK;try clear K))| refine W ?_|exact Z|with_reducible intro b)
      exact JE _ _ Zr Zr s4 hm2 hw
     ·rw [if_neg h0] at hsu
      rw [eq_false h0] at kz
      by_cases h1:er=0
      ·subst h1
       rw [if_pos rfl] at hsu
       subst hsu
       have hnew:=rS_m (l:=m0.1) (m:=⟨⟨n1,e1,w1⟩,te⟩)
       have ft:=And.intro g4 (And.intro g9 (And.intro s4 (And.intro q1 kz)))
       repeat (first|(with_reducible first|refine pv_seq fun K hK=>?_|((first|refine hK _ _ ?_|(clear hK;refine hK _ _ ?_)|(clear hK;clear hK;refine hK _ _ ?_));clear hK;try clear K))| refine W0 ?_|exact Z|with_reducible intro b)
       repeat' (first|(with_reducible first|refine pv_seq fun K hK=>?_|((first|refine hK _ _ ?_|(clear hK;refine hK _ _ ?_)|(clear hK;clear hK;refine hK _ _ ?_));clear hK;try clear K))| refine W ?_|exact Z|with_reducible intro b|with_reducible refine And.intro ?_ ?_|(refine ⟨by rw [rS_len];omega,by rw [rS_len];omega,fun b' cap'=>?_⟩)|(refine RowZ.appL (hw.up (by rfl)) (by decide) rfl (by simp [D.one,W64]) ?_ ?_ fun d' S' hr' hS'=>?_))
       all_goals first|(rw [rS_len];omega)|exact hC _ _ (RowZ.frz (k3:=.l 114) 3 hr' rfl (by decide) ((hS' _ (by decide)).trans (by simp only [updS_apply];rfl)) (gs:=te.map eZ) (by rw [List.drop_zero,List.take_length];exact pureLL_rS) (by omega) fun S2 hz hf hg2=>JE _ _ Zr Zr ((hf (.r 0 0) (by decide) (by decide)).trans ((hS' _ (by decide)).trans (by simp only [updS_apply];exact s4))) rfl (by rw [← hnew];exact hz))
      ·rw [if_neg h1] at hsu
       subst hsu
       have hr1:=hst (by decide)
       subst hr1
       have k1:=eq_false h1
       have ft:=And.intro g4 (And.intro g9 (And.intro s4 (And.intro q1 (And.intro kz k1))))
       exact Wk
    ·obtain rfl:i=out.length:=by omega
     repeat (first|(with_reducible first|refine pv_seq fun K hK=>?_|((first|refine hK _ _ ?_|(clear hK;refine hK _ _ ?_)|(clear hK;clear hK;refine hK _ _ ?_));clear hK;try clear K))| refine W0 ?_|exact Z|with_reducible intro b)
     exact JF _ _ hm2 hw
 clear hK
 obtain ⟨I,mk,el⟩:=hide fun e S=>∃ i:Nat,i≤l.length∧e 0=.g (eS eT l)∧e 5=i64 i∧RowZ S (.r 0 0) 4 (e 4) (rS eT (gathN l i))
 refine pv_loop I (fun e _=>l.length - (intD (e 5)).toNat) ?_ ?_
 ·exact mk _ _ ⟨0,Nat.zero_le _,Zr,Zr,.inl ⟨Zr,rfl⟩⟩
 ·intro e S hI
  obtain ⟨i,hi,g0,g5,hw⟩:=el e S hI
  clear el hI
  have hm0:(intD (e 5)).toNat=i:=by rw [g5];exact Int.toNat_natCast i
  have ft:=And.intro g0 g5
  repeat (first|(with_reducible first|refine pv_seq fun K hK=>?_|((first|refine hK _ _ ?_|(clear hK;refine hK _ _ ?_)|(clear hK;clear hK;refine hK _ _ ?_));clear hK;try clear K))| refine W0 ?_|exact Z|with_reducible intro b)
  refine pv_cdD (fun ht=>?_) (fun ht=>?_)
  ·have hil:i<l.length:=by omega
   have q2:=gT_at hil
   have wm:=he _ (gT_mem hil)
   have ws:=hs _ (gT_mem hil)
   have hins:gathN l (i + 1)=insT (gathN l i) (gT l i):=rfl
   have hsi:=hsm i hi
   have hei:=hel i hi
   have hni:=hln i
   have mk2:∀ (e2:DEnv) (S2:Store),e2 0=.g (eS eT l)→e2 5=i64 ((i + 1:Nat):Int)→RowZ S2 (.r 0 0) 4 (e2 4) (rS eT (gathN l (i + 1)))→I e2 S2:=fun e2 S2 a1 a2 a3=>mk _ _ ⟨i + 1,by omega,a1,a2,a3⟩
   clear J hsm hel hln mk hs he hr
   generalize gathN l (i + 1)=out1 at *
   generalize gathN l i=out at *
   generalize gT l i=t at *
   repeat (first|with_reducible refine pv_stopB 1 ?_|(with_reducible first|refine pv_seq fun K hK=>?_|((first|refine hK _ _ ?_|(clear hK;refine hK _ _ ?_)|(clear hK;clear hK;refine hK _ _ ?_));clear hK;try clear K))| refine W ?_|exact Z|with_reducible intro b)
   refine ⟨fun K1 q1 hC=>?_⟩
   have JE:∀ (e2:DEnv) (S:Store),e2 0=.g (eS eT l)→e2 5=i64 i→RowZ S (.r 0 0) 4 (e2 4) (rS eT out1)→K1 e2 S:=by
    intro e2 S g0 g5 hw
    refine q1 _ _ ?_
    clear q1 hC
    have ft:=And.intro g5 g0
    repeat (first|(with_reducible first|refine pv_seq fun K hK=>?_|((first|refine hK _ _ ?_|(clear hK;refine hK _ _ ?_)|(clear hK;clear hK;refine hK _ _ ?_));clear hK;try clear K))| refine W0 ?_|exact Z|with_reducible intro b)
    exact ⟨mk2 _ _ Zr Zr hw,by simp only [intD];omega⟩
   have JM:∀ (e2:DEnv) (S:Store),e2 0=.g (eS eT l)→e2 5=i64 i→RowP P3 S 4 (e2 4) (rS eT out1)→K1 e2 S:=by
    intro e2 S g0 g5 hw
    exact hC _ _ (RowP.move 4 (.r 0 0) P3_r hw fun d S' hz _ _=>JE _ _ g0 g5 hz)
   clear q1 hC mk2
   obtain ⟨tv,te⟩:=t
   simp only at *
   rcases hw with ⟨g4,h4⟩|⟨b4,cap,g4,s4⟩
   ·obtain rfl:out=[]:=by have:=congrArg List.length h4;rw [rS_len] at this;exact List.eq_nil_of_length_eq_zero this
    rw [insT_nil] at hins
    subst hins
    have ft:=And.intro g0 (And.intro g4 g5)
    repeat (first|(with_reducible first|refine pv_seq fun K hK=>?_|((first|refine hK _ _ ?_|(clear hK;refine hK _ _ ?_)|(clear hK;clear hK;refine hK _ _ ?_));clear hK;try clear K))| refine W0 ?_|exact Z|with_reducible intro b)
    refine pv_loop (fun e T=>Hid (e 0=.g (eS eT l)∧e 4=.nil∧e 5=i64 i∧e 6=i64 0)) (fun _ _=>0) ?_ ?_
    ·exact ⟨Zr,Zr,Zr,Zr⟩
    ·rintro e2 T ⟨g0,g4,g5,g6⟩
     have k0:((0:Int)<0)=False:=eq_false (by decide)
     have ft:=And.intro g0 (And.intro g4 (And.intro g5 (And.intro g6 q2)))
     repeat (first|(with_reducible first|refine pv_seq fun K hK=>?_|((first|refine hK _ _ ?_|(clear hK;refine hK _ _ ?_)|(clear hK;clear hK;refine hK _ _ ?_));clear hK;try clear K))| refine W0 ?_|exact Z|with_reducible intro b)
     refine ⟨fun _=>?_,fun h=>absurd h (by decide)⟩
     repeat (first|(with_reducible first|refine pv_seq fun K hK=>?_|((first|refine hK _ _ ?_|(clear hK;refine hK _ _ ?_)|(clear hK;clear hK;refine hK _ _ ?_));clear hK;try clear K))| refine W0 ?_|exact Z|with_reducible intro b)
     refine ⟨by simp [D.one],fun h=>h.elim,fun _ b' cap'=>?_⟩
     repeat (first|(with_reducible first|refine pv_seq fun K hK=>?_|((first|refine hK _ _ ?_|(clear hK;refine hK _ _ ?_)|(clear hK;clear hK;refine hK _ _ ?_));clear hK;try clear K))| refine W0 ?_|exact Z|with_reducible intro b)
     exact JM _ _ Zr Zr (.inr ⟨.l 82,_,_,.inr (.inl rfl),Zr,by simp only [updS_apply];rfl⟩)
   ·rw [rS_len] at g4
    have k4:∀ k:Nat,k<out.length→(rS eT out)[k]? = some (cT (gT out k)):=fun k=>rT_at
    have hmx:=posT_max (out:=out) (e:=te)
    have hal:=fun j=>posT_all (out:=out) (e:=te) (j:=j)
    have hpl:=posT_le out te
    unfold insT at hins
    simp only at hins
    generalize hp:posT out te=m at *
    have ft:=And.intro g0 (And.intro g4 g5)
    repeat (first|(with_reducible first|refine pv_seq fun K hK=>?_|((first|refine hK _ _ ?_|(clear hK;refine hK _ _ ?_)|(clear hK;clear hK;refine hK _ _ ?_));clear hK;try clear K))| refine W0 ?_|exact Z|with_reducible intro b)
    refine pv_loop (fun e T=>Hid (∃ k:Nat,k≤m∧e 0=.g (eS eT l)∧e 4=.own (.r 0 0) b4 0 out.length cap 4∧e 5=i64 i∧e 6=i64 k∧T (.r 0 0)=some ⟨b4,4,0,rS eT out⟩)) (fun e _=>m - (intD (e 6)).toNat) ?_ ?_
    ·exact ⟨0,Nat.zero_le _,Zr,Zr,Zr,Zr,s4⟩
    ·rintro e2 T ⟨k,hkm,g0,g4,g5,g6,s4⟩
     have JX:∀ (e:DEnv) (S:Store),True:=fun _ _=>trivial
     by_cases hk1:k<out.length
     ·have k1:(k<out.length)=True:=eq_true hk1
      have q1:=k4 k hk1
      have hek:=hei _ (gT_mem hk1)
      have pC:=p_rOrdE (a:=(gT out k).e) (b:=te) hek wm
      by_cases hkm2:k<m
      ·have h9:=hal k hkm2
       have h9':=eq_true h9
       clear hmx hal hins JE JM hsi hei
       generalize gT out k=x at *
       obtain ⟨xv,xe⟩:=x
       unfold ZI at pC
       unfold cT at q1
       simp only at *
       generalize ordE xe te=o at *
       have ft:=And.intro g0 (And.intro g4 (And.intro g5 (And.intro g6 (And.intro s4 (And.intro q1 (And.intro q2 (And.intro k1 h9')))))))
       repeat (first|(with_reducible first|refine pv_seq fun K hK=>?_|((first|refine hK _ _ ?_|(clear hK;refine hK _ _ ?_)|(clear hK;clear hK;refine hK _ _ ?_));clear hK;try clear K))| refine W ?_|exact Z|with_reducible intro b)
       exact ⟨⟨k + 1,by omega,Zr,Zr,Zr,Zr,s4⟩,by simp only [intD];omega⟩
      ·obtain rfl:k=m:=by omega
       have h9:=hmx hk1
       have h9':=eq_false h9
       by_cases h0:ordE (gT out k).e te=0
       ·rw [if_pos ⟨hk1,h0⟩] at hins
        have h0':=eq_true h0
        have pP:=p_rPlus (hsi _ (gT_mem hk1)).bd (ws.mono (show M≤M + i by omega)).bd (by omega)
        have hset:=rT_set (out:=out) (k:=k) (t:=⟨(gT out k).v + tv,(gT out k).e⟩)
        clear hmx hal JM hsi hei
        generalize gT out k=x at *
        obtain ⟨xv,xe⟩:=x
        unfold ZI at pC
        unfold cT at q1 hset
        unfold VA at pP
        simp only at *
        generalize ordE xe te=o at *
        have ft:=And.intro g0 (And.intro g4 (And.intro g5 (And.intro g6 (And.intro s4 (And.intro q1 (And.intro q2 (And.intro k1 (And.intro h9' h0'))))))))
        repeat (first|(with_reducible first|refine pv_seq fun K hK=>?_|((first|refine hK _ _ ?_|(clear hK;refine hK _ _ ?_)|(clear hK;clear hK;refine hK _ _ ?_));clear hK;try clear K))| refine W ?_|exact Z|with_reducible intro b)
        exact JE _ _ Zr Zr (.inr ⟨b4,cap,by rw [hins,rS_len,List.length_set];exact Zr,by rw [hins,← hset];simp only [updS_apply];rfl⟩)
       ·rw [if_neg (fun h=>h0 h.2)] at hins
        have h0':=eq_false h0
        clear hmx hal hsi hei JE
        generalize gT out k=x at *
        obtain ⟨xv,xe⟩:=x
        unfold ZI at pC
        unfold cT at q1
        simp only at *
        generalize ordE xe te=o at *
        have ft:=And.intro g0 (And.intro g4 (And.intro g5 (And.intro g6 (And.intro s4 (And.intro q1 (And.intro q2 (And.intro k1 (And.intro h9' h0'))))))))
        repeat (first|with_reducible refine pv_stop 11 ?_|(with_reducible first|refine pv_seq fun K hK=>?_|((first|refine hK _ _ ?_|(clear hK;refine hK _ _ ?_)|(clear hK;clear hK;refine hK _ _ ?_));clear hK;try clear K))| refine W ?_|exact Z|with_reducible intro b)
        refine ⟨fun K2 q2' hC2=>?_⟩
        have JR:∀ (e:DEnv) (S:Store),e 0=.g (eS eT l)→e 4=.own (.r 0 0) b4 0 out.length cap 4→e 5=i64 i→e 6=i64 k→S (.r 0 0)=some ⟨b4,4,0,rS eT out⟩→RowP P3 S 4 (e 7) (rS eT (out.take k))→K2 e S:=by
         intro e S g0 g4 g5 g6 s4 hr
         refine q2' _ _ ?_
         clear q2' hC2
         have ft:=And.intro g4 (And.intro g0 (And.intro g5 (And.intro g6 q2)))
         repeat (first|(with_reducible first|refine pv_seq fun K hK=>?_|((first|refine hK _ _ ?_|(clear hK;refine hK _ _ ?_)|(clear hK;clear hK;refine hK _ _ ?_));clear hK;try clear K))| refine W0 ?_|exact Z|with_reducible intro b)
         refine RowP.appL (P:=P3) hr P3_81 (.inr (.inl rfl)) rfl ?_ ?_ ?_ fun d2 S2 hr2 hf2 hg2=>?_
         ·simp [D.one]
         ·rw [rS_len,List.length_take];simp only [List.length_singleton];omega
         ·rw [rS_len,List.length_take];simp only [List.length_singleton];omega
         have s4'':S2 (.r 0 0)=some ⟨b4,4,0,rS eT out⟩:=(hf2 (.r 0 0) P3_r).trans ((updS_ne (by simp)).trans s4)
         repeat (first|(with_reducible first|refine pv_seq fun K hK=>?_|((first|refine hK _ _ ?_|(clear hK;refine hK _ _ ?_)|(clear hK;clear hK;refine hK _ _ ?_));clear hK;try clear K))| refine W0 ?_|exact Z|with_reducible intro b)
         refine RowP.app (new:=rS eT (out.drop k)) hr2 (.inr (.inr rfl)) (fun K hK=>?_) ?_ ?_ fun d3 S3 hr3 hf3 hg3=>?_
         ·rw [srcD_own,s4''];exact ⟨rfl,rfl,rfl,by rw [rS_len];omega,rT_all,by rw [rT_drop,List.take_of_length_le (by rw [rS_len,List.length_drop];omega)];exact hK⟩
         ·simp only [List.length_append,rS_len,List.length_take,List.length_drop,List.length_singleton,List.length_nil];omega
         ·simp only [List.length_append,rS_len,List.length_take,List.length_drop,List.length_singleton,List.length_nil];omega
         repeat (first|(with_reducible first|refine pv_seq fun K hK=>?_|((first|refine hK _ _ ?_|(clear hK;refine hK _ _ ?_)|(clear hK;clear hK;refine hK _ _ ?_));clear hK;try clear K))| refine W0 ?_|exact Z|with_reducible intro b)
         exact JM _ _ Zr Zr (by rw [hins,show out.take k ++ (⟨tv,te⟩:Te) :: out.drop k=out.take k ++ [⟨tv,te⟩] ++ out.drop k by simp,← rS_app,← rS_app];exact hr3)
        repeat (first|(with_reducible first|refine pv_seq fun K hK=>?_|((first|refine hK _ _ ?_|(clear hK;refine hK _ _ ?_)|(clear hK;clear hK;refine hK _ _ ?_));clear hK;try clear K))| refine W0 ?_|exact Z|with_reducible intro b)
        refine ⟨by rw [rS_len];omega,rT_all,by rw [rT_take,rS_len,List.length_take];omega,by rw [rT_take,rS_len,List.length_take];omega,fun h=>JR _ _ Zr Zr Zr Zr s4 (.inl ⟨Zr,by rw [← rT_take];exact h⟩),fun h b' cap'=>JR _ _ Zr Zr Zr Zr (by rw [updS_ne (by simp)];exact s4) (.inr ⟨.l 75,b',cap',.inl rfl,by rw [← rT_take];exact Zr,by rw [← rT_take];exact updS_at⟩)⟩
     ·obtain rfl:k=m:=by omega
      have k1:(k<out.length)=False:=eq_false hk1
      rw [if_neg (fun h=>hk1 h.1)] at hins
      clear hmx hal hsi hei JE
      have ft:=And.intro g0 (And.intro g4 (And.intro g5 (And.intro g6 (And.intro s4 (And.intro q2 k1)))))
      repeat (first|with_reducible refine pv_stop 11 ?_|(with_reducible first|refine pv_seq fun K hK=>?_|((first|refine hK _ _ ?_|(clear hK;refine hK _ _ ?_)|(clear hK;clear hK;refine hK _ _ ?_));clear hK;try clear K))| refine W ?_|exact Z|with_reducible intro b)
      refine ⟨fun K2 q2' hC2=>?_⟩
      have JR:∀ (e:DEnv) (S:Store),e 0=.g (eS eT l)→e 4=.own (.r 0 0) b4 0 out.length cap 4→e 5=i64 i→e 6=i64 k→S (.r 0 0)=some ⟨b4,4,0,rS eT out⟩→RowP P3 S 4 (e 7) (rS eT (out.take k))→K2 e S:=by
       intro e S g0 g4 g5 g6 s4 hr
       refine q2' _ _ ?_
       clear q2' hC2
       have ft:=And.intro g4 (And.intro g0 (And.intro g5 (And.intro g6 q2)))
       repeat (first|(with_reducible first|refine pv_seq fun K hK=>?_|((first|refine hK _ _ ?_|(clear hK;refine hK _ _ ?_)|(clear hK;clear hK;refine hK _ _ ?_));clear hK;try clear K))| refine W0 ?_|exact Z|with_reducible intro b)
       refine RowP.appL (P:=P3) hr P3_81 (.inr (.inl rfl)) rfl ?_ ?_ ?_ fun d2 S2 hr2 hf2 hg2=>?_
       ·simp [D.one]
       ·rw [rS_len,List.length_take];simp only [List.length_singleton];omega
       ·rw [rS_len,List.length_take];simp only [List.length_singleton];omega
       have s4'':S2 (.r 0 0)=some ⟨b4,4,0,rS eT out⟩:=(hf2 (.r 0 0) P3_r).trans ((updS_ne (by simp)).trans s4)
       repeat (first|(with_reducible first|refine pv_seq fun K hK=>?_|((first|refine hK _ _ ?_|(clear hK;refine hK _ _ ?_)|(clear hK;clear hK;refine hK _ _ ?_));clear hK;try clear K))| refine W0 ?_|exact Z|with_reducible intro b)
       refine ⟨fun _=>?_,?_⟩
       ·refine RowP.app (new:=[]) hr2 (.inr (.inr rfl)) (fun K hK=>?_) ?_ ?_ fun d3 S3 hr3 hf3 hg3=>?_
        ·rw [srcD_own,s4''];exact ⟨rfl,rfl,rfl,by rw [rS_len];omega,rT_all,hK⟩
        ·simp only [List.length_append,rS_len,List.length_take,List.length_drop,List.length_singleton,List.length_nil];omega
        ·simp only [List.length_append,rS_len,List.length_take,List.length_drop,List.length_singleton,List.length_nil];omega
        repeat (first|(with_reducible first|refine pv_seq fun K hK=>?_|((first|refine hK _ _ ?_|(clear hK;refine hK _ _ ?_)|(clear hK;clear hK;refine hK _ _ ?_));clear hK;try clear K))| refine W0 ?_|exact Z|with_reducible intro b)
        exact JM _ _ Zr Zr (by rw [hins,show out.take k ++ (⟨tv,te⟩:Te) :: out.drop k=out.take k ++ [⟨tv,te⟩] ++ out.drop k by simp,← rS_app,← rS_app];rw [show out.drop k=[] from List.drop_eq_nil_of_le (by omega)];exact hr3)
       ·refine RowP.app (new:=rS eT (out.drop k)) hr2 (.inr (.inr rfl)) (fun K hK=>?_) ?_ ?_ fun d3 S3 hr3 hf3 hg3=>?_
        ·rw [srcD_own,s4''];exact ⟨rfl,rfl,rfl,by rw [rS_len];omega,rT_all,by rw [rT_drop,List.take_of_length_le (by rw [rS_len,List.length_drop];omega)];exact hK⟩
        ·simp only [List.length_append,rS_len,List.length_take,List.length_drop,List.length_singleton,List.length_nil];omega
        ·simp only [List.length_append,rS_len,List.length_take,List.length_drop,List.length_singleton,List.length_nil];omega
        repeat (first|(with_reducible first|refine pv_seq fun K hK=>?_|((first|refine hK _ _ ?_|(clear hK;refine hK _ _ ?_)|(clear hK;clear hK;refine hK _ _ ?_));clear hK;try clear K))| refine W0 ?_|exact Z|with_reducible intro b)
        exact JM _ _ Zr Zr (by rw [hins,show out.take k ++ (⟨tv,te⟩:Te) :: out.drop k=out.take k ++ [⟨tv,te⟩] ++ out.drop k by simp,← rS_app,← rS_app];exact hr3)
      repeat (first|(with_reducible first|refine pv_seq fun K hK=>?_|((first|refine hK _ _ ?_|(clear hK;refine hK _ _ ?_)|(clear hK;clear hK;refine hK _ _ ?_));clear hK;try clear K))| refine W0 ?_|exact Z|with_reducible intro b)
      refine ⟨by rw [rS_len];omega,rT_all,by rw [rT_take,rS_len,List.length_take];omega,by rw [rT_take,rS_len,List.length_take];omega,fun h=>JR _ _ Zr Zr Zr Zr s4 (.inl ⟨Zr,by rw [← rT_take];exact h⟩),fun h b' cap'=>JR _ _ Zr Zr Zr Zr (by rw [updS_ne (by simp)];exact s4) (.inr ⟨.l 75,b',cap',.inl rfl,by rw [← rT_take];exact Zr,by rw [← rT_take];exact updS_at⟩)⟩
  ·obtain rfl:i=l.length:=by omega
   repeat (first|(with_reducible first|refine pv_seq fun K hK=>?_|((first|refine hK _ _ ?_|(clear hK;refine hK _ _ ?_)|(clear hK;clear hK;refine hK _ _ ?_));clear hK;try clear K))| refine W0 ?_|exact Z|with_reducible intro b)
   exact J _ _ hw
end Go.V
namespace Go.V
open Go Go.RowKit Go.Proofs
def qT16_20_9:List (Nat × Nat):=[(0,0),(1,0),(2,0),(3,0),(4,0),(5,1),(7,0),(8,0),(9,0),(10,0),(11,2),(6,4),(12,0),(13,3),(14,3),(15,0)]
attribute [go_sem] qT16_20_9
theorem rS_t {l:List Te} {t:Te}:rS eT l ++ [[bl (fS t.v),W32 (D32 (fN t.v)),i64 (fE t.v),.g (eS eZ t.e)]]=rS eT (l ++ [t]):=by rw [← rS_app];rfl
theorem allM_no {q:List Mo} {n:Int} {i:Nat} (hi:i<q.length) (h:monoB (gM q i) n=false):allM q n=false:=decide_eq_false fun h2=>by rw [h2 _ (gM_mem hi)] at h;cases h
theorem allM_yes {q:List Mo} {n:Int} (h:∀ i,i<q.length→monoB (gM q i) n=true):allM q n=true:=decide_eq_true fun m hm=>by
 obtain ⟨i,hi⟩:=List.mem_iff_getElem?.1 hm
 have hil:i<q.length:=(List.getElem?_eq_some_iff.1 hi).1
 have:=h i hil
 rw [gM_at hil] at hi
 injection hi with hi
 rwa [hi] at this
theorem monoB_right {m:Mo} {n:Int} (h:monoB m n=true):rightB m.c=true:=by
 unfold monoB at h
 rw [Bool.and_eq_true] at h
 exact h.2
set_option maxHeartbeats 2000000 in
theorem p_rPMake {q:List Mo} {n:Int} (hq:WfM q) (hl:q.length≤10000):PC Tryz.prog 20 [MM q,i64 n] fun d=>d=LM (pmkR q n):=by
 unfold MM
 by_cases h1:1≤n
 ·by_cases h4:n≤4
  ·have k1:(n<1)=False:=eq_false (by omega)
   have k2:(4<n)=False:=eq_false (by omega)
   generalize hr:pmkR q n=r
   have hno:allM q n=false→r=([],1):=fun h=>by rw [← hr];unfold pmkR;rw [h,Bool.and_false];rfl
   have hyes:allM q n=true→r=gathR (q.map teM):=fun h=>by rw [← hr];unfold pmkR;rw [h,decide_eq_true h1,decide_eq_true h4];rfl
   clear hr
   have d1:=@dl 9 qT16_20_9
   refine PB (rs:=[.tmp 4,.tmp 5]) Tryz.func20 ?_
   have ft:=And.intro k1 k2
   repeat (first|(with_reducible first|refine pv_seq fun K hK=>?_|((first|refine hK _ _ ?_|(clear hK;refine hK _ _ ?_)|(clear hK;clear hK;refine hK _ _ ?_));clear hK;try clear K))| refine W0 ?_|exact Z|with_reducible intro b)
   have J:∀ (e:DEnv) (S:Store),(∀ j,j<q.length→monoB (gM q j) n=true)→RowZ S (.l 41) 4 (e 6) (rS eT (q.map teM))→K e S:=by
    intro e S hz hw
    have hry:=hyes (allM_yes hz)
    have pG:=p_gather (l:=q.map teM) (M:=135168) (Q:=65536) (by rw [List.length_map];omega) (fun t ht=>by
     obtain ⟨m,hm,rfl⟩:=List.mem_map.1 ht
     obtain ⟨i,hi⟩:=List.mem_iff_getElem?.1 hm
     have hil:i<q.length:=(List.getElem?_eq_some_iff.1 hi).1
     have h5:=hz i hil
     rw [gM_at hil] at hi
     injection hi with hi
     rw [hi] at h5
     obtain ⟨d,hd,e⟩:=right_is (hq.w m hm).c.b (monoB_right h5)
     show Sm _ _ m.c.val
     rw [e,val_nuOf]
     exact okD_sm hd) (fun t ht=>by
     obtain ⟨m,hm,rfl⟩:=List.mem_map.1 ht
     exact (hq.w m hm).n) (by rw [List.length_map];omega)
    rw [← hry] at pG
    unfold TT LM at pG
    obtain ⟨r1,r2⟩:=r
    have ft:=true_and
    repeat (first|(with_reducible first|refine pv_seq fun K hK=>?_|((first|refine hK _ _ ?_|(clear hK;refine hK _ _ ?_)|(clear hK;clear hK;refine hK _ _ ?_));clear hK;try clear K))| refine W0 ?_|exact Z|with_reducible intro b)
    refine PFC.coe ?_
    refine hw.toD.coe1 fun S' _ _=>?_
    exact Wk
   clear hK
   obtain ⟨I,mk,el⟩:=hide fun e S=>∃ i:Nat,i≤q.length∧e 0=.g (eS eM q)∧e 1=i64 n∧e 7=i64 i∧(∀ j,j<i→monoB (gM q j) n=true)∧RowZ S (.l 41) 4 (e 6) (rS eT ((q.take i).map teM))
   refine pv_loop I (fun e _=>q.length - (intD (e 7)).toNat) ?_ ?_
   ·have ft:=true_and
    exact mk _ _ ⟨0,Nat.zero_le _,Zr,Zr,Zr,fun j hj=>by omega,.inl ⟨Zr,rfl⟩⟩
   ·intro e S hI
    obtain ⟨i,hi,g0,g1,g7,hz,hw⟩:=el e S hI
    clear el hI
    have ft:=And.intro g0 (And.intro g1 g7)
    repeat (first|(with_reducible first|refine pv_seq fun K hK=>?_|((first|refine hK _ _ ?_|(clear hK;refine hK _ _ ?_)|(clear hK;clear hK;refine hK _ _ ?_));clear hK;try clear K))| refine W0 ?_|exact Z|with_reducible intro b)
    refine pv_cdD (fun ht=>?_) (fun ht=>?_)
    ·have hil:i<q.length:=by omega
     have q1:=gM_at hil
     have wm:=hq.at_ hil
     have pM:=p_rMono (n:=n) wm h4
     have hno:=fun h=>hno (allM_no hil h)
     have hz2:monoB (gM q i) n=true→∀ j,j<i + 1→monoB (gM q j) n=true:=fun h j hj=>by
      rcases Nat.lt_or_ge j i with h1|h1
      ·exact hz j h1
      ·obtain rfl:j=i:=by omega
       exact h
     have hrt:=fun (h:monoB (gM q i) n=true)=>right_is wm.c.b (monoB_right h)
     have htk:(q.take (i + 1)).map teM=(q.take i).map teM ++ [teM (gM q i)]:=by rw [List.take_add_one,q1,List.map_append];rfl
     have hlt:((q.take i).map teM).length=i:=by rw [List.length_map,List.length_take];omega
     clear hyes J
     generalize monoB (gM q i) n=t at *
     generalize gM q i=m at *
     obtain ⟨⟨n1,e1,w1⟩,z⟩:=m
     cases t
     ·have h:=hno rfl
      subst h
      have ft:=And.intro g0 (And.intro g1 (And.intro g7 q1))
      exact Wk
     ·obtain ⟨d,hd,hc⟩:=hrt rfl
      have pO:=p_rOf hd
      simp only at hc
      rw [← hc] at pO
      have hv:teM ⟨⟨n1,e1,w1⟩,z⟩=⟨d,z⟩:=by unfold teM;simp only;rw [hc,val_nuOf]
      rw [hv] at htk
      have hnew:=rS_t (l:=(q.take i).map teM) (t:=⟨d,z⟩)
      unfold VA at pO
      simp only at hnew
      have ft:=And.intro g0 (And.intro g1 (And.intro g7 q1))
      repeat' (first|(with_reducible first|refine pv_seq fun K hK=>?_|((first|refine hK _ _ ?_|(clear hK;refine hK _ _ ?_)|(clear hK;clear hK;refine hK _ _ ?_));clear hK;try clear K))| refine W ?_|exact Z|with_reducible intro b|with_reducible refine And.intro ?_ ?_|(refine RowZ.appL (hw.up (by rfl)) (by decide) rfl (by simp [D.one,W32]) ?_ ?_ fun d' S' hr' hS'=>?_))
      all_goals first|(rw [rS_len,hlt];omega)|(simp only [intD];omega)|exact mk _ _ ⟨i + 1,by omega,Zr,Zr,Zr,hz2 rfl,by rw [htk,← hnew];exact hr'⟩
    ·obtain rfl:i=q.length:=by omega
     rw [List.take_length] at hw
     repeat (first|(with_reducible first|refine pv_seq fun K hK=>?_|((first|refine hK _ _ ?_|(clear hK;refine hK _ _ ?_)|(clear hK;clear hK;refine hK _ _ ?_));clear hK;try clear K))| refine W0 ?_|exact Z|with_reducible intro b)
     exact J _ _ hz hw
  ·have k1:(n<1)=False:=eq_false (by omega)
   have k2:(4<n)=True:=eq_true (by omega)
   have hr:pmkR q n=([],1):=by unfold pmkR;rw [decide_eq_false h4,Bool.and_false];rfl
   rw [hr]
   have d1:=@dl 9 qT16_20_9
   refine PB (rs:=[.tmp 4,.tmp 5]) Tryz.func20 ?_
   have ft:=And.intro k1 k2
   exact Wk
 ·have k1:(n<1)=True:=eq_true (by omega)
  have hr:pmkR q n=([],1):=by unfold pmkR;rw [decide_eq_false h1];rfl
  rw [hr]
  have d1:=@dl 9 qT16_20_9
  refine PB (rs:=[.tmp 4,.tmp 5]) Tryz.func20 ?_
  have ft:=k1
  exact Wk
theorem rZ_at {z:List Int} {k:Nat} (h:k<z.length):(rS eZ z)[k]? = some [i64 (z.getD k 0)]:=by
 rw [rS_get,zget h];rfl
theorem rZ_set {z:List Int} {k:Nat} {x:Int}:(rS eZ z).set k [i64 x]=rS eZ (z.set k x):=by
 unfold rS gl
 rw [List.map_set,List.map_set];rfl
theorem rZ_rep {n:Nat}:List.replicate n [i64 0]=rS eZ (List.replicate n 0):=by
 unfold rS gl
 rw [List.map_replicate,List.map_replicate];rfl
theorem sum_inc:∀ {z:List Int} {k:Nat},k<z.length→(z.set k (z.getD k 0 + 1)).sum=z.sum + 1
 | x :: z,0,_=>by show (x + 1) + z.sum=x + z.sum + 1;omega
 | x :: z,k + 1,h=>by
   have:=sum_inc (z:=z) (k:=k) (by simpa using h)
   show x + (z.set k (z.getD k 0 + 1)).sum=x + z.sum + 1
   omega
theorem nn_inc {z:List Int} {k:Nat} (hk:k<z.length) (h:∀ x ∈ z,0≤x):∀ x ∈ z.set k (z.getD k 0 + 1),0≤x:=fun x hx=>by
 rcases List.mem_or_eq_of_mem_set hx with h1|h1
 ·exact h x h1
 ·have:=h _ (List.mem_of_getElem? (zget hk));omega
structure Pw (n deg:Nat) (z:List Int):Prop where
 len:z.length=n
 nn:∀ x ∈ z,0≤x
 sum:z.sum≤deg
set_option maxHeartbeats 2000000 in
theorem p_dPowers {k:Nm} {S:Store} {Q:D→Store→Prop} {bd i n deg:Nat} {w:List Nat} (hS:S k=some ⟨bd,2,0,[[W64 w,i64 i]]⟩) (hb:B64 w) (hi:i≤700000000) (h1:1≤n) (h4:n≤4) (h8:deg≤8)
 (hQ:∀ (z:List Int) (j:Nat),Pw n deg z→j≤i + 9→Q (.g (eS eZ z)) (updS S k (some ⟨bd,2,0,[[W64 w,i64 j]]⟩))) :
 PFC Tryz.prog 63 [.ptr k bd 0 0 2,i64 n,i64 deg] S Q:=by
 refine PFB (rs:=[.tmp 6]) Tryz.func63 ?_
 repeat (first|(with_reducible first|refine pv_seq fun K hK=>?_|((first|refine hK _ _ ?_|(clear hK;refine hK _ _ ?_)|(clear hK;clear hK;refine hK _ _ ?_));clear hK;try clear K))| refine W0 ?_|exact Z|with_reducible intro b)
 refine p_dN (n:=deg + 1) (i:=i) (by simp -implicitDefEqProofs only [updS,upS];exact hS) hb (by omega) (by omega) (by omega) (fun r hr=>?_)
 repeat (first|(with_reducible first|refine pv_seq fun K hK=>?_|((first|refine hK _ _ ?_|(clear hK;refine hK _ _ ?_)|(clear hK;clear hK;refine hK _ _ ?_));clear hK;try clear K))| refine W0 ?_|exact Z|with_reducible intro b)
 have J:∀ (e:DEnv) (T:Store) (z:List Int) (j b7:Nat),Pw n deg z→j≤i + 9→e 7=.own (.l 10) b7 0 n n 1→T (.l 10)=some ⟨b7,1,0,rS eZ z⟩→Dk S k T (some ⟨bd,2,0,[[W64 w,i64 j]]⟩)→K e T:=by
  intro e T z j b7 hz hj g7 s7 hd
  have hw:RowD T (.l 10) 1 (e 7) (rS eZ z):=by rw [g7];exact RowD.own (by rw [rS_len,hz.len]) s7
  repeat (first|(with_reducible first|refine pv_seq fun K hK=>?_|((first|refine hK _ _ ?_|(clear hK;refine hK _ _ ?_)|(clear hK;clear hK;refine hK _ _ ?_));clear hK;try clear K))| refine W0 ?_|exact Z|with_reducible intro b)
  exact hw.coeD fun T2 _ hT2=>by rw [(hd.of hT2).dn];exact hQ z j hz hj
 clear hK
 obtain ⟨I,mk,el⟩:=hide fun e T=>∃ (t j b7:Nat) (z:List Int),t + z.sum.toNat≤deg∧z.length=n∧(∀ x ∈ z,0≤x)∧0≤z.sum∧j≤i + 1 + z.sum.toNat∧e 0=.ptr (.up k) bd 0 0 2∧e 1=i64 n∧e 8=i64 t∧e 7=.own (.l 10) b7 0 n n 1∧T (.l 10)=some ⟨b7,1,0,rS eZ z⟩∧Dk S k T (some ⟨bd,2,0,[[W64 w,i64 j]]⟩)
 refine pv_loop I (fun e _=>(intD (e 8)).toNat) ?_ ?_
 ·have hsum:(List.replicate n (0:Int)).sum=0:=by simp
  refine mk _ _ ⟨r,i + 1,_,List.replicate n 0,by rw [hsum];simp;omega,by simp,fun x hx=>by rw [(List.mem_replicate.1 hx).2];decide,by rw [hsum];decide,by omega,Zr,Zr,Zr,Zr,?_,?_⟩
  ·rw [← rZ_rep];simp only [updS_apply];rfl
  ·exact ((Dk.up hS).l).set
 ·intro e T hI
  obtain ⟨t,j,b7,z,htz,hzl,hnn,hs0,hj,g0,g1,g8,g7,s7,hd⟩:=el e T hI
  clear el hI
  have ft:=And.intro g0 (And.intro g1 (And.intro g8 g7))
  repeat (first|(with_reducible first|refine pv_seq fun K hK=>?_|((first|refine hK _ _ ?_|(clear hK;refine hK _ _ ?_)|(clear hK;clear hK;refine hK _ _ ?_));clear hK;try clear K))| refine W0 ?_|exact Z|with_reducible intro b)
  refine pv_cdD (fun ht=>?_) (fun ht=>?_)
  ·obtain ⟨t,rfl⟩:∃ t2,t=t2 + 1:=⟨t - 1,by omega⟩
   have hm0:(intD (e 8)).toNat=t + 1:=by rw [g8];exact Int.toNat_natCast _
   repeat (first|(with_reducible first|refine pv_seq fun K hK=>?_|((first|refine hK _ _ ?_|(clear hK;refine hK _ _ ?_)|(clear hK;clear hK;refine hK _ _ ?_));clear hK;try clear K))| refine W0 ?_|exact Z|with_reducible intro b)
   refine p_dN (n:=n) hd.at_ hb (by omega) (by omega) (by omega) (fun c hc=>?_)
   have q1:=rZ_at (z:=z) (k:=c) (by omega)
   have hset:=rZ_set (z:=z) (k:=c) (x:=z.getD c 0 + 1)
   have hsi:=sum_inc (z:=z) (k:=c) (by omega)
   have hni:=nn_inc (z:=z) (k:=c) (by omega) hnn
   have hsub:(((t + 1:Nat):Int) - 1)=(t:Int):=by omega
   have hx8:z.getD c 0≤8:=by
    have:=le_sum hnn c (by omega)
    omega
   have hx0:0≤z.getD c 0:=hnn _ (List.mem_of_getElem? (zget (by omega)))
   generalize z.getD c 0=x at *
   have hc2:(c:Int).toNat=c:=by omega
   have ft:=And.intro g0 (And.intro g1 (And.intro g8 (And.intro g7 (And.intro s7 (And.intro q1 hsub)))))
   repeat (first|(with_reducible first|refine pv_seq fun K hK=>?_|((first|refine hK _ _ ?_|(clear hK;refine hK _ _ ?_)|(clear hK;clear hK;refine hK _ _ ?_));clear hK;try clear K))| refine W0 ?_|exact Z|with_reducible intro b)
   exact ⟨mk _ _ ⟨t,j + 1,b7,z.set c (x + 1),by rw [hsi];omega,by rw [List.length_set];exact hzl,hni,by rw [hsi];omega,by rw [hsi];omega,Zr,Zr,Zr,Zr,by rw [← hset];simp only [updS_apply];rfl,(hd.set).l⟩,by simp only [intD];omega⟩
  ·obtain rfl:t=0:=by omega
   have ft:=And.intro g0 (And.intro g1 (And.intro g7 g8))
   repeat (first|(with_reducible first|refine pv_seq fun K hK=>?_|((first|refine hK _ _ ?_|(clear hK;refine hK _ _ ?_)|(clear hK;clear hK;refine hK _ _ ?_));clear hK;try clear K))| refine W0 ?_|exact Z|with_reducible intro b)
   exact J _ _ z j b7 ⟨hzl,hnn,by omega⟩ (by omega) g7 s7 hd
structure DrM (n deg:Nat) (m:Mo):Prop where
 c:∃ d,m.c=nuOf d∧Sm 14 6 d
 e:Pw n deg m.e
theorem DrM.wm {n deg:Nat} {m:Mo} (h:DrM n deg m) (hn:n≤100000):Wm m:=by
 obtain ⟨d,hd,hs⟩:=h.c
 exact ⟨by rw [hd];exact ((hs.ok (by decide) (by decide)).sz).wl,by rw [h.e.len];exact hn⟩
set_option maxHeartbeats 2000000 in
theorem p_dMonos {k:Nm} {S:Store} {Q:D→Store→Prop} {bd i n most deg:Nat} {w:List Nat} (hS:S k=some ⟨bd,2,0,[[W64 w,i64 i]]⟩) (hb:B64 w) (hi:i≤500000000) (h1:1≤n) (h4:n≤4) (h8:deg≤8) (hm:most≤1000)
 (hQ:∀ (q:List Mo) (j:Nat),q.length≤most→(∀ m ∈ q,DrM n deg m)→j≤i + 1 + 10 * most→Q (MM q) (updS S k (some ⟨bd,2,0,[[W64 w,i64 j]]⟩))) :
 PFC Tryz.prog 23 [.ptr k bd 0 0 2,i64 n,i64 most,i64 deg] S Q:=by
 refine PFB (rs:=[.tmp 8]) Tryz.func23 ?_
 repeat (first|(with_reducible first|refine pv_seq fun K hK=>?_|((first|refine hK _ _ ?_|(clear hK;refine hK _ _ ?_)|(clear hK;clear hK;refine hK _ _ ?_));clear hK;try clear K))| refine W0 ?_|exact Z|with_reducible intro b)
 refine p_dN (n:=most + 1) (i:=i) (by simp -implicitDefEqProofs only [updS,upS];exact hS) hb (by omega) (by omega) (by omega) (fun r hr=>?_)
 repeat (first|(with_reducible first|refine pv_seq fun K hK=>?_|((first|refine hK _ _ ?_|(clear hK;refine hK _ _ ?_)|(clear hK;clear hK;refine hK _ _ ?_));clear hK;try clear K))| refine W0 ?_|exact Z|with_reducible intro b)
 have J:∀ (e:DEnv) (T:Store) (q:List Mo) (j:Nat),q.length≤most→(∀ m ∈ q,DrM n deg m)→j≤i + 1 + 10 * most→RowZ T (.l 28) 4 (e 9) (rS eM q)→Dk S k T (some ⟨bd,2,0,[[W64 w,i64 j]]⟩)→K e T:=by
  intro e T q j hq hd hj hw hk
  repeat (first|(with_reducible first|refine pv_seq fun K hK=>?_|((first|refine hK _ _ ?_|(clear hK;refine hK _ _ ?_)|(clear hK;clear hK;refine hK _ _ ?_));clear hK;try clear K))| refine W0 ?_|exact Z|with_reducible intro b)
  exact hw.toD.coeD fun T2 _ hT2=>by rw [(hk.of hT2).dn];exact hQ q j hq hd hj
 clear hK
 obtain ⟨I,mk,el⟩:=hide fun e T=>∃ (t j:Nat) (q:List Mo),t + q.length≤most∧(∀ m ∈ q,DrM n deg m)∧j≤i + 1 + 10 * q.length∧e 0=.ptr (.up k) bd 0 0 2∧e 1=i64 n∧e 3=i64 deg∧e 10=i64 t∧RowZ T (.l 28) 4 (e 9) (rS eM q)∧Dk S k T (some ⟨bd,2,0,[[W64 w,i64 j]]⟩)
 refine pv_loop I (fun e _=>(intD (e 10)).toNat) ?_ ?_
 ·exact mk _ _ ⟨r,i + 1,[],by simp;omega,fun m hm=>(by cases hm),by simp,Zr,Zr,Zr,Zr,.inl ⟨Zr,rfl⟩,(Dk.up hS).set⟩
 ·intro e T hI
  obtain ⟨t,j,q,htq,hd,hj,g0,g1,g3,g10,hw,hk⟩:=el e T hI
  clear el hI
  have ft:=And.intro g0 (And.intro g1 (And.intro g3 g10))
  repeat (first|(with_reducible first|refine pv_seq fun K hK=>?_|((first|refine hK _ _ ?_|(clear hK;refine hK _ _ ?_)|(clear hK;clear hK;refine hK _ _ ?_));clear hK;try clear K))| refine W0 ?_|exact Z|with_reducible intro b)
  refine pv_cdD (fun ht=>?_) (fun ht=>?_)
  ·obtain ⟨t,rfl⟩:∃ t2,t=t2 + 1:=⟨t - 1,by omega⟩
   have hsub:(((t + 1:Nat):Int) - 1)=(t:Int):=by omega
   have ft:=And.intro g0 (And.intro g1 (And.intro g10 (And.intro g3 hsub)))
   repeat (first|(with_reducible first|refine pv_seq fun K hK=>?_|((first|refine hK _ _ ?_|(clear hK;refine hK _ _ ?_)|(clear hK;clear hK;refine hK _ _ ?_));clear hK;try clear K))| refine W0 ?_|exact Z|with_reducible intro b)
   refine p_smallD hk.at_ hb (by omega) fun x sx _=>?_
   repeat (first|(with_reducible first|refine pv_seq fun K hK=>?_|((first|refine hK _ _ ?_|(clear hK;refine hK _ _ ?_)|(clear hK;clear hK;refine hK _ _ ?_));clear hK;try clear K))| refine W0 ?_|exact Z|with_reducible intro b)
   refine p_dPowers (i:=j + 1) (n:=n) (deg:=deg) (by (try simp -implicitDefEqProofs only [updS_apply,if_true,eq_self]);try rfl) hb (by omega) h1 h4 h8 fun z j2 hz hj2=>?_
   have hnew:=rS_m (l:=q) (m:=⟨nuOf x,z⟩)
   have hdr:DrM n deg ⟨nuOf x,z⟩:=⟨⟨x,rfl,sx⟩,hz⟩
   simp only at hnew
   generalize nuOf x=X at *
   obtain ⟨n1,e1,w1⟩:=X
   repeat (first|(with_reducible first|refine pv_seq fun K hK=>?_|((first|refine hK _ _ ?_|(clear hK;refine hK _ _ ?_)|(clear hK;clear hK;refine hK _ _ ?_));clear hK;try clear K))| refine W0 ?_|exact Z|with_reducible intro b)
   refine RowZ.appL (hw.up ?_) (by decide) rfl (by simp [D.one,W64]) ?_ ?_ fun d' S3 hr3 hS3=>?_
   ·simp only [updS_apply,reduceCtorEq,if_false]
   ·rw [rS_len];simp only [List.length_singleton];omega
   ·rw [rS_len];simp only [List.length_singleton];omega
   repeat (first|(with_reducible first|refine pv_seq fun K hK=>?_|((first|refine hK _ _ ?_|(clear hK;refine hK _ _ ?_)|(clear hK;clear hK;refine hK _ _ ?_));clear hK;try clear K))| refine W0 ?_|exact Z|with_reducible intro b)
   refine ⟨mk _ _ ⟨t,j2,q ++ [⟨⟨n1,e1,w1⟩,z⟩],by simp;omega,fun m hm=>?_,by simp;omega,Zr,Zr,Zr,Zr,by rw [← hnew];exact hr3,?_⟩,by simp only [intD];omega⟩
   ·rcases List.mem_append.1 hm with h|h
    ·exact hd m h
    ·rw [List.mem_singleton.1 h];exact hdr
   ·exact ((hk.set.set).l).of hS3
  ·obtain rfl:t=0:=by omega
   repeat (first|(with_reducible first|refine pv_seq fun K hK=>?_|((first|refine hK _ _ ?_|(clear hK;refine hK _ _ ?_)|(clear hK;clear hK;refine hK _ _ ?_));clear hK;try clear K))| refine W0 ?_|exact Z|with_reducible intro b)
   exact J _ _ q j (by omega) hd (by omega) hw hk
structure DrP (n most deg:Nat) (q:List Mo):Prop where
 right:polyB q (n:Int)=true
 len:q.length≤most
 c:∀ m ∈ q,∃ d,m.c=nuOf d∧d≠0∧Sm (14 + most) 6 d
 e:∀ m ∈ q,Pw n deg m.e
theorem DrP.wf {n most deg:Nat} {q:List Mo} (h:DrP n most deg q) (hn:n≤100000) (hm:most≤1000):WfM q:=⟨by have:=h.len;omega,fun m hm2=>by
 obtain ⟨d,hd,_,hs⟩:=h.c m hm2
 exact ⟨by rw [hd];exact (((hs.ok2 (by omega) (by decide))).sz).wl,by rw [(h.e m hm2).len];exact hn⟩⟩
theorem drP_of {n most deg:Nat} {q:List Mo} (h1:1≤n) (h4:n≤4) (h8:deg≤8) (hm:most≤24) (hl:q.length≤most) (h:∀ m ∈ q,DrM n deg m):∃ p,pmkR q (n:Int)=(p,0)∧DrP n most deg p:=by
 have hall:allM q (n:Int)=true:=decide_eq_true fun m hm=>by
  obtain ⟨d,hd,hs⟩:=(h m hm).c
  have he:=(h m hm).e
  unfold monoB
  have hsum:=he.sum
  rw [decide_eq_true (show ((m.e.length:Nat):Int)=n by rw [he.len]),decide_eq_true he.nn,decide_eq_true (show m.e.sum≤8 by omega),hd,rightB_nuOf,decide_eq_true (hs.ok (by decide) (by decide))];rfl
 have hv:∀ t ∈ q.map teM,Sm 14 6 t.v:=fun t ht=>by
  obtain ⟨m,hm,rfl⟩:=List.mem_map.1 ht
  obtain ⟨d,hd,hs⟩:=(h m hm).c
  show Sm 14 6 m.c.val
  rw [hd,val_nuOf];exact hs
 have he:∀ t ∈ q.map teM,Pw n deg t.e:=fun t ht=>by
  obtain ⟨m,hm,rfl⟩:=List.mem_map.1 ht
  exact (h m hm).e
 have hlm:(q.map teM).length=q.length:=List.length_map _
 have hsm:=gathN_sm hv (q.map teM).length (Nat.le_refl _)
 have hel:=gathN_all (P:=Pw n deg) he (q.map teM).length (Nat.le_refl _)
 have hsm2:∀ y ∈ gathN (q.map teM) (q.map teM).length,Sm (14 + most) 6 y.v:=fun y hy=>(hsm y hy).mono (by omega)
 have hlen:=gathN_len (q.map teM) (q.map teM).length
 obtain ⟨p,e1,e2,e3⟩:=gathR_ok (n:=n) (l:=q.map teM) h1 h4 (by omega) (fun t ht=>⟨(he t ht).len,(he t ht).nn,by have:=(he t ht).sum;omega⟩) (fun y hy=>(hsm2 y hy).ok2 (by omega) (by decide))
 refine ⟨p,?_,e3,?_,?_,?_⟩
 ·unfold pmkR
  rw [hall,decide_eq_true (show (1:Int)≤n by omega),decide_eq_true (show (n:Int)≤4 by omega)]
  exact e1
 ·rw [e2,List.length_map]
  exact Nat.le_trans (List.length_filter_le _ _) (by omega)
 ·intro m hm
  rw [e2] at hm
  obtain ⟨t,ht,rfl⟩:=List.mem_map.1 hm
  obtain ⟨ht,h0⟩:=List.mem_filter.1 ht
  exact ⟨t.v,rfl,of_decide_eq_true h0,hsm2 t ht⟩
 ·intro m hm
  rw [e2] at hm
  obtain ⟨t,ht,rfl⟩:=List.mem_map.1 hm
  exact hel t (List.mem_filter.1 ht).1
set_option maxHeartbeats 1000000 in
theorem p_dPoly {k:Nm} {S:Store} {Q:D→Store→Prop} {bd i n most deg:Nat} {w:List Nat} (hS:S k=some ⟨bd,2,0,[[W64 w,i64 i]]⟩) (hb:B64 w) (hi:i≤500000000) (h1:1≤n) (h4:n≤4) (h8:deg≤8) (hm:most≤24)
 (hQ:∀ (q:List Mo) (j:Nat),DrP n most deg q→j≤i + 1 + 10 * most→Q (MM q) (updS S k (some ⟨bd,2,0,[[W64 w,i64 j]]⟩))) :
 PFC Tryz.prog 25 [.ptr k bd 0 0 2,i64 n,i64 most,i64 deg] S Q:=by
 refine PFB (rs:=[.tmp 8]) Tryz.func25 ?_
 repeat (first|(with_reducible first|refine pv_seq fun K hK=>?_|((first|refine hK _ _ ?_|(clear hK;refine hK _ _ ?_)|(clear hK;clear hK;refine hK _ _ ?_));clear hK;try clear K))| refine W0 ?_|exact Z|with_reducible intro b)
 refine p_dMonos (i:=i) (n:=n) (most:=most) (deg:=deg) (by simp -implicitDefEqProofs only [updS,upS];exact hS) hb hi h1 h4 h8 (by omega) fun q j hq hd hj=>?_
 have pM:=p_rPMake (n:=(n:Int)) (q:=q) ⟨by omega,fun m hm=>(hd m hm).wm (by omega)⟩ (by omega)
 obtain ⟨p,e1,e2⟩:=drP_of h1 h4 h8 hm hq hd
 rw [e1] at pM
 have hq2:=hQ p j e2 hj
 unfold MM LM at *
 repeat (first|(with_reducible first|refine pv_seq fun K hK=>?_|((first|refine hK _ _ ?_|(clear hK;refine hK _ _ ?_)|(clear hK;clear hK;refine hK _ _ ?_));clear hK;try clear K))| refine W ?_|exact Z|with_reducible intro b)
 exact hq2
end Go.V
namespace Go.V
open Go Go.RowKit Go.Proofs Go.Shelf Go.Sort
theorem ext_grow {W w':World} (h:Ext W w'):∃ q os,w'=grow (W.drewN q) os:=by
 refine ⟨w'.drawn - W.drawn,w'.heap.extract W.heap.size w'.heap.size,?_⟩
 have hh:w'.heap=W.heap ++ w'.heap.extract W.heap.size w'.heap.size:=by
  apply Array.ext_getElem?
  intro i
  have hs:=h.size
  rw [Array.getElem?_append]
  split
  ·rename_i hi;exact h.block i hi
  ·rename_i hi
   rw [Array.getElem?_extract]
   split
   ·congr 1;omega
   ·rw [Array.getElem?_eq_none (by omega)]
 have hd:=h.dr
 have ho:=h.os
 have ht:=h.tape
 have hu:=h.output
 cases w'
 cases W
 simp only at hh hd ho ht hu
 simp only [grow,World.drewN]
 subst ho;subst ht;subst hu
 congr 1
 omega
theorem grow_ext (w:World) (os:Array Obj):Ext w (grow w os) :=
 ⟨⟨rfl,rfl,rfl,by simp [grow],fun k hk=>by show (w.heap ++ os)[k]? = w.heap[k]?;rw [Array.getElem?_append_left hk]⟩,Nat.le_refl _⟩
theorem ahead_rel {I:CI} {S:Store} {w:World} (h:Rel I S w) (n:Nat):Rel I S (Sort.ahead w n)∧Stp I S w I S (Sort.ahead w n) :=
 ⟨⟨⟨h.gi.old,h.gi.gl⟩,h.has,h.inj,fun G hG=>⟨(h.gho G hG).rec_,(h.gho G hG).kind,(h.gho G hG).rd⟩⟩,
  ⟨rfl,rfl,rfl,Nat.le_refl _,Nat.le_add_right _ _,fun _ _ h=>h,fun _ _ h=>.inl h,HEv.refl _ _,fun _ _ _ _=>rfl,fun k B hk=>.inr ⟨k,B,hk,rfl⟩,fun G hG=>.inr ⟨G,hG,rfl⟩⟩⟩
theorem putCells_at {c F:Array Value} {k:Nat} (hk:k<c.size) (hF:k<F.size):(putCells id 0 F c)[k]? = some F[k]! := by
 unfold putCells
 rw [Array.getElem?_mapIdx,Array.getElem?_eq_getElem hk]
 simp [hF]
section
variable {P:Program} {ρ:Ren} {α:Type} {f:α→List G} {s:Nat}
set_option maxHeartbeats 2000000 in
theorem PFC.sort (L:SlLaysF0.n6 P ρ) (aE:∀ w,(isAgg (ρ.t 24)).run P w=.ok true w) (zE:∀ w,(Go.sizeOf (ρ.t 24)).run P w=.ok s w) (hs:0<s) (hf:∀ x,(f x).length=s) (cf:α→α→Int) (hO:SWO (ltOf cf)) {g:FuncId}
 (eg:∀ args w,(callFunc g args).run P w=.ok (.enter g args) w) {xs:List α} (hcmp:∀ x ∈ xs,∀ y ∈ xs,PC P g [.agg ((f x).map D.g),.agg ((f y).map D.g)] fun d=>d=.g (.lit (.int .i64 (cf x y)))) {S:Store} {k:Nm} {b cap:Nat}
 (hk:S k=some ⟨b,s,0,rS f xs⟩) (hn:0<xs.length) (h62:xs.length<4611686018427387904) :
 PFC P (ρ.f 6) [.own k b 0 xs.length cap s,.fn g [] []] S fun d S'=>d=.tup []∧∃ ys,ys.Perm xs∧ys.Pairwise (fun x y=>¬ cf y x<0)∧S'=updS S k (some ⟨b,s,0,rS f ys⟩):=by
 intro w I vs hR hv
 obtain ⟨v1,r,rfl,hv1,hv⟩:=hv.uncons
 obtain ⟨v2,r,rfl,hv2,hv⟩:=hv.uncons
 obtain rfl:=hv.unnil
 obtain ⟨cur,el,c1,c2,c3,c4,c5,c6⟩:=(hR.has k _ hk).ex
 simp only at c1 c2 c3 c4 c5
 obtain rfl:v1=.slice (some ⟨b,0,none⟩) xs.length cap:=by
  cases hv1 with|own _ _ _ _ _ _ cur0 el0 fr h1 h2 h3 hb hs0=>simp
 obtain rfl:v2=.func (.func g) #[] #[]:=by
  cases hv2 with|fn _ _ _ vs us h1 h2 h3 h4 =>
   rw [List.eq_nil_of_length_eq_zero h1,List.eq_nil_of_length_eq_zero h2]
 have hblk:b<w.heap.size:=hR.lt hk
 rw [rS_len] at c2
 obtain ⟨n,hnn⟩:∃ n,n=xs.length:=⟨_,rfl⟩
 rw [← hnn] at hn h62 c2 ⊢
 obtain ⟨x0,hx0⟩:∃ x,xs[0]? = some x:=⟨xs[0]'(by omega),List.getElem?_eq_getElem (by omega)⟩
 obtain ⟨pl,hpl⟩:∃ pl:Nat→Nat,pl=fun i=>if i<n then i else 0:=⟨_,rfl⟩
 have pl_lt:∀ i,pl i<n:=fun i=>by rw [hpl];simp only;split<;>omega
 have pl_id:∀ i,i<n→pl i=i:=fun i hi=>by rw [hpl];simp only;rw [if_pos hi]
 obtain ⟨at_,hat⟩:∃ at_:Nat→α,at_=fun i=>xs.getD (pl i) x0:=⟨_,rfl⟩
 have at_get:∀ i,xs[pl i]? = some (at_ i):=fun i=>by
  have:=pl_lt i
  rw [hat];simp [List.getD,List.getElem?_eq_getElem (show pl i<xs.length by omega)]
 have at_mem:∀ i,at_ i ∈ xs:=fun i=>List.mem_of_getElem? (at_get i)
 obtain ⟨enc,henc⟩:∃ enc:Nat→List Value,enc=fun i=>(cur.toList.drop (pl i * s)).take s:=⟨_,rfl⟩
 have room:∀ i,i<n→i * s + s≤cur.size:=fun i hi=>by
  have:(i + 1) * s≤n * s:=Nat.mul_le_mul_right _ hi
  rw [Nat.add_mul] at this;omega
 have enc_len:∀ i,(enc i).length=s:=fun i=>by
  have:=room _ (pl_lt i)
  rw [henc];simp;omega
 have enc_get:∀ i j,j<s→(enc i)[j]? = cur[pl i * s + j]? := fun i j hj=>by
  rw [henc];simp only [List.getElem?_take,if_pos hj,List.getElem?_drop,Array.getElem?_toList]
 have enc_rd:∀ i j x u,(f (at_ i))[j]? = some x→(enc i)[j]? = some u→RdG I w.heap x u:=fun i j x u hx hu=>by
  have hj:j<s:=by rw [← hf (at_ i)];exact (List.getElem?_eq_some_iff.1 hx).1
  have h1:(rS f xs)[pl i]? = some ((f (at_ i)).map D.g):=by rw [rS_get,at_get];rfl
  obtain ⟨u',h2,h3⟩:=c4 (pl i) _ j (.g x) h1 (by rw [List.getElem?_map,hx];rfl)
  rw [enc_get i j hj,h2] at hu
  injection hu with hu
  subst hu
  exact h3.g_inv
 have enc_one:∀ i,∀ v ∈ enc i,v.oneCell'=true:=fun i v hv=>by
  obtain ⟨j,hj⟩:=List.getElem?_of_mem hv
  have hjs:j<s:=by rw [← enc_len i];exact (List.getElem?_eq_some_iff.1 hj).1
  have hx:(f (at_ i))[j]? = some ((f (at_ i))[j]'(by rw [hf];exact hjs)):=List.getElem?_eq_getElem _
  exact (enc_rd i j _ v hx hj).one
 have flat_at:∀ (d:Array Nat),d.size=n→∀ i j,i<n→j<s→(flatK enc s d)[i * s + j]! = (enc d[i]!)[j]! := fun d hd i j hi hj=>by
  have lt:i * s + j<d.size * s:=by rw [hd];have:=Nat.mul_le_mul_right s (show i + 1≤n from hi);rw [Nat.add_mul,Nat.one_mul] at this;omega
  have e1:(i * s + j) / s=i:=(blk_iff s i _ hs).1 ⟨by omega,by omega⟩
  have e2:(i * s + j) % s=j:=by rw [Nat.mod_eq_sub_div_mul,e1];omega
  rw [get_flatK _ _ _ _ lt,e1,e2]
 have part:∀ t,t<n * s→t / s<n∧t % s<s∧t=t / s * s + t % s:=fun t ht =>
  ⟨by rw [Nat.div_lt_iff_lt_mul hs];exact ht,Nat.mod_lt _ hs,by have:=Nat.div_add_mod t s;rw [Nat.mul_comm] at this;omega⟩
 have hH:HoldsK enc s w b 0 (Array.range n):=by
  intro t ht
  rw [size_flatK,Array.size_range] at ht
  obtain ⟨h1,h2,h3⟩:=part t ht
  have hlt:t<cur.size:=by omega
  have hfl:=flat_at (Array.range n) (by simp) (t / s) (t % s) h1 h2
  rw [← h3] at hfl
  have hr:(Array.range n)[t / s]! = t / s:=by simp [h1]
  rw [hr] at hfl
  have hg:=enc_get (t / s) (t % s) h2
  rw [pl_id _ h1,← h3] at hg
  have hcur:cur[t]? = some cur[t]:=Array.getElem?_eq_getElem hlt
  rw [hcur] at hg
  have he:(enc (t / s))[t % s]! = cur[t]:=by rw [List.getElem!_eq_getElem?_getD,hg];rfl
  constructor
  ·simp only [Nat.zero_add,id,World.cell?,c1,hfl,he]
   simp [hcur]
  ·simp [World.frozen?,c1]
 have hO':SWO (ltOf fun i j:Nat=>cf (at_ i) (at_ j)):=⟨fun x=>hO.irrefl _,fun x y z=>hO.trans _ _ _,fun x y z=>hO.ntrans _ _ _⟩
 have blk_at:∀ (m:Nat) (dk:Array Nat),(putRowK enc s (Sort.ahead w m) b 0 dk).heap[b]? = some (.cells (putCells id 0 (flatK enc s dk) cur) el (0,0)):=fun m dk=>by
  show (w.heap.modify b (onCells (putCells id 0 (flatK enc s dk))))[b]? = _
  rw [Array.getElem?_modify,if_pos rfl,c1];rfl
 have blk_ne:∀ (m:Nat) (dk:Array Nat) (q:Nat),q≠b→(putRowK enc s (Sort.ahead w m) b 0 dk).heap[q]? = w.heap[q]? := fun m dk q hq=>by
  show (w.heap.modify b (onCells (putCells id 0 (flatK enc s dk))))[q]? = _
  rw [Array.getElem?_modify,if_neg (fun e=>hq e.symm)]
 have psize:∀ (m:Nat) (dk:Array Nat),(putRowK enc s (Sort.ahead w m) b 0 dk).heap.size=w.heap.size:=fun m dk=>by
  show (w.heap.modify b (onCells (putCells id 0 (flatK enc s dk)))).size=_
  simp
 have pcells:∀ F:Array Value,(putCells id 0 F cur).size=cur.size:=fun F=>by simp [putCells]
 have hev1:∀ (m:Nat) (dk:Array Nat),HEv I w.heap (putRowK enc s (Sort.ahead w m) b 0 dk).heap:=fun m dk b' cur' el' fr' hb'=>by
  by_cases hbb:b'=b
  ·subst hbb
   rw [c1] at hb'
   injection hb' with hb'
   injection hb' with e1 e2 e3
   subst e1;subst e2;subst e3
   exact ⟨_,blk_at m dk,pcells _,fun j hj=>by have:=c5 j hj;omega⟩
  ·exact ⟨cur',by rw [blk_ne m dk b' hbb];exact hb',rfl,fun _ _=>rfl⟩
 have hC:CmpLays P g #[] enc s (fun i j=>cf (at_ i) (at_ j)) b 0 (Array.range n).size w:=by
  intro m os dk _ x y
  have hE2:=grow_ext (putRowK enc s (Sort.ahead w m) b 0 dk) os
  have hIs:∀ b j,I b j→I b j:=fun _ _ h=>h
  have hHE:HEv I w.heap (sortWorldK enc s w b 0 m dk os).heap:=(hev1 m dk).trans hIs (hev_ext hE2)
  have hG:GI I (sortWorldK enc s w b 0 m dk os):=hR.gi.mono hIs hHE fun b j hj=>by
   have h1:=hR.old b j hj
   have h2:=hE2.size
   rw [psize] at h2
   exact Nat.lt_of_lt_of_le h1 h2
  have rd:∀ i,RdD I (sortWorldK enc s w b 0 m dk os).heap (.agg ((f (at_ i)).map D.g)) (.agg (enc i).toArray):=fun i=>by
   refine RdD.ofL ⟨by rw [enc_len,List.length_map,hf],fun j d u hd hu=>?_⟩
   rw [List.getElem?_map] at hd
   cases hx:(f (at_ i))[j]? with
   | none=>rw [hx] at hd;cases hd
   | some x =>
     rw [hx] at hd
     injection hd with hd
     subst hd
     exact .g ((enc_rd i j x u hx hu).mono hIs hHE)
  have hp:=hcmp (at_ x) (at_mem x) (at_ y) (at_mem y) (sortWorldK enc s w b 0 m dk os) I [.agg (enc x).toArray,.agg (enc y).toArray] hG (.cons (rd x) (.cons (rd y) .nil))
  unfold FC at hp
  rw [eg] at hp
  refine Calls.mono hp ?_
  rintro e w' ⟨v,rfl,I',d,hE,_,_,_,hd,rfl⟩
  rw [hd.lit_inv]
  exact ⟨rfl,ext_grow hE⟩
 have hcon:=AnyQ.slices_SortFunc L s aE zE enc enc_len enc_one (fun i j=>cf (at_ i) (at_ j)) hO' g #[] b 0 cap (Array.range n) w eg hC hH hblk (by simpa using h62)
 rw [Array.size_range] at hcon
 have e6:∀ args w,(callFunc (ρ.f 6) args).run P w=.ok (.enter (ρ.f 6) args) w:=L.f6.enters rfl
 unfold FC
 rw [e6]
 refine Calls.mono hcon ?_
 rintro e w' ⟨rfl,d',m,os,hp,hso,rfl⟩
 obtain ⟨hsz,_,hperm⟩:=hp
 rw [Array.size_range] at hsz
 have hd'l:d'.toList.Perm (List.range n):=by
  have h1:(d'.extract 0 n)=d':=by rw [← hsz];exact Array.extract_size
  have h2:((Array.range n).extract 0 n)=Array.range n:=by
   have:(Array.range n).extract 0 (Array.range n).size=Array.range n:=Array.extract_size
   rwa [Array.size_range] at this
  rw [h1,h2] at hperm
  simpa using hperm
 have hxs:(List.range n).map at_=xs:=by
  apply List.ext_getElem?
  intro i
  rw [List.getElem?_map]
  by_cases hi:i<n
  ·rw [List.getElem?_range hi]
   have:=at_get i
   rw [pl_id i hi] at this
   rw [this];rfl
  ·rw [List.getElem?_eq_none (by simpa using hi),List.getElem?_eq_none (by omega)];rfl
 refine ⟨.tuple #[],rfl,I,updS S k (some ⟨b,s,0,rS f (d'.toList.map at_)⟩),.tup [],?_⟩
 obtain ⟨r1,s1⟩:=ahead_rel hR m
 have hsize':(putCells id 0 (flatK enc s d') cur).size=cur.size:=pcells _
 have dget:∀ i,i<n→d'.toList[i]? = some d'[i]! := fun i hi=>by
  rw [Array.getElem?_toList,Array.getElem?_eq_getElem (by omega),getElem!_pos d' i (by omega)]
 obtain ⟨r2,s2⟩:=r1.write (B:=⟨b,s,0,rS f xs⟩) hk (w':=putRowK enc s (Sort.ahead w m) b 0 d') (xs:=cur.toList) (ys:=(putCells id 0 (flatK enc s d') cur).toList) (el:=el)
  (by unfold Row;simpa using c1) (by unfold Row;simpa using blk_at m d')
  ⟨rfl,rfl,rfl,psize m d',fun q hq=>blk_ne m d' q hq,rfl⟩ (by simpa using hsize') (els:=rS f (d'.toList.map at_)) (Nat.zero_le _)
  (by rw [rS_len,List.length_map,Array.length_toList,hsz,Array.length_toList,hsize'];exact c2)
  (fun i es he=>by
    rw [rS_get] at he
    cases hi:(d'.toList.map at_)[i]? with
    | none=>rw [hi] at he;cases he
    | some y=>rw [hi] at he;injection he with he;rw [← he,List.length_map,hf])
  (fun j hj=>by simp at hj)
  (fun i es j d he hd=>by
    rw [rS_get,List.getElem?_map] at he
    have hi:i<n:=by
     rcases Nat.lt_or_ge i n with h|h
     ·exact h
     ·rw [List.getElem?_eq_none (by rw [Array.length_toList];omega)] at he;cases he
    rw [dget i hi] at he
    injection he with he
    subst he
    rw [List.getElem?_map] at hd
    cases hx:(f (at_ d'[i]!))[j]? with
    | none=>rw [hx] at hd;cases hd
    | some x =>
      rw [hx] at hd
      injection hd with hd
      subst hd
      have hj:j<s:=by rw [← hf (at_ d'[i]!)];exact (List.getElem?_eq_some_iff.1 hx).1
      have hlen:=enc_len d'[i]!
      have hu:(enc d'[i]!)[j]? = some (enc d'[i]!)[j]! := by rw [List.getElem?_eq_getElem (by omega),getElem!_pos (enc d'[i]!) j (by omega)]
      refine ⟨(enc d'[i]!)[j]!,?_,.g (enc_rd _ j x _ hx hu)⟩
      have hlt:i * s + j<n * s:=by have:=Nat.mul_le_mul_right s (show i + 1≤n from hi);rw [Nat.add_mul,Nat.one_mul] at this;omega
      show (putCells id 0 (flatK enc s d') cur).toList[i * s + j]? = _
      rw [Array.getElem?_toList,putCells_at (by omega) (by rw [size_flatK,hsz];exact hlt),flat_at d' hsz i j hi hj])
 have hE2:=grow_ext (putRowK enc s (Sort.ahead w m) b 0 d') os
 have r3:=r2.ext hE2 (fun _ _ h=>h) (fun _ _ h=>.inl h) (fun b' j hj=>Nat.lt_of_lt_of_le (r2.old b' j hj) hE2.size)
 have s3:=Stp.of_ext (S:=updS S k (some ⟨b,s,0,rS f (d'.toList.map at_)⟩)) hE2 (fun _ _ (h:I _ _)=>h) (fun _ _ h=>.inl h) r2.old
 refine ⟨(s1.trans s2).trans s3,r3,RdD.ofT .nil,rfl,d'.toList.map at_,?_,?_,rfl⟩
 ·have:=hd'l.map at_
  rwa [hxs] at this
 ·rw [List.pairwise_iff_getElem]
  intro i j hi hj hij
  simp only [List.length_map,Array.length_toList] at hi hj
  have h1:=hso i j (Nat.zero_le _) hij (by omega)
  rw [getElem!_pos d' i (by omega),getElem!_pos d' j (by omega)] at h1
  simpa [ltOf] using h1
end
end Go.V
namespace Go.V
open Go Go.RowKit Go.Proofs
theorem pfc_own {P:Program} {f:FuncId} {args:List D} {S:Store} {K:D→Store→Prop} {k:IntKind} {el:TypeId} {xs:List Nat} (nm:Nm) (h47:xs.length≤140737488355328)
 (h:∀ w I vs,GI I w→RdL I w.heap args vs→FC P f vs.toArray w fun r w'=>Ext w w'∧w'.ownsRow w.heap.size el 1 r xs.length (wc k xs))
 (hK:∀ d S',RowZ S' nm 1 d (rS (eK k) xs)→Keep nm S S'→K d S'):PFC P f args S K:=by
 intro w I vs hR hv
 refine (h w I vs hR.gi hv).mono ?_
 rintro r w' ⟨hE,hlen,hown⟩
 have hIs:∀ b j,I b j→I b j:=fun _ _ h=>h
 have r1:=hR.ext hE hIs (fun _ _ h=>.inl h) (fun b j hj=>Nat.lt_of_lt_of_le (hR.old b j hj) hE.size)
 have s1:=Stp.of_ext (S:=S) hE hIs (fun _ _ h=>.inl h) hR.old
 rcases hown with ⟨rfl,h0⟩|⟨g,cap,cur,rfl,hgb,hb,hn,hcm,hcs,htake⟩
 ·have hx:xs=[]:=List.eq_nil_of_length_eq_zero h0
  subst hx
  exact ⟨I,S,.nil,s1,r1,.nil,hK _ _ .nil .rfl⟩
 ·have hcell:∀ (i x:Nat),xs[i]? = some x→cur[i]? = some (.int k (x:Int)):=by
   intro i x hx
   have hi:i<xs.length:=(List.getElem?_eq_some_iff.1 hx).1
   have h3:(cur.toList.take (xs.length * 1))[i]? = (wc k xs)[i]? := by rw [htake]
   rw [List.getElem?_take,if_pos (by omega)] at h3
   simp only [Array.getElem?_toList] at h3
   rw [h3]
   simp [wc,hx]
  have hlt:∀ q B,S q=some B→B.b≠g:=fun q B hq e=>by have:=hR.lt hq;omega
  refine ⟨I,updS S nm (some ⟨g,1,0,rS (eK k) xs⟩),.own nm g 0 xs.length cap 1,⟨s1.os,s1.tape,s1.output,s1.size,s1.dr,s1.sub,s1.new,s1.ev,s1.frame,fun q C hq=>?_,s1.liveG⟩,⟨r1.gi,fun q C hq=>?_,fun q q' C C' hq hq' hbb=>?_,r1.gho⟩,?_,hK _ _ (.inr ⟨g,cap,by rw [rS_len],updS_at⟩) .upd⟩
  ·rw [updS_apply] at hq
   split at hq
   ·injection hq with hq;subst hq;exact .inl hgb
   ·exact s1.live q C hq
  ·rw [updS_apply] at hq
   split at hq
   ·injection hq with hq;subst hq
    refine ⟨cur,el,hb,by rw [rS_len];show xs.length * 1≤cur.size;omega,fun i es he=>?_,fun i es j d he hd=>?_,fun j hj=>?_,Nat.zero_le _⟩
    ·rw [rS_get] at he
     cases hx:xs[i]? with
     | none=>rw [hx] at he;cases he
     | some x=>rw [hx] at he;injection he with he;rw [← he];rfl
    ·rw [rS_get] at he
     cases hx:xs[i]? with
     | none=>rw [hx] at he;cases he
     | some x =>
       rw [hx] at he
       injection he with he
       subst he
       match j with
       | 0 =>
         simp only [eK,List.map_cons,List.map_nil,List.getElem?_cons_zero,Option.some.injEq] at hd
         subst hd
         exact ⟨_,by simpa using hcell i x hx,.g (.lit _ rfl)⟩
       | j + 1=>simp [eK] at hd
    ·have:=hR.old g j hj;omega
   ·exact r1.has q C hq
  ·rw [updS_apply] at hq hq'
   split at hq<;>split at hq'
   ·rename_i e1 e2;rw [e1,e2]
   ·rename_i e1 _;injection hq with hq;subst hq;exact (hlt q' C' hq' hbb.symm).elim
   ·rename_i _ e2;injection hq' with hq';subst hq';exact (hlt q C hq hbb).elim
   ·exact r1.inj q q' C C' hq hq' hbb
  ·have:=RdD.own (I:=I) (H:=w'.heap) nm g 0 xs.length cap 1 cur el (0,0) hn hcm h47 hb (by omega)
   simpa using this
theorem TInt:SlT Tryz.prog 43 3 1 8 (.int .i64 0):=⟨Tryz.underlying43,by kernel_rfl⟩
theorem cloneI {w:World} {v:Value} {B:Nat} {xs:List Nat} (h:Ws .i64 B w.heap v xs) (hl:xs.length≤17592186044416):FC Tryz.prog 57 #[v] w fun r w'=>Ext w w'∧w'.ownsRow w.heap.size 3 1 r xs.length (wc .i64 xs):=by
 refine FC.body (l:=[v]) (rs:=[.tmp 2]) mixed Tryz.func57 rfl (by kernel_rfl) (by kernel_rfl) (Nat.le_of_ble_eq_true rfl) rfl ?_
 rcases h.1.addr with ⟨rfl,h0⟩|⟨ad,cap,rfl⟩
 ·obtain rfl:=List.eq_nil_of_length_eq_zero h0
  repeat (first
   | (with_reducible refine vc_seq fun K hK=>?_)
   | (with_reducible refine vc_reg ?_)
   | (with_reducible refine vc_skip ?_)
   | (with_reducible refine vc_block ?_)
   | (with_reducible refine vc_scope ?_)
   | (with_reducible refine vc_label ?_)
   | (with_reducible refine vc_condT ?_ ?_;· simp only [opsV,dV,modeV,pureV,guardV,undef,opV,callV,intV,arith,ne_eq,Nat.min_def,vsB,seval,true_and]<;>rfl)
   | (with_reducible refine vc_condF ?_ ?_;· simp only [opsV,dV,modeV,pureV,guardV,undef,opV,callV,intV,arith,ne_eq,Nat.min_def,vsB,seval,true_and]<;>rfl)
   | (with_reducible refine vc_exit ?_;simp only [↓reduceIte,Nat.reduceEqDiff])
   | (with_reducible refine vc_ret ?_;simp only [retV,resL,one])
   | (with_reducible refine hK _ _ ?_;clear hK)
   | (clear hK;with_reducible refine hK _ _ ?_;clear hK)
   | (clear hK;clear hK;with_reducible refine hK _ _ ?_;clear hK)
   | (simp only [opsV,dV,modeV,pureV,guardV,undef,opV,callV,intV,arith,ne_eq,Nat.min_def,vsB,seval,true_and]))
  unfold binV
  refine ⟨_,_,eq_nil_none Tryz.underlying43,?_⟩
  repeat (first
   | (with_reducible refine vc_seq fun K hK=>?_)
   | (with_reducible refine vc_reg ?_)
   | (with_reducible refine vc_skip ?_)
   | (with_reducible refine vc_block ?_)
   | (with_reducible refine vc_scope ?_)
   | (with_reducible refine vc_label ?_)
   | (with_reducible refine vc_condT ?_ ?_;· simp only [opsV,dV,modeV,pureV,guardV,undef,opV,callV,intV,arith,ne_eq,Nat.min_def,vsB,seval,true_and]<;>rfl)
   | (with_reducible refine vc_condF ?_ ?_;· simp only [opsV,dV,modeV,pureV,guardV,undef,opV,callV,intV,arith,ne_eq,Nat.min_def,vsB,seval,true_and]<;>rfl)
   | (with_reducible refine vc_exit ?_;simp only [↓reduceIte,Nat.reduceEqDiff])
   | (with_reducible refine vc_ret ?_;simp only [retV,resL,one])
   | (with_reducible refine hK _ _ ?_;clear hK)
   | (clear hK;with_reducible refine hK _ _ ?_;clear hK)
   | (clear hK;clear hK;with_reducible refine hK _ _ ?_;clear hK)
   | (simp only [opsV,dV,modeV,pureV,guardV,undef,opV,callV,intV,arith,ne_eq,Nat.min_def,vsB,seval,true_and]))
  exact ⟨Ext.refl _,rfl,.inl ⟨rfl,rfl⟩⟩
 ·repeat (first
   | (with_reducible refine vc_seq fun K hK=>?_)
   | (with_reducible refine vc_reg ?_)
   | (with_reducible refine vc_skip ?_)
   | (with_reducible refine vc_block ?_)
   | (with_reducible refine vc_scope ?_)
   | (with_reducible refine vc_label ?_)
   | (with_reducible refine vc_condT ?_ ?_;· simp only [opsV,dV,modeV,pureV,guardV,undef,opV,callV,intV,arith,ne_eq,Nat.min_def,vsB,seval,true_and]<;>rfl)
   | (with_reducible refine vc_condF ?_ ?_;· simp only [opsV,dV,modeV,pureV,guardV,undef,opV,callV,intV,arith,ne_eq,Nat.min_def,vsB,seval,true_and]<;>rfl)
   | (with_reducible refine vc_exit ?_;simp only [↓reduceIte,Nat.reduceEqDiff])
   | (with_reducible refine vc_ret ?_;simp only [retV,resL,one])
   | (with_reducible refine hK _ _ ?_;clear hK)
   | (clear hK;with_reducible refine hK _ _ ?_;clear hK)
   | (clear hK;clear hK;with_reducible refine hK _ _ ?_;clear hK)
   | (simp only [opsV,dV,modeV,pureV,guardV,undef,opV,callV,intV,arith,ne_eq,Nat.min_def,vsB,seval,true_and]))
  unfold binV
  refine ⟨_,_,eq_nil_some Tryz.underlying43 _ _ _,?_⟩
  repeat (first
   | (with_reducible refine vc_seq fun K hK=>?_)
   | (with_reducible refine vc_reg ?_)
   | (with_reducible refine vc_skip ?_)
   | (with_reducible refine vc_block ?_)
   | (with_reducible refine vc_scope ?_)
   | (with_reducible refine vc_label ?_)
   | (with_reducible refine vc_condT ?_ ?_;· simp only [opsV,dV,modeV,pureV,guardV,undef,opV,callV,intV,arith,ne_eq,Nat.min_def,vsB,seval,true_and]<;>rfl)
   | (with_reducible refine vc_condF ?_ ?_;· simp only [opsV,dV,modeV,pureV,guardV,undef,opV,callV,intV,arith,ne_eq,Nat.min_def,vsB,seval,true_and]<;>rfl)
   | (with_reducible refine vc_exit ?_;simp only [↓reduceIte,Nat.reduceEqDiff])
   | (with_reducible refine vc_ret ?_;simp only [retV,resL,one])
   | (with_reducible refine hK _ _ ?_;clear hK)
   | (clear hK;with_reducible refine hK _ _ ?_;clear hK)
   | (clear hK;clear hK;with_reducible refine hK _ _ ?_;clear hK)
   | (simp only [opsV,dV,modeV,pureV,guardV,undef,opV,callV,intV,arith,ne_eq,Nat.min_def,vsB,seval,true_and]))
  obtain ⟨b2,w1,hs,hn⟩:=slice_lit (w:=w) TInt [] (by simp) (by simp)
  refine ⟨_,w1,hs,?_⟩
  try simp only [opsV,dV,modeV,pureV,guardV,undef,opV,callV,intV,arith,ne_eq,Nat.min_def,vsB,seval,true_and]
  have own:w1.ownsRow w.heap.size 3 1 (.slice (some ⟨b2,0,none⟩) 0 0) 0 []:=by
   refine ⟨rfl,.inr ⟨b2,0,#[],rfl,hn.fresh,?_,Nat.le_refl _,Nat.zero_le _,rfl,rfl⟩⟩
   exact hn.row
  obtain ⟨v',w2,h1,h2,h3⟩:=append_own (P:=Tryz.prog) TInt rfl (by decide) own (by have:=hn.ext.size;omega) (h.up hn.ext).1 (fun j _=>rfl) (by omega) (by omega) (t':=43) rfl (ty:=43)
  refine ⟨v',w2,h1,?_⟩
  repeat (first
   | (with_reducible refine vc_seq fun K hK=>?_)
   | (with_reducible refine vc_reg ?_)
   | (with_reducible refine vc_skip ?_)
   | (with_reducible refine vc_block ?_)
   | (with_reducible refine vc_scope ?_)
   | (with_reducible refine vc_label ?_)
   | (with_reducible refine vc_condT ?_ ?_;· simp only [opsV,dV,modeV,pureV,guardV,undef,opV,callV,intV,arith,ne_eq,Nat.min_def,vsB,seval,true_and]<;>rfl)
   | (with_reducible refine vc_condF ?_ ?_;· simp only [opsV,dV,modeV,pureV,guardV,undef,opV,callV,intV,arith,ne_eq,Nat.min_def,vsB,seval,true_and]<;>rfl)
   | (with_reducible refine vc_exit ?_;simp only [↓reduceIte,Nat.reduceEqDiff])
   | (with_reducible refine vc_ret ?_;simp only [retV,resL,one])
   | (with_reducible refine hK _ _ ?_;clear hK)
   | (clear hK;with_reducible refine hK _ _ ?_;clear hK)
   | (clear hK;clear hK;with_reducible refine hK _ _ ?_;clear hK)
   | (simp only [opsV,dV,modeV,pureV,guardV,undef,opV,callV,intV,arith,ne_eq,Nat.min_def,vsB,seval,true_and]))
  simp only [List.nil_append,wc_range,Nat.zero_add] at h2
  refine ⟨?_,h2⟩
  refine Bel.grown hn.ext (run_drawn _ _ h1) h3 (by have:=hn.ext.size;omega) ?_
  intro k hk
  simp only [Value.ownBlock,Option.some.injEq] at hk
  rw [← hk];exact hn.fresh
theorem nat_list {z:List Int} (h:∀ x ∈ z,0≤x):∃ xs:List Nat,z=xs.map fun x:Nat=>(x:Int):=by
 induction z with
 | nil=>exact ⟨[],rfl⟩
 | cons x z ih =>
   obtain ⟨xs,e⟩:=ih fun y hy=>h y (List.mem_cons_of_mem _ hy)
   have:=h x List.mem_cons_self
   exact ⟨x.toNat :: xs,by rw [e,List.map_cons];congr 1;omega⟩
theorem eS_nat {xs:List Nat}:eS eZ (xs.map fun x:Nat=>(x:Int))=eS (eK .i64) xs:=by
 unfold eS;rw [List.map_map];rfl
theorem rS_nat {xs:List Nat}:rS eZ (xs.map fun x:Nat=>(x:Int))=rS (eK .i64) xs:=by
 unfold rS;rw [List.map_map];rfl
theorem nat_bound (xs:List Nat):∃ B:Nat,∀ x ∈ xs,x<B:=by
 induction xs with
 | nil=>exact ⟨0,fun x hx=>by cases hx⟩
 | cons x xs ih =>
   obtain ⟨B,hB⟩:=ih
   refine ⟨max B (x + 1),fun y hy=>?_⟩
   rcases List.mem_cons.1 hy with rfl|hy
   ·omega
   ·have:=hB y hy;omega
theorem fc_clone {z:List Int} (hz:∀ x ∈ z,0≤x) (hl:z.length≤100000):∃ xs:List Nat,rS eZ z=rS (eK .i64) xs∧eS eZ z=eS (eK .i64) xs∧xs.length=z.length∧∀ w I vs,GI I w→RdL I w.heap [ZI z] vs→FC Tryz.prog 57 vs.toArray w fun r w'=>Ext w w'∧w'.ownsRow w.heap.size 3 1 r xs.length (wc .i64 xs):=by
 obtain ⟨xs,rfl⟩:=nat_list hz
 rw [List.length_map] at hl
 obtain ⟨B,hB⟩:=nat_bound xs
 refine ⟨xs,rS_nat,eS_nat,by rw [List.length_map],fun w I vs hG hv=>?_⟩
 obtain ⟨v,rfl,hr⟩:=hv.one
 unfold ZI at hr
 rw [eS_nat] at hr
 exact cloneI (rd_ws hr.g_inv hB) (by omega)
theorem p_CloneO {z:List Int} (hz:∀ x ∈ z,0≤x) (hl:z.length≤100000) {S:Store} {K:D→Store→Prop} (nm:Nm) (hK:∀ d S',RowZ S' nm 1 d (rS eZ z)→Keep nm S S'→K d S'):PFC Tryz.prog 57 [ZI z] S K:=by
 obtain ⟨xs,e1,_,e3,h⟩:=fc_clone hz hl
 rw [e1] at hK
 exact pfc_own nm (by omega) h hK
theorem p_Clone {z:List Int} (hz:∀ x ∈ z,0≤x) (hl:z.length≤100000):PC Tryz.prog 57 [ZI z] fun d=>d=ZI z:=by
 obtain ⟨xs,rfl⟩:=nat_list hz
 rw [List.length_map] at hl
 obtain ⟨B,hB⟩:=nat_bound xs
 refine pc_new fun w I vs hG hv=>?_
 obtain ⟨v,rfl,hr⟩:=hv.one
 unfold ZI at hr ⊢
 rw [eS_nat] at hr
 refine (cloneI (rd_ws hr.g_inv hB) (by omega)).mono ?_
 rintro r w' ⟨hE,ho⟩
 have hW:OW 3 .i64 B w' w.heap.size r xs:=⟨ho,hB,by omega⟩
 refine ⟨hE,_,.g (own_rd hW),?_⟩
 rw [eS_nat]
structure Sy (k H:Nat) (x:Nu):Prop where
 dg:x.w=D64 (N64 x.w)
 lo : -(H:Int)≤x.exp
 hi:x.exp≤H
 sm:Sm k H x.val
theorem Sy.wsz {k H:Nat} {x:Nu} (h:Sy k H x):N64 x.w<2 ^ k:=by
 obtain ⟨z,hz,hl⟩:=h.sm
 have h1:=h.lo
 obtain ⟨j,hj⟩:∃ j:Nat,x.exp=j - H:=⟨(x.exp + H).toNat,by omega⟩
 have e1:x.val=dy x.neg (N64 x.w * 2 ^ j) (-(H:Int)):=by
  rw [dy_shl]
  show dy x.neg (N64 x.w) x.exp=_
  congr 1;omega
 have e2:Dyadic.ofIntWithPrec z H=dy (decide (z<0)) z.natAbs (-(H:Int)):=by
  unfold dy;rw [sg_natAbs,Int.neg_neg]
 rw [e1,e2] at hz
 have h3:N64 x.w * 2 ^ j=z.natAbs:=by
  unfold dy at hz
  rw [owp_inj,sg_natAbs] at hz
  rw [← hz,sg_abs]
 have:N64 x.w * 1≤N64 x.w * 2 ^ j:=Nat.mul_le_mul_left _ (Nat.two_pow_pos j)
 omega
theorem Sy.sz {k H K:Nat} {x:Nu} (h:Sy k H x) (hk:k≤K) (hH:H≤K):Sz K x:=by
 refine ⟨by rw [h.dg];exact digs_lt (by decide) _,?_,by have:=h.lo;omega,by have:=h.hi;omega⟩
 rw [h.dg]
 refine Nat.le_trans (digs_len_le (k:=k) (by decide) (Nat.lt_of_lt_of_le h.wsz ?_)) hk
 exact Nat.pow_le_pow_left (by decide) _
theorem Sy.zero {k H:Nat}:Sy k H nu0:=⟨((digs_eq_nil (by decide)).2 rfl).symm,by show -(H:Int)≤0;omega,by show (0:Int)≤H;omega,by
 have e:Nu.val nu0=0:=dy0 _ _
 rw [e]
 exact ⟨0,by rw [show Dyadic.ofIntWithPrec 0 H=dy false 0 (-(H:Int)) by unfold dy;rw [Int.neg_neg];rfl,dy0],Nat.two_pow_pos k⟩⟩
theorem Sy.mono {k k' H:Nat} {x:Nu} (h:Sy k H x) (hk:k≤k'):Sy k' H x:=⟨h.dg,h.lo,h.hi,h.sm.mono hk⟩
theorem OkD.sy {d:Dyadic} (h:OkD d):Sy 135168 65536 (nuOf d):=by
 have h1:=h.sz.lo
 have h2:=h.sz.hi
 refine ⟨?_,h1,h2,by rw [val_nuOf];exact okD_sm h⟩
 rw [nuOf_f]
 exact (congrArg _ (nval_digs (by decide) _)).symm
theorem p_eAddS {k H:Nat} {a b:Nu} (ha:Sy k H a) (hb:Sy k H b) (hk:k≤10000000) (hH:H≤10000000):PC Tryz.prog 58 [NU a,NU b] fun d=>∃ z,d=NU z∧Sy (k + 1) H z∧z.val=a.val + b.val:=by
 have hm:k + H≤67108864:=by omega
 refine (p_eAddX (ha.sz (K:=k + H) (by omega) (by omega)) (hb.sz (K:=k + H) (by omega) (by omega)) hm).mono ?_
 rintro d ⟨z,rfl,_,hv,he,hw⟩
 refine ⟨z,rfl,⟨hw ha.dg hb.dg,?_,?_,by rw [hv];exact ha.sm.add hb.sm⟩,hv⟩
 ·have:=ha.lo;have:=hb.lo
  rcases he with he|he<;>omega
 ·have:=ha.hi;have:=hb.hi
  rcases he with he|he<;>omega
end Go.V
namespace Go.V
open Go Go.RowKit Go.Proofs
theorem cmpE_neg:∀ a b:List Int,cmpE b a = - cmpE a b
 | [],[]=>rfl
 | [],_ :: _=>rfl
 | _ :: _,[]=>rfl
 | x :: a,y :: b=>by
   have ih:=cmpE_neg a b
   unfold cmpE
   by_cases h1:x<y
   ·rw [if_neg (by omega),if_pos h1,if_pos h1];rfl
   ·by_cases h2:y<x
    ·rw [if_pos h2,if_neg h1,if_pos h2]
    ·rw [if_neg h2,if_neg h1,if_neg h1,if_neg h2];exact ih
theorem cmpE_eq:∀ {a b:List Int},cmpE a b=0→a=b
 | [],[],_=>rfl
 | [],_ :: _,h=>by exact absurd h (by show ¬ ((-1:Int)=0);decide)
 | _ :: _,[],h=>by exact absurd h (by show ¬ ((1:Int)=0);decide)
 | x :: a,y :: b,h=>by
   unfold cmpE at h
   split at h
   ·cases h
   ·split at h
    ·cases h
    ·rw [cmpE_eq h,show x=y by omega]
theorem cmpE_trans:∀ {a b c:List Int},cmpE a b<0→cmpE b c<0→cmpE a c<0
 | [],[],_,h,_=>by exact absurd h (by decide)
 | [],_ :: _,[],_,h=>by exact absurd h (by show ¬ ((1:Int)<0);decide)
 | [],_ :: _,_ :: _,_,_=>by show (-1:Int)<0;decide
 | _ :: _,[],_,h,_=>by exact absurd h (by show ¬ ((1:Int)<0);decide)
 | _ :: _,_ :: _,[],_,h=>by exact absurd h (by show ¬ ((1:Int)<0);decide)
 | x :: a,y :: b,z :: c,p,q=>by
   unfold cmpE at *
   by_cases a1:x<y
   ·by_cases a2:y<z
    ·rw [if_pos (by omega)];decide
    ·rw [if_neg a2] at q
     by_cases a3:z<y
     ·rw [if_pos a3] at q;exact absurd q (by decide)
     ·rw [if_pos (by omega)];decide
   ·rw [if_neg a1] at p
    by_cases a2:y<x
    ·rw [if_pos a2] at p;exact absurd p (by decide)
    ·rw [if_neg a2] at p
     obtain rfl:x=y:=by omega
     by_cases a3:x<z
     ·rw [if_pos a3];decide
     ·rw [if_neg a3] at q ⊢
      by_cases a4:z<x
      ·rw [if_pos a4] at q;exact absurd q (by decide)
      ·rw [if_neg a4] at q ⊢
       exact cmpE_trans p q
def aheadI (a b:Mo):Int:=cmpE b.e a.e
theorem ahead_swo:Go.Sort.SWO (Go.Proofs.ltOf aheadI) where
 irrefl x:=by unfold Go.Proofs.ltOf aheadI;rw [cmpE_self];rfl
 trans x y z h1 h2:=by
  unfold Go.Proofs.ltOf aheadI at *
  simp only [decide_eq_true_eq] at *
  exact cmpE_trans h2 h1
 ntrans x y z h1 h2:=by
  unfold Go.Proofs.ltOf aheadI at *
  simp only [decide_eq_false_iff_not] at *
  intro h
  rcases cmpE_cases y.e x.e with a|a|a
  ·exact h1 (by omega)
  ·rw [cmpE_eq a] at h2;exact h2 h
  ·rcases cmpE_cases z.e y.e with b|b|b
   ·exact h2 (by omega)
   ·rw [cmpE_eq b] at h;omega
   ·have p:cmpE x.e y.e<0:=by rw [cmpE_neg];omega
    have q:cmpE y.e z.e<0:=by rw [cmpE_neg];omega
    have r:=cmpE_trans p q
    rw [cmpE_neg] at r
    omega
theorem insT_hit {n:Nat} {t:Te} (ht:t.e.length=n):∀ {C D:List Te} {x:Te},SortT n (C ++ x :: D)→x.e=t.e→insT (C ++ x :: D) t=C ++ ⟨x.v + t.v,x.e⟩ :: D
 | [],D,x,_,he=>by
   rw [List.nil_append,insT_cons,he,ordE_self,if_neg (by decide),if_pos rfl];rfl
 | c :: C,D,x,h,he=>by
   have hc:=(List.pairwise_cons.1 h.ord).1 x (by simp)
   rw [List.cons_append,insT_cons,← he,if_pos hc]
   have hr:SortT n (C ++ x :: D):=⟨fun y hy=>h.len y (List.mem_cons_of_mem _ hy),(List.pairwise_cons.1 h.ord).2⟩
   rw [insT_hit ht hr he];rfl
theorem insT_miss {n:Nat} {t:Te} (ht:t.e.length=n):∀ {out:List Te},(∀ y ∈ out,y.e.length=n)→(∀ y ∈ out,y.e≠t.e)→(insT out t).Perm (t :: out)
 | [],_,_=>by rw [insT_nil]
 | x :: r,hl,hn=>by
   rw [insT_cons]
   split
   ·have ih:=insT_miss ht (out:=r) (fun y hy=>hl y (List.mem_cons_of_mem _ hy)) (fun y hy=>hn y (List.mem_cons_of_mem _ hy))
    exact (ih.cons x).trans (List.Perm.swap t x r)
   ·split
    ·rename_i h0
     exact absurd (ordE_eq (by rw [hl x List.mem_cons_self,ht]) h0) (hn x List.mem_cons_self)
    ·exact List.Perm.refl _
theorem acc_miss {n:Nat} {t:Te} {all out:List Te} (hp:all.Perm out) (hs:SortT n out) (ht:t.e.length=n) (hn:∀ x ∈ all,x.e≠t.e):(all ++ [t]).Perm (insT out t):=by
 refine (List.perm_append_singleton t all).trans ((hp.cons t).trans (insT_miss ht hs.len fun y hy=>hn y (hp.mem_iff.2 hy)).symm)
theorem acc_hit {n:Nat} {t x:Te} {all out:List Te} (hp:all.Perm out) (hs:SortT n out) (ht:t.e.length=n) {i:Nat} (hx:all[i]? = some x) (he:x.e=t.e):(all.set i ⟨x.v + t.v,x.e⟩).Perm (insT out t):=by
 obtain ⟨hi,hxi⟩:=List.getElem?_eq_some_iff.1 hx
 have e1:all=all.take i ++ x :: all.drop (i + 1):=by
  rw [← hxi,← List.drop_eq_getElem_cons hi,List.take_append_drop]
 have e2:all.set i ⟨x.v + t.v,x.e⟩=all.take i ++ ⟨x.v + t.v,x.e⟩ :: all.drop (i + 1):=by
  rw [List.set_eq_take_append_cons_drop,if_pos hi]
 obtain ⟨C,D,hCD⟩:=List.append_of_mem (hp.mem_iff.1 (List.mem_of_getElem? hx))
 rw [hCD] at hs hp ⊢
 rw [insT_hit ht hs he,e2]
 rw [e1] at hp
 have h3:(x :: (all.take i ++ all.drop (i + 1))).Perm (x :: (C ++ D)):=(List.perm_middle.symm.trans hp).trans List.perm_middle
 exact List.perm_middle.trans ((h3.cons_inv.cons _).trans List.perm_middle.symm)
theorem monoN_bad {out:List Te} {y:Te} (hy:y ∈ out) (hb:¬ OkD y.v):monoN out out.length=([],2):=by
 have key:∀ i,i≤out.length→(monoN out i).2=0∧(∀ j,j<i→OkD (gT out j).v)∨monoN out i=([],2):=by
  intro i
  induction i with
  | zero=>exact fun _=>.inl ⟨rfl,fun j hj=>by omega⟩
  | succ i ih =>
    intro hi
    rcases ih (by omega) with ⟨h1,h2⟩|h1
    ·unfold monoN
     rw [if_pos h1]
     by_cases h0:(gT out i).v=0
     ·rw [if_pos h0]
      refine .inl ⟨h1,fun j hj=>?_⟩
      rcases Nat.lt_or_ge j i with h|h
      ·exact h2 j h
      ·obtain rfl:j=i:=by omega
       rw [h0];exact OkD.zero
     ·rw [if_neg h0]
      by_cases ho:OkD (gT out i).v
      ·rw [numR_ok ho,if_pos rfl]
       refine .inl ⟨rfl,fun j hj=>?_⟩
       rcases Nat.lt_or_ge j i with h|h
       ·exact h2 j h
       ·obtain rfl:j=i:=by omega
        exact ho
      ·have:(numR (gT out i).v).2=2:=by unfold numR;rw [if_neg (show ¬ (nuOf (gT out i).v).Ok from ho)]
       rw [this,if_neg (by decide)]
       exact .inr rfl
    ·refine .inr ?_
     unfold monoN
     rw [h1,if_neg (by decide)]
 rcases key out.length (Nat.le_refl _) with ⟨_,h2⟩|h1
 ·obtain ⟨j,hj⟩:=List.getElem?_of_mem hy
  have hjl:j<out.length:=(List.getElem?_eq_some_iff.1 hj).1
  have e:=gT_at hjl
  rw [hj] at e
  injection e with e
  rw [e] at hb
  exact absurd (h2 j hjl) hb
 ·exact h1
def outM (all:List Te):List Mo:=(all.filter fun t=>decide (t.v≠0)).map moT
theorem outM_app {all:List Te} {t:Te}:outM (all ++ [t])=if t.v=0 then outM all else outM all ++ [moT t]:=by
 unfold outM
 rw [List.filter_append,List.map_append]
 by_cases h:t.v=0
 ·rw [if_pos h];simp [h]
 ·rw [if_neg h];simp [h]
theorem outM_len (all:List Te):(outM all).length≤all.length:=by
 unfold outM
 rw [List.length_map]
 exact List.length_filter_le _ _
theorem gathR_bad {l all:List Te} (hp:all.Perm (gathN l l.length)) {y:Te} (hy:y ∈ all) (hb:¬ OkD y.v):gathR l=([],2):=by
 unfold gathR
 rw [monoN_bad (hp.mem_iff.1 hy) hb,if_neg (by decide)]
theorem gathR_long {l all:List Te} (hp:all.Perm (gathN l l.length)) (ho:∀ y ∈ all,OkD y.v) (h:24<(outM all).length):gathR l=([],6):=by
 unfold gathR
 have e:=monoN_ok (fun y hy=>ho y (hp.mem_iff.2 hy)) (gathN l l.length).length (Nat.le_refl _)
 rw [List.take_length] at e
 have hl:(outM all).length=(((gathN l l.length).filter fun t=>decide (t.v≠0)).map moT).length:=((hp.filter _).map moT).length_eq
 rw [e,if_pos rfl,if_neg (by simp only;omega)]
theorem gathR_sorted {n:Nat} {l all:List Te} (hl:∀ t ∈ l,t.e.length=n) (hp:all.Perm (gathN l l.length)) (ho:∀ y ∈ all,OkD y.v) (h:(outM all).length≤24) {ys:List Mo} (hy:ys.Perm (outM all)) (hs:ys.Pairwise fun x y=>¬ aheadI y x<0):gathR l=(ys,0):=by
 have hso:=gathN_sort hl l.length (Nat.le_refl _)
 unfold gathR
 have e:=monoN_ok (fun y hy=>ho y (hp.mem_iff.2 hy)) (gathN l l.length).length (Nat.le_refl _)
 rw [List.take_length] at e
 have hq:(outM all).Perm (((gathN l l.length).filter fun t=>decide (t.v≠0)).map moT):=(hp.filter _).map moT
 rw [e,if_pos rfl,if_pos (by have:=hq.length_eq;simp only;omega)]
 generalize gathN l l.length=out at *
 have hqs:(((out.filter fun t=>decide (t.v≠0)).map moT)).Pairwise fun a b=>a.e.length=n∧b.e.length=n∧0<ordE a.e b.e :=
  List.Pairwise.map _ (fun a b h=>h) (List.Pairwise.filter _ (hso.ord.imp_of_mem (S:=fun a b=>a.e.length=n∧b.e.length=n∧0<ordE a.e b.e) fun ha hb h=>⟨hso.len _ ha,hso.len _ hb,h⟩))
 have hyq:=hy.trans hq
 generalize (out.filter fun t=>decide (t.v≠0)).map moT=q at *
 congr 1
 have hone:∀ a ∈ q,∀ b ∈ q,a.e=b.e→a=b:=by
  intro a ha b hb he
  rcases Classical.em (a=b) with h1|h1
  ·exact h1
  ·exfalso
   have hpn:q.Pairwise fun a b=>a.e≠b.e:=hqs.imp fun {a b} h he=>by rw [he,ordE_self] at h;exact absurd h.2.2 (by decide)
   obtain ⟨i,hi,rfl⟩:=List.getElem_of_mem ha
   obtain ⟨j,hj,rfl⟩:=List.getElem_of_mem hb
   rcases Nat.lt_trichotomy i j with h|h|h
   ·exact List.pairwise_iff_getElem.1 hpn i j hi hj h he
   ·subst h;exact h1 rfl
   ·exact List.pairwise_iff_getElem.1 hpn j i hj hi h he.symm
 have hq2:q.Pairwise fun x y=>¬ aheadI y x<0:=hqs.imp fun {a b} h=>by
  have e2:=ordE_cmpE (h.1.trans h.2.1.symm)
  unfold aheadI
  rw [cmpE_neg]
  omega
 symm
 refine List.Perm.eq_of_pairwise (le:=fun x y=>¬ aheadI y x<0) (fun a b ha hb h1 h2=>?_) hs hq2 hyq
 refine hone a (hyq.mem_iff.1 ha) b hb ?_
 unfold aheadI at h1 h2
 rw [cmpE_neg] at h2
 have:cmpE a.e b.e=0:=by omega
 exact cmpE_eq this
end Go.V
