/- The row's frame: what comes in as data, what is left. The row's frame: a number (api.Num) that comes in. The row's frame: slices, of numbers and of structs, that come in. For every list of words, Right, Trim, Bits and Zeros of package nat answer what the document's numbers say, and the argument is left as it was; the one table at package level is tied to the program's text. -/
import Derived.Test.YtgapammfekmihaaGreatDoorZaPT
import Derived.Test.YtgapammfekmihaaGreatDoorTie
import Derived.Test.YtgapammfekmihaaGreatDoorCards
import Derived.ProofKit
import Derived.LaidMore
import Derived.OpenShut
import Derived.Stop.Joined
import Derived.SizedLaws
import Derived.Carry
import Derived.ChangeSame
import Derived.SevenTiedAt
import Derived.Test.YtgapammfekmihaaGreatDoorZaPX
import Derived.Deep.Strs
import Derived.Deep.Slices
set_option linter.unusedSimpArgs false
set_option linter.unusedVariables false
set_option maxRecDepth 100000
namespace Go.V
open Go Go.RowKit Go.Proofs Go.WideShapes Go.ChangeShapes Go.ChangeAt Go.WideElems
section
variable {H:Type} {enc:TypeId × Value→H} {P:Program}
theorem post_below {f:Func} {s:ChangeSpec} {apart fresh handsOn again:Bool} {W W':World} {args:Array Value} {v:Value} {ds gs:List (DataW H)} {before pa pv:List MemPlace}
 (hW:DataW.Whole enc P f.params.toList s.vars apart W args.toList ds gs before)
 (hres:∀ (b:Nat) (sp:Nat→Bool) (hd:Bool),DataW.TrodAll enc P W' b sp hd f.resultTypes.toList (v.resultList f.resultTypes.size) (s.fn H (ds ++ gs)).results [])
 (hargs:∀ sp:Nat→Bool,(∀ p ∈ before,sp p.block=true)→DataW.TrodAll enc P W' 0 sp true f.params.toList args.toList (s.fn H (ds ++ gs)).args pa)
 (hvars:∀ sp:Nat→Bool,(∀ p ∈ before,sp p.block=true)→DataW.TrodVars enc P W' sp s.vars (s.fn H (ds ++ gs)).vars pv)
 (hps:before=pa ++ pv) (hb:Below W.heap.size W W')
 (hok:∀ (j:Nat) (t:TypeId) (r:Value),f.resultTypes[j]? = some t→(v.resultList f.resultTypes.size)[j]? = some r→Value.okWide P W' .any 0 t r) :
 s.post enc P f apart fresh handsOn again W args v W':=by
 have hlt:∀ p ∈ before,p.block<W.heap.size:=fun p hp=>hW.lt p hp
 have hold:∀ p ∈ before,(fun b=>decide (b<W.heap.size)) p.block=true:=fun p hp=>by simpa using hlt p hp
 refine ⟨ds,gs,before,[],pa,pv,hW,hres _ _ _,hargs _ hold,hvars _ hold,World.keptBut_mono (fun p hp=>⟨hp,?_⟩) (hb.frame (· ∈ before)),fun _=>?_⟩
 ·rw [hps,List.mem_append] at hp
  exact Or.inr hp
 ·obtain ⟨_,_,_,_,_,hz,hn⟩:=hW
  refine ⟨hok,_,_,([] ++ pa) ++ pv,⟨[] ++ pa,pv,trodAll_append (hargs _ (fun _ _=>rfl)) (hres _ _ _),hvars _ (fun _ _=>rfl),rfl,?_,?_⟩,?_⟩
  ·intro b off hp
   have hin:MemPlace.cell b off ∈ before:=by rw [hps];simpa using hp
   rw [hb.frozen (hlt _ hin)]
   exact hz b off hin
  ·intro ha
   have:=hn ha
   rw [hps] at this
   simpa using this
  ·intro p hp _
   rw [hps]
   simpa using hp
theorem trodAll_stays {W W':World} {sp:Nat→Bool} (hl:laidOutB P=true) (hb:Below W.heap.size W W'):∀ {ts:List TypeId} {vs:List Value} {ds:List (DataW H)} {ps:List MemPlace},
 (∀ t ∈ ts,P.readableRec t=true∧t<P.types.size)→DataW.TrodAll enc P W 0 (fun _=>true) true ts vs ds ps→(∀ p ∈ ps,p.block<W.heap.size)→(∀ p ∈ ps,sp p.block=true)→DataW.TrodAll enc P W' 0 sp true ts vs ds ps
 | [],[],[],ps,_,h,_,_=>h
 | t :: ts,v :: vs,d :: ds,ps,ht,⟨p,q,h1,h2,h3⟩,hlt,hs=>by
   subst h3
   refine ⟨p,q,?_,?_,rfl⟩
   ·exact WideElems.Trod_stays hl (ht t (by simp)).1 (ht t (by simp)).2 h1 (fun x hx=>hb.same (hlt x (by simp [hx]))) (fun x hx=>hs x (by simp [hx]))
   ·exact trodAll_stays hl hb (fun t h=>ht t (by simp [h])) h2 (fun x hx=>hlt x (by simp [hx])) (fun x hx=>hs x (by simp [hx]))
end
def oldI (w:World):CI:=fun b _=>b<w.heap.size
theorem open_int {H:Type} {enc:TypeId × Value→H} {P:Program} {w:World} {base:Nat} {T:TypeId} {k:IntKind} {v:Value} {d:DataW H} {ps:List MemPlace} (hu:P.underlying T=some (.int k))
 (h:DataW.Trod enc P w 0 (fun _=>true) true T v d ps) (hv:Value.okWide P w .any base T v):∃ n:Int,v=.int k n∧(Lit.int k n).wf=true:=by
 obtain ⟨m,hn⟩:=h
 obtain ⟨n,hcs,_,hwf⟩:=DataW.trod_int hu hn
 refine ⟨n,?_,hwf⟩
 cases v<;>simp [Value.cells] at hcs
 ·obtain ⟨rfl,rfl⟩:=hcs;rfl
 ·have hv':=hv
  simp [Value.okWide,hcs, *] at hv'
  try simp only [Cell.okWide,Cell.ok] at hv'
  try simp_all
theorem open_words {H:Type} {enc:TypeId × Value→H} {P:Program} {w:World} {base:Nat} {T E:TypeId} {k:IntKind} {v:Value} {d:DataW H} {ps:List MemPlace} (hu:P.underlying T=some (.slice E)) (he:P.underlying E=some (.int k)) (hc:P.cellsOf E=1)
 (h:DataW.Trod enc P w 0 (fun _=>true) true T v d ps) (hv:Value.okWide P w .any base T v) (hk:k=.u64∨k=.u32) (hlen:∀ el sp,d=.slice el sp→el.length + sp.length≤140737488355328) :
 ∃ xs:List Nat,RdG (oldI w) w.heap (eS (eK k) xs) v∧(∀ x ∈ xs,(x:Int)≤k.max):=by
 obtain ⟨n,hn⟩:=h
 have hvc:∀ u,v.cells.toList=[u]→v=u:=by
  intro u hu
  cases v<;>simp [Value.cells] at hu<;>first|exact hu|skip
  rename_i cs
  have hv':=hv
  simp [Value.okWide,hu, *] at hv'
  simp only [Cell.okWide,Cell.ok] at hv'
  simp_all
 rcases open_ints hu he hc hn with ⟨hcs,hx⟩|⟨a,len,cap,zs,hcs,_,hle,hmax,hzl,hx,hcell,hwf⟩
 ·obtain rfl:=hvc _ hcs
  exact ⟨[],.nil,by simp⟩
 ·obtain rfl:=hvc _ hcs
  simp only [Value.okWide,hu] at hv
  simp only [Cell.okWide,hu,Cell.ok] at hv
  obtain ⟨_,_,_,hspot,row,cells,hsh,_⟩:=hv
  obtain ⟨b,off,spot⟩:=a
  simp only at hspot
  subst hspot
  have hb:∃ cur el fr,w.heap[b]? = some (.cells cur el fr):=by
   unfold World.shape? at hsh
   simp only at hsh
   split at hsh
   ·rename_i c el fr hh;exact ⟨c,el,fr,hh⟩
   ·cases hsh
  obtain ⟨cur,el,fr,hb⟩:=hb
  have hnn:∀ z ∈ zs,0≤z∧z≤k.max:=by
   intro z hz
   have:=hwf z hz
   rcases hk with rfl|rfl<;>simp [Lit.wf,IntKind.min,IntKind.max,IntKind.signed,IntKind.bits] at this ⊢<;>omega
  simp only [Prod.mk.injEq] at hx
  have hl:=hlen _ _ hx.1
  have hzl':zs.length=cap:=by simpa using hzl
  have hlen47:len≤140737488355328:=by simp [lits] at hl;omega
  have hcur:∀ i,i<len→cur[off + i]? = some (.int k (zs.getD i 0)):=by
   intro i hi
   have h1:=hcell i (by omega)
   rw [addr_add] at h1
   simpa [World.cell?,hb] using h1
  have hbl:b<w.heap.size:=(Array.getElem?_eq_some_iff.1 hb).1
  refine ⟨(zs.take len).map Int.toNat,?_,?_⟩
  ·have hat:∀ (i:Nat) (es:List G),(((zs.take len).map Int.toNat).map (eK k))[i]? = some es→i<len∧es=[.lit (.int k (zs.getD i 0))]:=by
    intro i es hi
    simp only [List.getElem?_map,List.getElem?_take] at hi
    split at hi
    ·rename_i hil
     have hz:zs[i]? = some (zs.getD i 0):=by simp [List.getD,List.getElem?_eq_getElem (show i<zs.length by omega)]
     rw [hz] at hi
     simp only [Option.map_some] at hi
     injection hi with hi
     refine ⟨hil,?_⟩
     rw [← hi]
     have:=(hnn _ (List.mem_of_getElem? hz)).1
     simp only [eK]
     rw [Int.toNat_of_nonneg this]
    ·simp at hi
   unfold eS
   refine .sl _ b off len cap 1 cur el fr (fun i _=>.int k (zs.getD i 0)) (by simp;omega) (by simp;omega) (by simp;omega) hb (fun es he'=>?_) (fun i es j g hi hg=>?_) (fun i es j g hi hg=>?_)
   ·obtain ⟨x,_,rfl⟩:=List.mem_map.1 he';rfl
   ·obtain ⟨hil,rfl⟩:=hat i es hi
    cases j with
    | zero=>exact ⟨hbl,by simpa using hcur i hil⟩
    | succ j=>simp at hg
   ·obtain ⟨hil,rfl⟩:=hat i es hi
    cases j with
    | zero=>simp at hg;subst hg;exact .lit _ rfl
    | succ j=>simp at hg
  ·intro x hx'
   obtain ⟨z,hz,rfl⟩:=List.mem_map.1 hx'
   have:=hnn z (List.mem_of_mem_take hz)
   rw [Int.toNat_of_nonneg this.1]
   exact this.2
end Go.V
namespace Go.V
open Go Go.RowKit Go.Proofs Go.WideShapes Go.ChangeShapes Go.ChangeAt Go.WideElems
end Go.V
namespace Go.V
open Go Go.RowKit Go.Proofs Go.WideShapes Go.ChangeShapes Go.ChangeAt Go.WideElems
section
variable {H:Type} {enc:TypeId × Value→H} {P:Program} {w:World}
def Lt (P:Program) (t:TypeId) (d:DataW H):Prop:=∀ x ∈ d.weights P t,x≤reachBytes
def Opens (enc:TypeId × Value→H) (P:Program) (w:World) (T:TypeId) (s:Nat) {α:Type} (f:α→List G) (Q:α→Prop):Prop :=
 ∀ (n:Nat) (cs:List Value) (y:DataW H × List MemPlace),DataW.trod enc P w 0 (fun _=>true) true n T cs=some y→Lt P T y.1 →
   cs.length=s∧∃ x,(f x).length=s∧Q x∧∀ (j:Nat) (g:G) (u:Value),(f x)[j]? = some g→cs[j]? = some u→RdG (oldI w) w.heap g u
theorem Opens.to {T:TypeId} {s:Nat} {α β:Type} {f:α→List G} {Q:α→Prop} {f':β→List G} {Q':β→Prop} (h:Opens enc P w T s f Q) (hx:∀ x,Q x→∃ y,f' y=f x∧Q' y):Opens enc P w T s f' Q':=fun n cs y ht hl=>by
 obtain ⟨h1,x,h2,hq,h3⟩:=h n cs y ht hl
 obtain ⟨y,e,hq'⟩:=hx x hq
 exact ⟨h1,y,by rw [e];exact h2,hq',by rw [e];exact h3⟩
theorem cell_block {a:Addr} {v:Value} (h:w.cell? a=some v):a.spot=none∧∃ cur el fr,w.heap[a.block]? = some (.cells cur el fr)∧cur[a.off]? = some v:=by
 unfold World.cell? at h
 split at h
 ·rename_i c el fr hh
  split at h
  ·cases h
  ·rename_i hs
   exact ⟨by simpa using hs,c,el,fr,hh,h⟩
 ·cases h
theorem Lt.slice {t e:TypeId} {els sp:List (DataW H)} (hu:P.underlying t=some (.slice e)) (h:Lt P t (.slice els sp)):(els.length + sp.length) * P.bytesOf e≤reachBytes∧∀ d ∈ els,Lt P e d:=by
 have hall:∀ (l:List (DataW H)),(∀ x ∈ DataW.weightsAll P e l,x≤reachBytes)→∀ d ∈ l,Lt P e d:=by
  intro l
  induction l with
  | nil=>intro _ d hd;cases hd
  | cons a r ih =>
    intro hl d hd
    rcases List.mem_cons.1 hd with rfl|hd
    ·exact fun x hx=>hl x (by simp only [DataW.weightsAll];exact List.mem_append_left _ hx)
    ·exact ih (fun x hx=>hl x (by simp only [DataW.weightsAll];exact List.mem_append_right _ hx)) d hd
 unfold Lt at h
 simp only [DataW.weights,hu] at h
 exact ⟨h _ List.mem_cons_self,hall els fun x hx=>h x (List.mem_cons_of_mem _ (List.mem_append_left _ hx))⟩
def eN (k:IntKind) (z:Int):List G:=[.lit (.int k z)]
theorem opens_ints {T E:TypeId} {k:IntKind} (hu:P.underlying T=some (.slice E)) (he:P.underlying E=some (.int k)) (hc:P.cellsOf E=1) (hb8:P.bytesOf E=8) :
 Opens enc P w T 1 (fun zs:List Int=>[eS (eN k) zs]) (fun zs=>∀ z ∈ zs,(Lit.int k z).wf=true):=fun n cs y h hl=>by
 rcases open_ints hu he hc h with ⟨rfl,hx⟩|⟨a,len,cap,zs,rfl,_,hle,hmax,hzl,hx,hcell,hwf⟩
 ·refine ⟨rfl,[],rfl,fun z hz=>(by cases hz),fun j g u hg hu=>?_⟩
  match j with
  | 0=>cases hg;cases hu;exact .nil
  | j + 1=>simp at hg
 ·have hzl':zs.length=cap:=by simpa using hzl
  have h47:len≤140737488355328:=by
   rw [hx] at hl
   have h1:=(hl.slice hu).1
   rw [hb8] at h1
   have h2:=reachBytes_lt
   simp [lits] at h1
   omega
  refine ⟨rfl,zs.take len,rfl,fun z hz=>hwf z (List.mem_of_mem_take hz),fun j g u hg hu=>?_⟩
  match j with
  | j + 1=>simp at hg
  | 0 =>
  cases hg;cases hu
  unfold eS
  by_cases h0:cap=0
  ·subst h0
   obtain rfl:len=0:=by omega
   rw [List.take_zero]
   exact .nilA a
  ·obtain ⟨hspot,cur,el,fr,hb,_⟩:=cell_block (hcell 0 (by omega))
   obtain ⟨b,off,spot⟩:=a
   have hspot':spot=none:=hspot
   subst hspot'
   have hb':w.heap[b]? = some (.cells cur el fr):=hb
   have hcur:∀ i,i<len→cur[off + i]? = some (.int k (zs.getD i 0)):=by
    intro i hi
    have h1:=hcell i (by omega)
    rw [addr_add] at h1
    simpa [World.cell?,hb'] using h1
   have hbl:b<w.heap.size:=(Array.getElem?_eq_some_iff.1 hb').1
   have hat:∀ (i:Nat) (es:List G),((zs.take len).map (eN k))[i]? = some es→i<len∧es=[.lit (.int k (zs.getD i 0))]:=by
    intro i es hi
    simp only [List.getElem?_map,List.getElem?_take] at hi
    split at hi
    ·rename_i hil
     have hz:zs[i]? = some (zs.getD i 0):=by simp [List.getD,List.getElem?_eq_getElem (show i<zs.length by omega)]
     rw [hz] at hi
     simp only [Option.map_some] at hi
     injection hi with hi
     exact ⟨hil,hi.symm⟩
    ·simp at hi
   refine .sl _ b off len cap 1 cur el fr (fun i _=>.int k (zs.getD i 0)) (by simp;omega) (by simp;omega) (by simp;omega) hb' (fun es he'=>?_) (fun i es j g hi hg=>?_) (fun i es j g hi hg=>?_)
   ·obtain ⟨x,_,rfl⟩:=List.mem_map.1 he';rfl
   ·obtain ⟨hil,rfl⟩:=hat i es hi
    obtain rfl:j=0:=by
     match j with
     | 0=>rfl
     | j + 1=>simp at hg
    exact ⟨hbl,by simpa using hcur i hil⟩
   ·obtain ⟨hil,rfl⟩:=hat i es hi
    match j with
    | 0=>cases hg;exact .lit _ rfl
    | j + 1=>simp at hg
theorem opens_bool {T:TypeId} (hu:P.underlying T=some .bool):Opens enc P w T 1 (fun b:Bool=>[.lit (.bool b)]) (fun _=>True):=fun n cs y h _=>by
 obtain ⟨s,rfl,_⟩:=DataW.trod_bool hu h
 refine ⟨rfl,s,rfl,trivial,fun j g u hg hu=>?_⟩
 match j with
 | 0=>cases hg;cases hu;exact .lit _ rfl
 | j + 1=>simp at hg
theorem opens_int {T:TypeId} {k:IntKind} (hu:P.underlying T=some (.int k)):Opens enc P w T 1 (fun z:Int=>[.lit (.int k z)]) (fun z=>(Lit.int k z).wf=true):=fun n cs y h _=>by
 obtain ⟨z,rfl,_,hwf⟩:=DataW.trod_int hu h
 refine ⟨rfl,z,rfl,hwf,fun j g u hg hu=>?_⟩
 match j with
 | 0=>cases hg;cases hu;exact .lit _ rfl
 | j + 1=>simp at hg
theorem rd_app {f g:List G} {cs ds:List Value} (hf:f.length=cs.length) (h1:∀ (j:Nat) (x:G) (u:Value),f[j]? = some x→cs[j]? = some u→RdG (oldI w) w.heap x u) (h2:∀ (j:Nat) (x:G) (u:Value),g[j]? = some x→ds[j]? = some u→RdG (oldI w) w.heap x u) :
 ∀ (j:Nat) (x:G) (u:Value),(f ++ g)[j]? = some x→(cs ++ ds)[j]? = some u→RdG (oldI w) w.heap x u:=fun j x u hx hu=>by
 by_cases hj:j<f.length
 ·rw [List.getElem?_append_left hj] at hx
  rw [List.getElem?_append_left (by omega)] at hu
  exact h1 j x u hx hu
 ·rw [List.getElem?_append_right (by omega)] at hx
  rw [List.getElem?_append_right (by omega)] at hu
  rw [← hf] at hu
  exact h2 _ x u hx hu
theorem opens_struct2 {T:TypeId} {f0 f1:Field} {s0 s1:Nat} {α β:Type} {e0:α→List G} {e1:β→List G} {Q0:α→Prop} {Q1:β→Prop} (hu:P.underlying T=some (.struct #[f0,f1])) (hc:P.cellsOf T=s0 + s1) (o0:f0.offset=0) (o1:f1.offset=s0) (c0:P.cellsOf f0.type=s0) (c1:P.cellsOf f1.type=s1)
 (h0:Opens enc P w f0.type s0 e0 Q0) (h1:Opens enc P w f1.type s1 e1 Q1):Opens enc P w T (s0 + s1) (fun x:α × β=>e0 x.1 ++ e1 x.2) (fun x=>Q0 x.1∧Q1 x.2):=fun n cs y h hl=>by
 obtain ⟨y0,y1,m,rfl,hlen,t0,t1⟩:=trod_struct2 hu h
 rw [o0,c0,List.drop_zero] at t0
 rw [o1,c1] at t1
 have hl0:Lt P f0.type y0.1:=fun x hx=>hl x (by simp [DataW.weights,DataW.weightsEach,hu,hx])
 have hl1:Lt P f1.type y1.1:=fun x hx=>hl x (by simp [DataW.weights,DataW.weightsEach,hu,hx])
 obtain ⟨k0,x0,l0,q0,r0⟩:=h0 _ _ _ t0 hl0
 obtain ⟨k1,x1,l1,q1,r1⟩:=h1 _ _ _ t1 hl1
 rw [hc] at hlen
 refine ⟨hlen,(x0,x1),by simp [l0,l1],⟨q0,q1⟩,?_⟩
 have e:cs=cs.take s0 ++ (cs.drop s0).take s1:=by
  rw [List.take_of_length_le (l:=cs.drop s0) (by simp;omega),List.take_append_drop]
 rw [e]
 exact rd_app (by rw [l0,k0]) r0 r1
theorem opens_struct3 {T:TypeId} {f0 f1 f2:Field} {s0 s1 s2:Nat} {α β γ:Type} {e0:α→List G} {e1:β→List G} {e2:γ→List G} {Q0:α→Prop} {Q1:β→Prop} {Q2:γ→Prop} (hu:P.underlying T=some (.struct #[f0,f1,f2])) (hc:P.cellsOf T=s0 + s1 + s2) (o0:f0.offset=0) (o1:f1.offset=s0) (o2:f2.offset=s0 + s1) (c0:P.cellsOf f0.type=s0) (c1:P.cellsOf f1.type=s1) (c2:P.cellsOf f2.type=s2)
 (h0:Opens enc P w f0.type s0 e0 Q0) (h1:Opens enc P w f1.type s1 e1 Q1) (h2:Opens enc P w f2.type s2 e2 Q2):Opens enc P w T (s0 + s1 + s2) (fun x:α × β × γ=>e0 x.1 ++ (e1 x.2.1 ++ e2 x.2.2)) (fun x=>Q0 x.1∧Q1 x.2.1∧Q2 x.2.2):=fun n cs y h hl=>by
 obtain ⟨y0,y1,y2,m,rfl,hlen,t0,t1,t2⟩:=Deep.trod_struct3 hu h
 rw [o0,c0,List.drop_zero] at t0
 rw [o1,c1] at t1
 rw [o2,c2] at t2
 have hl0:Lt P f0.type y0.1:=fun x hx=>hl x (by simp [DataW.weights,DataW.weightsEach,hu,hx])
 have hl1:Lt P f1.type y1.1:=fun x hx=>hl x (by simp [DataW.weights,DataW.weightsEach,hu,hx])
 have hl2:Lt P f2.type y2.1:=fun x hx=>hl x (by simp [DataW.weights,DataW.weightsEach,hu,hx])
 obtain ⟨k0,x0,l0,q0,r0⟩:=h0 _ _ _ t0 hl0
 obtain ⟨k1,x1,l1,q1,r1⟩:=h1 _ _ _ t1 hl1
 obtain ⟨k2,x2,l2,q2,r2⟩:=h2 _ _ _ t2 hl2
 rw [hc] at hlen
 refine ⟨hlen,(x0,x1,x2),by simp [l0,l1,l2];omega,⟨q0,q1,q2⟩,?_⟩
 have e:cs=cs.take s0 ++ ((cs.drop s0).take s1 ++ (cs.drop (s0 + s1)).take s2):=by
  rw [List.take_of_length_le (l:=cs.drop (s0 + s1)) (by simp;omega),← List.drop_drop,List.take_append_drop,List.take_append_drop]
 rw [e]
 exact rd_app (by rw [l0,k0]) r0 (rd_app (by rw [l1,k1]) r1 r2)
theorem build_list {α:Type} {R:Nat→α→Prop} {n:Nat} (h:∀ i,i<n→∃ x,R i x):∃ xs:List α,xs.length=n∧∀ i x,xs[i]? = some x→R i x:=by
 induction n with
 | zero=>exact ⟨[],rfl,fun i x hx=>by simp at hx⟩
 | succ n ih =>
   obtain ⟨xs,hl,hr⟩:=ih fun i hi=>h i (by omega)
   obtain ⟨x,hx⟩:=h n (by omega)
   refine ⟨xs ++ [x],by simp [hl],fun i y hy=>?_⟩
   by_cases hi:i<xs.length
   ·rw [List.getElem?_append_left hi] at hy;exact hr i y hy
   ·have hi2:i=n:=by
     have:=(List.getElem?_eq_some_iff.1 hy).1
     simp at this;omega
    subst hi2
    rw [List.getElem?_append_right (by omega),hl,Nat.sub_self] at hy
    simp at hy;subst hy;exact hx
theorem opens_rows {T E:TypeId} {s:Nat} {α:Type} {f:α→List G} {Q:α→Prop} (hu:P.underlying T=some (.slice E)) (hc:P.cellsOf E=s) (hs:0<s) (hby:1≤P.bytesOf E) (hE:Opens enc P w E s f Q) :
 Opens enc P w T 1 (fun xs:List α=>[eS f xs]) (fun xs=>∀ x ∈ xs,Q x):=fun n cs y h hl=>by
 rcases Deep.open_slice hu h with ⟨rfl,hx⟩|⟨a,len,cap,m,n',D,Pl,rfl,_,hle,hmax,hm,hx,hcell⟩
 ·refine ⟨rfl,[],rfl,fun z hz=>(by cases hz),fun j g u hg hu=>?_⟩
  match j with
  | 0=>cases hg;cases hu;exact .nil
  | j + 1=>simp at hg
 ·have hm':m=cap:=by simpa using hm
  subst hm'
  rw [hx] at hl
  have hsl:=hl.slice hu
  have h47:len≤140737488355328:=by
   have h1:=hsl.1
   have h2:=reachBytes_lt
   simp at h1
   have h3:(len + (m - len)) * 1≤(len + (m - len)) * P.bytesOf E:=Nat.mul_le_mul_left _ hby
   have h4:reachBytes=140737488351232:=rfl
   omega
  rw [hc] at hcell
  obtain ⟨xs,hxl,hxr⟩:=build_list (n:=len) (R:=fun i x=>(f x).length=s∧Q x∧∀ (j:Nat) (g:G),(f x)[j]? = some g→∃ u,w.cell? (a.add (i * s + j))=some u∧RdG (oldI w) w.heap g u) fun i hi=>by
   obtain ⟨cs',h1,h2⟩:=hcell i (by omega)
   obtain ⟨_,hlen',hat⟩:=World.cells?_some h1
   obtain ⟨_,x,lx,qx,rx⟩:=hE _ _ _ h2 (hsl.2 _ (List.mem_map.2 ⟨i,List.mem_range.2 hi,rfl⟩))
   refine ⟨x,lx,qx,fun j g hg=>?_⟩
   have hj:j<s:=by have:=(List.getElem?_eq_some_iff.1 hg).1;omega
   have h3:=hat j hj
   rw [Deep.add_add] at h3
   have h4:cs'[j]? = some (cs'[j]'(by omega)):=List.getElem?_eq_getElem (by omega)
   rw [h4] at h3
   exact ⟨_,h3,rx j g _ hg h4⟩
  refine ⟨rfl,xs,rfl,fun x hx=>?_,fun j g u hg hu=>?_⟩
  ·obtain ⟨i,hi⟩:=List.getElem?_of_mem hx
   exact (hxr i x hi).2.1
  match j with
  | j + 1=>simp at hg
  | 0 =>
  cases hg;cases hu
  unfold eS
  by_cases h0:m=0
  ·subst h0
   obtain rfl:len=0:=by omega
   obtain rfl:xs=[]:=List.eq_nil_of_length_eq_zero hxl
   exact .nilA a
  ·obtain ⟨cs',h1,_⟩:=hcell 0 (by omega)
   obtain ⟨_,hlen',hat⟩:=World.cells?_some h1
   have h3:=hat 0 hs
   rw [Deep.add_add,List.getElem?_eq_getElem (by omega),show 0 * s + 0=0 by omega] at h3
   obtain ⟨hspot,cur,el,fr,hb,_⟩:=cell_block h3
   obtain ⟨b,off,spot⟩:=a
   have hspot':spot=none:=hspot
   subst hspot'
   have hb':w.heap[b]? = some (.cells cur el fr):=hb
   have hbl:b<w.heap.size:=(Array.getElem?_eq_some_iff.1 hb').1
   have hcur:∀ (i:Nat) (es:List G) (j:Nat) (g:G),(xs.map f)[i]? = some es→es[j]? = some g→∃ u,cur[off + i * s + j]? = some u∧RdG (oldI w) w.heap g u:=fun i es j g hi hg=>by
    rw [List.getElem?_map] at hi
    cases hx2:xs[i]? with
    | none=>rw [hx2] at hi;cases hi
    | some x =>
      rw [hx2] at hi
      injection hi with hi
      subst hi
      obtain ⟨u,hc2,hr⟩:=(hxr i x hx2).2.2 j g hg
      rw [addr_add] at hc2
      refine ⟨u,?_,hr⟩
      rw [Nat.add_assoc]
      simpa [World.cell?,hb'] using hc2
   refine .sl _ b off len m s cur el fr (fun i j=>(cur[off + i * s + j]?).getD undef) (by simp [hxl]) (by simp [hxl];omega) (by simp [hxl];omega) hb' (fun es he=>?_) (fun i es j g hi hg=>?_) (fun i es j g hi hg=>?_)
   ·obtain ⟨x,hx,rfl⟩:=List.mem_map.1 he
    obtain ⟨i,hi⟩:=List.getElem?_of_mem hx
    exact (hxr i x hi).1
   ·obtain ⟨u,h5,_⟩:=hcur i es j g hi hg
    exact ⟨hbl,by rw [h5];rfl⟩
   ·obtain ⟨u,h5,h6⟩:=hcur i es j g hi hg
    rw [h5];exact h6
theorem lt_param {ts:List TypeId} {ds:List (DataW H)} (h:(DataW.weightsEach P ts ds).all (·≤reachBytes)=true) {j:Nat} {t:TypeId} {d:DataW H} (ht:ts[j]? = some t) (hd:ds[j]? = some d):Lt P t d:=fun x hx=>by
 have:=List.all_eq_true.1 h _ (DataW.weights_mem_each ht hd x hx)
 simpa using this
theorem open_rowF {T E:TypeId} {base:Nat} {α:Type} {f:α→List G} {Q:List α→Prop} {v:Value} {d:DataW H} {ps:List MemPlace} (hu:P.underlying T=some (.slice E)) (hO:Opens enc P w T 1 (fun xs:List α=>[eS f xs]) Q)
 (h:DataW.Trod enc P w 0 (fun _=>true) true T v d ps) (hv:Value.okWide P w .any base T v) (hl:Lt P T d):∃ xs,RdD (oldI w) w.heap (.g (eS f xs)) v∧Q xs:=by
 have hvc:∀ u,v.cells.toList=[u]→v=u:=by
  intro u hu
  cases v<;>simp [Value.cells] at hu<;>first|exact hu|skip
  rename_i cs
  have hv':=hv
  simp [Value.okWide,hu, *] at hv'
  simp only [Cell.okWide,Cell.ok] at hv'
  simp_all
 obtain ⟨n,hn⟩:=h
 obtain ⟨hlen,xs,_,hq,hr⟩:=hO _ _ _ hn hl
 obtain ⟨u,hu2⟩:=List.length_eq_one_iff.1 hlen
 obtain rfl:=hvc u hu2
 exact ⟨xs,.g (hr 0 _ v rfl (by rw [hu2];rfl)),hq⟩
def eNu (x:Nu):List G:=[.lit (.bool x.neg),.lit (.int .i64 x.exp),eS (eK .u64) x.w]
theorem opens_num {T te:TypeId} {f0 f1 f2:Field} (hu:P.underlying T=some (.struct #[f0,f1,f2])) (hc:P.cellsOf T=3) (o0:f0.offset=0) (o1:f1.offset=1) (o2:f2.offset=2) (c0:P.cellsOf f0.type=1) (c1:P.cellsOf f1.type=1) (c2:P.cellsOf f2.type=1)
 (u0:P.underlying f0.type=some .bool) (u1:P.underlying f1.type=some (.int .i64)) (u2:P.underlying f2.type=some (.slice te)) (ue:P.underlying te=some (.int .u64)) (ce:P.cellsOf te=1) (b8:P.bytesOf te=8) :
 Opens enc P w T 3 eNu (fun x=>B64 x.w∧(Lit.int .i64 x.exp).wf=true):=by
 refine (opens_struct3 (s0:=1) (s1:=1) (s2:=1) hu hc o0 o1 o2 c0 c1 c2 (opens_bool u0) (opens_int u1) (opens_ints u2 ue ce b8)).to ?_
 rintro ⟨s,z,zs⟩ ⟨_,hz,hw⟩
 have hnn:∀ z ∈ zs,0≤z∧z<18446744073709551616:=fun z hz=>by
  have:=hw z hz
  simp [Lit.wf,IntKind.min,IntKind.max,IntKind.signed,IntKind.bits] at this
  omega
 refine ⟨⟨s,z,zs.map Int.toNat⟩,?_,fun x hx=>?_,hz⟩
 ·show [_,_,_]=[_,_,_]
  have:eS (eK .u64) (zs.map Int.toNat)=eS (eN .u64) zs:=by
   unfold eS
   rw [List.map_map]
   congr 1
   refine List.map_congr_left fun z hz=>?_
   show [G.lit (.int .u64 ((z.toNat:Nat):Int))]=[G.lit (.int .u64 z)]
   rw [Int.toNat_of_nonneg (hnn z hz).1]
  rw [this]
 ·obtain ⟨z,hz,rfl⟩:=List.mem_map.1 hx
  have:=hnn z hz
  omega
end
end Go.V
namespace Go.Proofs.YtgapammfekmihaaGreatDoor
open Go Go.RowKit Go.Proofs Go.V Go.WideShapes Go.ChangeShapes Go.ChangeAt Go.WideElems
theorem own:ownKnob Tryz.prog.godebug=Option.none:=by kernel_rfl
theorem laidOut:laidOutB Tryz.prog=true:=by kernel_rfl
theorem gTab:Tryz.prog.globalNamed "math/bits.deBruijn64tab" = some 0:=by kernel_rfl
theorem tTab:(Tryz.prog.globals[(0:Nat)]?).map (·.type)=some 175:=by kernel_rfl
theorem cTab:Tryz.prog.cellsOf 5=1:=by kernel_rfl
theorem words64:Tryz.prog.cellsOf 46=1:=by kernel_rfl
theorem bytes64:Tryz.prog.bytesOf 46=8:=by kernel_rfl
abbrev laidL {H:Type}:List (String × DataW H):=[("math/bits.deBruijn64tab",Rows.laid_math_bits_deBruijn64tab)]
theorem tab_data {H:Type}:(Rows.laid_math_bits_deBruijn64tab:DataW H)=.agg ((List.range 64).map fun i=>.lit (.int .u8 ((Lib.deBruijn64tab.getD i 0:Nat):Int))):=by
 unfold Rows.laid_math_bits_deBruijn64tab
 rfl
theorem tab_rd {W:World} (h:laidMetH Tryz.prog laidL W):∀ p ∈ gtabs,RdD (oldI W) W.heap (.ip p.2) (.pointer (some ⟨p.1,0,Option.none⟩)):=by
 rw [MakeChecks.laidMetH_plain _ _ _ (by kernel_rfl)] at h
 obtain ⟨ps,⟨g0,t0,cs0,f0,p0,q0,hg0,ht0,hv0,hd0,_,_⟩,_,_⟩:=h
 obtain rfl:=Option.some.inj (gTab.symm.trans hg0)
 obtain rfl:=Option.some.inj (tTab.symm.trans ht0)
 obtain ⟨xs,m1,rfl,hx1,hlen,hn3,hel⟩:=DataW.trod_array Tryz.underlying175 hd0
 rw [tab_data] at hx1
 simp only [Prod.mk.injEq,DataW.agg.injEq] at hx1
 have hcell:∀ i,i<64→W.cell? ⟨0,i,Option.none⟩=some (.int .u8 ((Lib.deBruijn64tab.getD i 0:Nat):Int)):=by
  intro i hi
  have h1:=hel i hi
  have hxi:xs[i]? = some (xs[i]'(by omega)):=List.getElem?_eq_getElem (by omega)
  rw [hxi,cTab] at h1
  obtain ⟨k,e1,e2,_⟩:=DataW.trod_int Tryz.underlying5 h1
  have h2:=congrArg (fun l=>l[i]?) hx1.1
  simp only [List.getElem?_map,hxi,Option.map_some,List.getElem?_range hi] at h2
  rw [e2] at h2
  simp only [Option.some.injEq] at h2
  have h3:=World.var?_cell hg0 hv0 i
  rw [h3]
  have h4:cs0.toList[i]? = some (.int .u8 k):=by
   have:=congrArg (fun l=>l[0]?) e1
   simpa using this
  have h5:k=((Lib.deBruijn64tab.getD i 0:Nat):Int):=by
   simp at h2
   exact h2.symm
  rw [← h5]
  simpa using h4
 intro p hp
 obtain rfl:=List.mem_singleton.1 hp
 have h0:=hcell 0 (by decide)
 have hb:∃ cur el fr,W.heap[(0:Nat)]? = some (.cells cur el fr):=by
  unfold World.cell? at h0
  split at h0
  ·rename_i c el fr hh;exact ⟨c,el,fr,hh⟩
  ·cases h0
 obtain ⟨cur,el,fr,hb⟩:=hb
 have hat:∀ (j:Nat) (g:G),((List.range 64).map fun i=>G.lit (.int .u8 ((Lib.deBruijn64tab.getD i 0:Nat):Int)))[j]? = some g→j<64∧g=.lit (.int .u8 ((Lib.deBruijn64tab.getD j 0:Nat):Int)):=by
  intro j g hg
  have hj:j<64:=by have:=(List.getElem?_eq_some_iff.1 hg).1;simpa using this
  refine ⟨hj,?_⟩
  simp [hj] at hg
  exact hg.symm
 refine .ip _ _ 0 cur el fr (fun j=>.int .u8 ((Lib.deBruijn64tab.getD j 0:Nat):Int)) hb (fun j g hg=>?_) (fun j g hg=>?_)
 ·obtain ⟨hj,rfl⟩:=hat j g hg
  have h6:=hcell j hj
  simp [World.cell?,hb] at h6
  exact ⟨(Array.getElem?_eq_some_iff.1 hb).1,by simpa using h6⟩
 ·obtain ⟨hj,rfl⟩:=hat j g hg
  exact .lit _ rfl
theorem gi_old {W:World} (h:laidMetH Tryz.prog laidL W):GI (oldI W) W:=⟨fun b j h=>h,tab_rd h⟩
theorem door_met (os:Os) (args:Array Value):laidMetH Tryz.prog laidL ((World.doorLaid Tryz.prog 400 os).forCall (fun _ _=>0) ⟨#[],args,[]⟩).memory :=
 laidMetH_of_parts3 (fuel:=8) (laidMet_of_run' 8 (by kernel_rfl) (by kernel_rfl)) (by kernel_rfl) (by kernel_rfl)
theorem calls_of_pc {f:FuncId} {fn:Func} {ds:List D} {args:Array Value} {W:World} (hfn:Tryz.prog.funcs[f]? = some fn) (hb:fn.body.isSome=true) (hn:(fn.name == "runtime.NumGoroutine")=false)
 (h:PC Tryz.prog f ds fun d=>d=bl true) (hL:laidMetH Tryz.prog laidL W) (hd:RdL (oldI W) W.heap ds args.toList):Calls Tryz.prog f args W fun e W'=>e=.returned (.bool true)∧Below W.heap.size W W':=by
 have:=h W (oldI W) args.toList (gi_old hL) hd
 unfold FC at this
 have hc:(callFunc f args.toList.toArray).run Tryz.prog W=.ok (.enter f args.toList.toArray) W:=by
  unfold callFunc
  have hn':¬ fn.name = "runtime.NumGoroutine" := fun h=>by rw [h] at hn;simp at hn
  obtain ⟨c,hc⟩:=Option.isSome_iff_exists.1 hb
  simp [hfn,hn',hc]
 rw [hc] at this
 refine Calls.mono this ?_
 rintro e w' ⟨v,rfl,I',d,hE,_,_,_,hd,rfl⟩
 exact ⟨by rw [hd.lit_inv],hE.toBelow⟩
end Go.Proofs.YtgapammfekmihaaGreatDoor
