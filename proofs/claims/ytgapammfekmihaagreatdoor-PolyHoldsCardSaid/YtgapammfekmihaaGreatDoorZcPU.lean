/- The document's numbers: order and sum, over values as data. The document's numbers: by powers of two, downwards, over values as data. The document's numbers: by powers of two, upwards, over values as data. The document's numbers: products, over values as data. -/
import Derived.Test.YtgapammfekmihaaGreatDoorZcPT
import Derived.Test.YtgapammfekmihaaGreatDoorZcPM
set_option linter.unusedSimpArgs false
set_option linter.unusedVariables false
set_option maxRecDepth 100000
namespace Go.V
open Go Go.RowKit Go.Proofs
def qR4_149_8:List (Nat × Nat):=[(0,0),(1,0),(2,0),(3,1),(4,0),(5,0),(6,0),(7,1),(8,0)]
def qR4_149_10:List (Nat × Nat):=[(0,0),(1,0),(2,0),(3,1),(4,0),(5,0),(6,0),(7,1),(8,0)]
def qR4_150_6:List (Nat × Nat):=[(0,0),(1,0),(2,0),(3,2),(4,0),(5,0),(6,0),(8,0),(7,4),(9,0),(10,0),(11,0)]
attribute [go_sem] qR4_149_8 qR4_149_10 qR4_150_6
theorem p_rCmp {m n:Nat} (hlx:(D32 m).length≤1099511627776) (hly:(D32 n).length≤1099511627776):PC Tryz.prog 149 [W32 (D32 m),W32 (D32 n)] fun d=>d=i64 (cmpI m n):=by
 have hbA:B32 (D32 m):=digs_lt two32 m
 have hbB:B32 (D32 n):=digs_lt two32 n
 have hnA:nval 4294967296 (D32 m)=m:=nval_digs two32 m
 have hnB:nval 4294967296 (D32 n)=n:=nval_digs two32 n
 have lt1:(D32 m).length<(D32 n).length→m<n:=fun h=>nval_lt_of_len two32 h
 have lt2:(D32 n).length<(D32 m).length→n<m:=fun h=>nval_lt_of_len two32 h
 generalize D32 m=A at *
 generalize D32 n=B at *
 have d1:=@dl 8 qR4_149_8
 have d2:=@dl 10 qR4_149_10
 refine PB (rs:=[.tmp 4]) Tryz.func149 ?_
 repeat (first|(with_reducible first|refine pv_seq fun K hK=>?_|((first|refine hK _ _ ?_|(clear hK;refine hK _ _ ?_)|(clear hK;clear hK;refine hK _ _ ?_));clear hK;try clear K))| refine W0 ?_|exact Z|with_reducible intro b)
 refine pv_cdD (fun ht=>?_) (fun ht=>?_)
 ·repeat (first|(with_reducible first|refine pv_seq fun K hK=>?_|((first|refine hK _ _ ?_|(clear hK;refine hK _ _ ?_)|(clear hK;clear hK;refine hK _ _ ?_));clear hK;try clear K))| refine W0 ?_|exact Z|with_reducible intro b)
  refine pv_cdD (fun ht2=>?_) (fun ht2=>?_)
  ·repeat (first|(with_reducible first|refine pv_seq fun K hK=>?_|((first|refine hK _ _ ?_|(clear hK;refine hK _ _ ?_)|(clear hK;clear hK;refine hK _ _ ?_));clear hK;try clear K))| refine W0 ?_|exact Z|with_reducible intro b)
   have:=lt1 ht2
   unfold cmpI
   rw [if_pos (by omega)]
  ·repeat (first|(with_reducible first|refine pv_seq fun K hK=>?_|((first|refine hK _ _ ?_|(clear hK;refine hK _ _ ?_)|(clear hK;clear hK;refine hK _ _ ?_));clear hK;try clear K))| refine W0 ?_|exact Z|with_reducible intro b)
   have:=lt2 (by omega)
   unfold cmpI
   rw [if_neg (by omega),if_pos (by omega)]
 ·have hlen:A.length=B.length:=by omega
  repeat (first|(with_reducible first|refine pv_seq fun K hK=>?_|((first|refine hK _ _ ?_|(clear hK;refine hK _ _ ?_)|(clear hK;clear hK;refine hK _ _ ?_));clear hK;try clear K))| refine W0 ?_|exact Z|with_reducible intro b)
  have J:∀ (e:DEnv) (S:Store),(∀ j,A.getD j 0=B.getD j 0)→K e S:=by
   intro e S hab
   repeat (first|(with_reducible first|refine pv_seq fun K hK=>?_|((first|refine hK _ _ ?_|(clear hK;refine hK _ _ ?_)|(clear hK;clear hK;refine hK _ _ ?_));clear hK;try clear K))| refine W0 ?_|exact Z|with_reducible intro b)
   have:A=B:=list_ext_getD hlen hab
   rw [← hnA,← hnB,this]
   simp [cmpI]
  clear hK
  refine pv_loop (fun e S=>∃ k:Nat,k≤A.length∧e 0=W32 A∧e 1=W32 B∧e 5=i64 ((k:Int) - 1)∧∀ j,k≤j→A.getD j 0=B.getD j 0) (fun e _=>(intD (e 5) + 1).toNat) ?_ ?_
  ·refine ⟨A.length,Nat.le_refl _,Z,Z,Z,fun j hj=>?_⟩
   simp [List.getD,List.getElem?_eq_none hj,List.getElem?_eq_none (hlen ▸ hj)]
  ·rintro e S ⟨k,hk,g0,g1,g5,hab⟩
   have hmz:(intD (e 5) + 1).toNat=k:=by rw [g5];simp only [intD,i64];omega
   rcases Nat.eq_zero_or_pos k with rfl|hp
   ·have g5:e 5=i64 (-1):=g5
    have ft:=And.intro g0 (And.intro g1 g5)
    repeat (first|(with_reducible first|refine pv_seq fun K hK=>?_|((first|refine hK _ _ ?_|(clear hK;refine hK _ _ ?_)|(clear hK;clear hK;refine hK _ _ ?_));clear hK;try clear K))| refine W0 ?_|exact Z|with_reducible intro b)
    exact J _ _ (fun j=>hab j (Nat.zero_le j))
   ·obtain ⟨p,rfl⟩:∃ m,k=m + 1:=⟨k - 1,by omega⟩
    rw [cast_succ_sub] at g5
    have hpB:p<B.length:=by omega
    have hab':∀ j,p<j→A.getD j 0=B.getD j 0:=fun j hj=>hab j hj
    have ft:=And.intro g0 (And.intro g1 g5)
    repeat (first|(with_reducible first|refine pv_seq fun K hK=>?_|((first|refine hK _ _ ?_|(clear hK;refine hK _ _ ?_)|(clear hK;clear hK;refine hK _ _ ?_));clear hK;try clear K))| refine W0 ?_|exact Z|with_reducible intro b)
    refine pv_cdD (fun ht1=>?_) (fun ht1=>?_)
    ·repeat (first|(with_reducible first|refine pv_seq fun K hK=>?_|((first|refine hK _ _ ?_|(clear hK;refine hK _ _ ?_)|(clear hK;clear hK;refine hK _ _ ?_));clear hK;try clear K))| refine W0 ?_|exact Z|with_reducible intro b)
     have:=nval_part (B:=4294967296) (by decide) hbA hlen (i:=p) (by omega) hab' ht1
     rw [hnA,hnB] at this
     unfold cmpI
     rw [if_pos (by omega)]
    ·repeat (first|(with_reducible first|refine pv_seq fun K hK=>?_|((first|refine hK _ _ ?_|(clear hK;refine hK _ _ ?_)|(clear hK;clear hK;refine hK _ _ ?_));clear hK;try clear K))| refine W0 ?_|exact Z|with_reducible intro b)
     refine pv_cdD (fun ht2=>?_) (fun ht2=>?_)
     ·repeat (first|(with_reducible first|refine pv_seq fun K hK=>?_|((first|refine hK _ _ ?_|(clear hK;refine hK _ _ ?_)|(clear hK;clear hK;refine hK _ _ ?_));clear hK;try clear K))| refine W0 ?_|exact Z|with_reducible intro b)
      have:=nval_part (B:=4294967296) (by decide) hbB hlen.symm (i:=p) (by omega) (fun j hj=>(hab' j hj).symm) ht2
      rw [hnA,hnB] at this
      unfold cmpI
      rw [if_neg (by omega),if_pos (by omega)]
     ·repeat (first|(with_reducible first|refine pv_seq fun K hK=>?_|((first|refine hK _ _ ?_|(clear hK;refine hK _ _ ?_)|(clear hK;clear hK;refine hK _ _ ?_));clear hK;try clear K))| refine W0 ?_|exact Z|with_reducible intro b)
      refine ⟨⟨p,by omega,rfl,fun j hj=>?_⟩,?_⟩
      ·rcases Nat.lt_or_ge p j with h'|h'
       ·exact hab j h'
       ·obtain rfl:j=p:=by omega
        omega
      ·simp only [intD];omega
theorem p_rAdd {A B:List Nat} (hbA:B32 A) (hbB:B32 B) (hlA:A.length≤1099511627776) (hlB:B.length≤1099511627776):PC Tryz.prog 148 [W32 A,W32 B] fun d=>d=W32 (D32 (N32 A + N32 B)):=by
 refine PB (rs:=[.tmp 4]) Tryz.func148 ?_
 repeat (first|(with_reducible first|refine pv_seq fun K hK=>?_|((first|refine hK _ _ ?_|(clear hK;refine hK _ _ ?_)|(clear hK;clear hK;refine hK _ _ ?_));clear hK;try clear K))| refine W0 ?_|exact Z|with_reducible intro b)
 have J:∀ (e:DEnv) (S:Store) (os:List Nat),RowD S (.l 38) 1 (e 5) (rS (eK .u32) os)→B32 os→N32 os=N32 A + N32 B→os.length≤2199023255553→K e S:=by
  intro e S os hr hb hv hl
  repeat (first|(with_reducible first|refine pv_seq fun K hK=>?_|((first|refine hK _ _ ?_|(clear hK;refine hK _ _ ?_)|(clear hK;clear hK;refine hK _ _ ?_));clear hK;try clear K))| refine W0 ?_|exact Z|with_reducible intro b)
  refine PFC.coe (hr.coe1 fun S' _ _=>?_)
  refine call_is (p_trim hb (by omega)) ?_
  rw [hv]
  exact Wk
 clear hK
 refine pv_loop (fun e S=>∃ (i c:Nat) (os:List Nat),i≤A.length + B.length + 1∧(c≠0→i≤A.length + B.length)∧c≤1∧os.length=i∧B32 os∧N32 os + 4294967296 ^ i * (c + (N32 (A.drop i) + N32 (B.drop i)))=N32 A + N32 B∧e 0=W32 A∧e 1=W32 B∧e 6=.g (.lit (.int .u64 c))∧e 7=i64 i∧RowD S (.l 38) 1 (e 5) (rS (eK .u32) os)) (fun e _=>A.length + B.length + 2 - (intD (e 7)).toNat) ?_ ?_
 ·exact ⟨0,0,[],by omega,by omega,by omega,rfl,(fun x hx=>by cases hx),by simp [nval],Z,Z,rfl,Z,.nil⟩
 ·rintro e S ⟨i,c,os,hi,hci,hc,hol,hob,hv,g0,g1,g6,g7,hr⟩
  have hmz:(intD (e 7)).toNat=i:=by rw [g7];rfl
  with_reducible refine pv_seq fun K hK=>?_
  have ha:=get_lt hbA (by decide) i
  have hb:=get_lt hbB (by decide) i
  have J2:∀ (e1:DEnv),e1 0=W32 A→e1 1=W32 B→e1 5=e 5→e1 6=.g (.lit (.int .u64 c))→e1 7=i64 i→i≤A.length + B.length→(i<A.length∨i<B.length∨c≠0)→K e1 S:=by
   intro e1 k0 k1 k5 k6 k7 hi' hon
   have hm1:(A.getD i 0 + B.getD i 0) % 18446744073709551616=A.getD i 0 + B.getD i 0:=Nat.mod_eq_of_lt (by omega)
   have hm2:(c + (A.getD i 0 + B.getD i 0)) % 18446744073709551616=c + (A.getD i 0 + B.getD i 0):=Nat.mod_eq_of_lt (by omega)
   have hlow:=low32 (c + (A.getD i 0 + B.getD i 0)) (by omega)
   repeat (first|(with_reducible first|refine pv_seq fun K hK=>?_|refine pv_reg ?_)|((with_reducible first|refine hK _ _ ?_|(clear hK;refine hK _ _ ?_)|(clear hK;clear hK;refine hK _ _ ?_));clear hK;try clear K)|simp -implicitDefEqProofs only [k0,k1,k5,k6,k7,hm1,hm2,hlow,Nat.mod_mod,true_and,go_sem,seval]|with_reducible intro b|(with_reducible refine And.intro ?_ ?_;· first|assumption|omega|(unfold R64;omega))|refine call_is (by first|exact (p_digit hbA)|exact (p_digit hbB)) ?_)
   refine RowD.appL hr (by decide) rfl (by simp [D.one]) ?_ ?_ fun d' S' hr' hS'=>?_
   ·rw [rS_len];simp;omega
   ·rw [rS_len];simp;omega
   repeat (first|(with_reducible first|refine pv_seq fun K hK=>?_|refine pv_reg ?_)|((with_reducible first|refine hK _ _ ?_|(clear hK;refine hK _ _ ?_)|(clear hK;clear hK;refine hK _ _ ?_));clear hK;try clear K)|simp -implicitDefEqProofs only [k0,k1,k5,k6,k7,hm1,hm2,hlow,Nat.mod_mod,true_and,go_sem,seval]|with_reducible intro b|(with_reducible refine And.intro ?_ ?_;· first|assumption|omega|(unfold R64;omega)))
   rw [rS_w,rS_app] at hr'
   refine ⟨⟨i + 1,(c + (A.getD i 0 + B.getD i 0)) / 4294967296,_,by omega,?_,by omega,by simp [hol],?_,?_,rfl,rfl,hr'⟩,?_⟩
   ·intro hne
    rcases hon with h|h|h
    ·omega
    ·omega
    ·rcases Nat.lt_or_ge i A.length with h'|h'
     ·omega
     ·rcases Nat.lt_or_ge i B.length with h''|h''
      ·omega
      ·have e1:A.getD i 0=0:=by simp [List.getD,List.getElem?_eq_none h']
       have e2:B.getD i 0=0:=by simp [List.getD,List.getElem?_eq_none h'']
       omega
   ·intro y hy
    simp only [List.mem_append,List.mem_singleton] at hy
    rcases hy with hy|rfl
    ·exact hob y hy
    ·omega
   ·simp only [N32] at hv ⊢
    rw [← hv,nval_append,drop_step A (i:=i),drop_step B (i:=i),hol,Nat.pow_succ]
    simp only [nval,Nat.mul_zero,Nat.add_zero]
    generalize nval 4294967296 (A.drop (i + 1))=u
    generalize nval 4294967296 (B.drop (i + 1))=v
    have key:c + (A.getD i 0 + 4294967296 * u + (B.getD i 0 + 4294967296 * v))=(c + (A.getD i 0 + B.getD i 0)) % 4294967296 + 4294967296 * ((c + (A.getD i 0 + B.getD i 0)) / 4294967296 + (u + v)):=by
     have:=Nat.mod_add_div (c + (A.getD i 0 + B.getD i 0)) 4294967296
     omega
    rw [key,Nat.mul_assoc,Nat.add_assoc,← Nat.mul_add]
   ·rw [hmz];simp only [intD];omega
  clear hK
  by_cases h1:i<A.length
  ·have ft:=And.intro g0 (And.intro g1 (And.intro g6 (And.intro g7 h1)))
   repeat (first|(with_reducible first|refine pv_seq fun K hK=>?_|((first|refine hK _ _ ?_|(clear hK;refine hK _ _ ?_)|(clear hK;clear hK;refine hK _ _ ?_));clear hK;try clear K))| refine W0 ?_|exact Z|with_reducible intro b)
   exact J2 _ Z Z Z Z Z (by omega) (by omega)
  by_cases h2:i<B.length
  ·have ft:=And.intro g0 (And.intro g1 (And.intro g6 (And.intro g7 (And.intro h1 h2))))
   repeat (first|(with_reducible first|refine pv_seq fun K hK=>?_|((first|refine hK _ _ ?_|(clear hK;refine hK _ _ ?_)|(clear hK;clear hK;refine hK _ _ ?_));clear hK;try clear K))| refine W0 ?_|exact Z|with_reducible intro b)
   exact J2 _ Z Z Z Z Z (by omega) (by omega)
  rcases Nat.eq_zero_or_pos c with rfl|h3
  ·have ft:=And.intro g0 (And.intro g1 (And.intro g6 (And.intro g7 (And.intro h1 h2))))
   repeat (first|(with_reducible first|refine pv_seq fun K hK=>?_|((first|refine hK _ _ ?_|(clear hK;refine hK _ _ ?_)|(clear hK;clear hK;refine hK _ _ ?_));clear hK;try clear K))| refine W0 ?_|exact Z|with_reducible intro b)
   refine J _ _ os (by try simp -implicitDefEqProofs only [ft,go_sem,seval];exact hr) hob ?_ (by omega)
   simp only [N32] at hv ⊢
   rw [nval_drop_all (by omega),nval_drop_all (by omega)] at hv
   simpa using hv
  ·have ft:=And.intro g0 (And.intro g1 (And.intro g6 (And.intro g7 (And.intro h1 (And.intro h2 h3)))))
   repeat (first|(with_reducible first|refine pv_seq fun K hK=>?_|((first|refine hK _ _ ?_|(clear hK;refine hK _ _ ?_)|(clear hK;clear hK;refine hK _ _ ?_));clear hK;try clear K))| refine W0 ?_|exact Z|with_reducible intro b)
   exact J2 _ Z Z Z Z Z (hci (by omega)) (by omega)
theorem p_rSub {A B:List Nat} (hbA:B32 A) (hbB:B32 B) (hlA:A.length≤1099511627776) (hle:N32 B≤N32 A):PC Tryz.prog 150 [W32 A,W32 B] fun d=>d=W32 (D32 (N32 A - N32 B)):=by
 have d1:=@dl 6 qR4_150_6
 refine PB (rs:=[.tmp 4]) Tryz.func150 ?_
 repeat (first|(with_reducible first|refine pv_seq fun K hK=>?_|((first|refine hK _ _ ?_|(clear hK;refine hK _ _ ?_)|(clear hK;clear hK;refine hK _ _ ?_));clear hK;try clear K))| refine W0 ?_|exact Z|with_reducible intro b)
 have J:∀ (e:DEnv) (S:Store) (os:List Nat),RowD S (.l 37) 1 (e 5) (rS (eK .u32) os)→B32 os→N32 os=N32 A - N32 B→os.length≤2199023255553→K e S:=by
  intro e S os hr hb hv hl
  repeat (first|(with_reducible first|refine pv_seq fun K hK=>?_|((first|refine hK _ _ ?_|(clear hK;refine hK _ _ ?_)|(clear hK;clear hK;refine hK _ _ ?_));clear hK;try clear K))| refine W0 ?_|exact Z|with_reducible intro b)
  refine PFC.coe (hr.coe1 fun S' _ _=>?_)
  refine call_is (p_trim hb (by omega)) ?_
  rw [hv]
  exact Wk
 clear hK
 refine pv_loop (fun e S=>∃ (i c:Nat) (os:List Nat),i≤A.length∧c≤1∧os.length=i∧B32 os∧N32 os + N32 B + 4294967296 ^ i * N32 (A.drop i)=N32 A + 4294967296 ^ i * (N32 (B.drop i) + c)∧e 0=W32 A∧e 1=W32 B∧e 6=.g (.lit (.int .u64 c))∧e 7=i64 i∧RowD S (.l 37) 1 (e 5) (rS (eK .u32) os)) (fun e _=>A.length + 1 - (intD (e 7)).toNat) ?_ ?_
 ·exact ⟨0,0,[],by omega,by omega,rfl,(fun x hx=>by cases hx),by simp [nval,Nat.add_comm],Z,Z,rfl,Z,.nil⟩
 ·rintro e S ⟨i,c,os,hi,hc,hol,hob,hv,g0,g1,g6,g7,hr⟩
  have hmz:(intD (e 7)).toNat=i:=by rw [g7];rfl
  have ha:=get_lt hbA (by decide) i
  have hb:=get_lt hbB (by decide) i
  have hm1:(B.getD i 0 + c) % 18446744073709551616=B.getD i 0 + c:=Nat.mod_eq_of_lt (by omega)
  have hma:A.getD i 0 % 18446744073709551616=A.getD i 0:=Nat.mod_eq_of_lt (by omega)
  have hw:IntKind.u64.wrap ((A.getD i 0:Int) + 4294967296)=((A.getD i 0 + 4294967296:Nat):Int):=by
   rw [show ((A.getD i 0:Int) + 4294967296)=((A.getD i 0 + 4294967296:Nat):Int) by omega,wrap64_nat,Nat.mod_eq_of_lt (by omega)]
  have ft:=And.intro g0 (And.intro g1 (And.intro g6 (And.intro g7 (And.intro hm1 (And.intro hma hw)))))
  repeat (first|(with_reducible first|refine pv_seq fun K hK=>?_|((first|refine hK _ _ ?_|(clear hK;refine hK _ _ ?_)|(clear hK;clear hK;refine hK _ _ ?_));clear hK;try clear K))| refine W0 ?_|exact Z|with_reducible intro b)
  refine pv_cdD (fun ht=>?_) (fun ht=>?_)
  ·repeat (first|(with_reducible first|refine pv_seq fun K hK=>?_|((first|refine hK _ _ ?_|(clear hK;refine hK _ _ ?_)|(clear hK;clear hK;refine hK _ _ ?_));clear hK;try clear K))| refine W0 ?_|exact Z|with_reducible intro b)
   refine ExtC_is ?_
   simp -implicitDefEqProofs only [ft,go_sem,seval]
   refine (p_digit (i:=i) hbB).mono fun d hd=>?_
   subst hd
   repeat (first|(with_reducible first|refine pv_seq fun K hK=>?_|((first|refine hK _ _ ?_|(clear hK;refine hK _ _ ?_)|(clear hK;clear hK;refine hK _ _ ?_));clear hK;try clear K))| refine W0 ?_|exact Z|with_reducible intro b)
   have J2:∀ (e1:DEnv) (x c':Nat),e1 0=W32 A→e1 1=W32 B→e1 5=e 5→e1 6=.g (.lit (.int .u64 c'))→e1 7=i64 i→e1 8=.g (.lit (.int .u64 x))→e1 9=.g (.lit (.int .u64 (B.getD i 0 + c:Nat)))→c'≤1→x=A.getD i 0 + 4294967296 * c'→B.getD i 0 + c≤x→x<B.getD i 0 + c + 4294967296→K e1 S:=by
    intro e1 x c' k0 k1 k5 k6 k7 k8 k9 hc' hx hle' hlt'
    have hs:IntKind.u64.wrap ((x:Int) - ((B.getD i 0 + c:Nat):Int))=((x - (B.getD i 0 + c):Nat):Int):=by
     rw [show ((x:Int) - ((B.getD i 0 + c:Nat):Int))=((x - (B.getD i 0 + c):Nat):Int) by omega,wrap64_nat,Nat.mod_eq_of_lt (by omega)]
    have hm3:(x - (B.getD i 0 + c)) % 4294967296=x - (B.getD i 0 + c):=Nat.mod_eq_of_lt (by omega)
    have ft:=And.intro k0 (And.intro k1 (And.intro k5 (And.intro k6 (And.intro k7 (And.intro k8 (And.intro k9 (And.intro hs hm3)))))))
    repeat (first|(with_reducible first|refine pv_seq fun K hK=>?_|((first|refine hK _ _ ?_|(clear hK;refine hK _ _ ?_)|(clear hK;clear hK;refine hK _ _ ?_));clear hK;try clear K))| refine W0 ?_|exact Z|with_reducible intro b)
    refine RowD.appL hr (by decide) rfl (by simp [D.one]) ?_ ?_ fun d' S' hr' hS'=>?_
    ·rw [rS_len];simp;omega
    ·rw [rS_len];simp;omega
    repeat (first|(with_reducible first|refine pv_seq fun K hK=>?_|((first|refine hK _ _ ?_|(clear hK;refine hK _ _ ?_)|(clear hK;clear hK;refine hK _ _ ?_));clear hK;try clear K))| refine W0 ?_|exact Z|with_reducible intro b)
    rw [rS_w,rS_app] at hr'
    refine ⟨⟨i + 1,c',_,by omega,hc',by simp [hol],?_,?_,rfl,rfl,hr'⟩,?_⟩
    ·intro y hy
     simp only [List.mem_append,List.mem_singleton] at hy
     rcases hy with hy|rfl
     ·exact hob y hy
     ·omega
    ·simp only [N32] at hv ⊢
     rw [drop_step A (i:=i),drop_step B (i:=i)] at hv
     rw [nval_append,hol,Nat.pow_succ]
     simp only [nval,Nat.mul_zero,Nat.add_zero]
     generalize nval 4294967296 (A.drop (i + 1))=u at hv ⊢
     generalize nval 4294967296 (B.drop (i + 1))=v at hv ⊢
     generalize (4294967296:Nat) ^ i=W at hv ⊢
     have e1:W * x=W * A.getD i 0 + W * (4294967296 * c'):=by rw [hx,Nat.mul_add]
     have e2:W * (x - (B.getD i 0 + c)) + W * (B.getD i 0 + c)=W * x:=by rw [← Nat.mul_add];congr 1;omega
     simp only [Nat.mul_add,Nat.mul_assoc] at *
     omega
    ·rw [hmz];simp only [intD];omega
   clear hK
   refine pv_cdD (fun ht2=>?_) (fun ht2=>?_)
   ·repeat (first|(with_reducible first|refine pv_seq fun K hK=>?_|((first|refine hK _ _ ?_|(clear hK;refine hK _ _ ?_)|(clear hK;clear hK;refine hK _ _ ?_));clear hK;try clear K))| refine W0 ?_|exact Z|with_reducible intro b)
    exact J2 _ (A.getD i 0 + 4294967296) 1 Z Z Z rfl Z Z Z (by omega) (by omega) (by omega) (by omega)
   ·repeat (first|(with_reducible first|refine pv_seq fun K hK=>?_|((first|refine hK _ _ ?_|(clear hK;refine hK _ _ ?_)|(clear hK;clear hK;refine hK _ _ ?_));clear hK;try clear K))| refine W0 ?_|exact Z|with_reducible intro b)
    exact J2 _ (A.getD i 0) 0 Z Z Z rfl Z Z Z (by omega) (by omega) (by omega) (by omega)
  ·repeat (first|(with_reducible first|refine pv_seq fun K hK=>?_|((first|refine hK _ _ ?_|(clear hK;refine hK _ _ ?_)|(clear hK;clear hK;refine hK _ _ ?_));clear hK;try clear K))| refine W0 ?_|exact Z|with_reducible intro b)
   refine J _ _ os (by try simp -implicitDefEqProofs only [ft,go_sem,seval];exact hr) hob ?_ (by omega)
   obtain rfl:i=A.length:=by omega
   have h1:=nval_lt (B:=4294967296) (by decide) os hob
   rw [hol] at h1
   simp only [N32] at hv hle ⊢
   rw [nval_drop_all (Nat.le_refl _),Nat.mul_zero,Nat.add_zero] at hv
   rcases Nat.eq_zero_or_pos (nval 4294967296 (B.drop A.length) + c) with h0|h0
   ·rw [h0,Nat.mul_zero,Nat.add_zero] at hv;omega
   ·have:=Nat.mul_le_mul_left (4294967296 ^ A.length) h0
    omega
end Go.V
namespace Go.V
open Go Go.RowKit Go.Proofs
def qR5_183_8:List (Nat × Nat):=[(0,0),(1,0),(2,0),(3,0),(4,0),(5,0),(6,1),(7,0),(8,0),(9,0),(10,0),(11,0),(12,0),(13,0),(14,0)]
def qR5_183_13:List (Nat × Nat):=[(0,0),(1,0),(2,0),(3,2),(4,0),(5,0),(6,0),(7,0),(8,4),(9,0),(10,0),(11,0)]
attribute [go_sem] qR5_183_8 qR5_183_13
theorem tdiv32 (n:Nat):(n:Int).tdiv 32=((n / 32:Nat):Int):=rfl
theorem tmod32 (n:Nat):(n:Int).tmod 32=((n % 32:Nat):Int):=rfl
theorem down32 {M a b v r:Nat} (hM:M=a + 4294967296 * (b + 4294967296 * v)) (hr:r<32):(M / 2 ^ r) % 4294967296=((a + 4294967296 * b) / 2 ^ r) % 4294967296:=by
 have hp:(4294967296:Nat)=2 ^ r * 2 ^ (32 - r):=by rw [← Nat.pow_add];rw [show r + (32 - r)=32 by omega]
 have e:M=(a + 4294967296 * b) + 2 ^ r * (2 ^ (32 - r) * (4294967296 * v)):=by
  rw [← Nat.mul_assoc,← hp,hM,Nat.mul_add];omega
 rw [e,Nat.add_mul_div_left _ _ (Nat.pow_pos (by decide))]
 rw [show 2 ^ (32 - r) * (4294967296 * v)=4294967296 * (2 ^ (32 - r) * v) by rw [Nat.mul_left_comm],Nat.add_mul_mod_self_left]
theorem drop_div32 {xs:List Nat} (h:B32 xs) (k:Nat):nval 4294967296 (xs.drop k)=nval 4294967296 xs / 4294967296 ^ k:=by
 rcases Nat.lt_or_ge xs.length k with hk|hk
 ·have:=nval_lt (B:=4294967296) (by decide) xs h
  rw [nval_drop_all (by omega),Nat.div_eq_of_lt (Nat.lt_of_lt_of_le this (Nat.pow_le_pow_right (by decide) (by omega)))]
 ·have h1:=nval_append 4294967296 (xs.take k) (xs.drop k)
  rw [List.take_append_drop,List.length_take,Nat.min_eq_left hk] at h1
  have h2:=nval_lt (B:=4294967296) (by decide) (xs.take k) (fun x hx=>h x (List.mem_of_mem_take hx))
  rw [List.length_take,Nat.min_eq_left hk] at h2
  rw [h1,Nat.add_mul_div_left _ _ (Nat.pow_pos (by decide)),Nat.div_eq_of_lt h2,Nat.zero_add]
theorem down_all {xs:List Nat} (h:B32 xs) (n:Nat):nval 4294967296 (xs.drop (n / 32)) / 2 ^ (n % 32)=nval 4294967296 xs / 2 ^ n:=by
 rw [drop_div32 h,Nat.div_div_eq_div_mul,show (4294967296:Nat)=2 ^ 32 from rfl,← Nat.pow_mul,← Nat.pow_add,Nat.div_add_mod]
theorem mask32 {a r:Nat} (ha:a<4294967296) (hr:r<32):bitsV BinOp.and IntKind.u32 (a:Int) (IntKind.u32.wrap (IntKind.u32.wrap (1 * 2 ^ r) - 1))=((a % 2 ^ r:Nat):Int):=by
 have h1:(2:Nat) ^ r<4294967296:=Nat.lt_of_lt_of_le (Nat.pow_lt_pow_right (by decide) hr) (by decide)
 have h2:IntKind.u32.wrap (IntKind.u32.wrap (1 * 2 ^ r) - 1)=((2 ^ r - 1:Nat):Int):=by
  have hp:=Nat.two_pow_pos r
  have e:(1:Int) * 2 ^ r=((2 ^ r:Nat):Int):=by simp
  rw [e]
  generalize 2 ^ r=q at *
  simp [IntKind.wrap,IntKind.signed,IntKind.bits];omega
 rw [h2]
 have h3:(2:Nat) ^ r - 1<4294967296:=by omega
 rw [← Nat.and_two_pow_sub_one_eq_mod]
 exact and32_nat a _ ha h3
theorem or_lost {B x y:Nat} (h:0<B):decide (x + B * y≠0)=(decide (x≠0) || decide (y≠0)):=by
 by_cases g1:x=0
 ·subst g1
  by_cases g2:y=0
  ·subst g2;simp
  ·have:B * y≠0:=Nat.mul_ne_zero (by omega) g2
   simp [g2];omega
 ·rw [decide_eq_true g1,decide_eq_true (show x + B * y≠0 by omega)];rfl
theorem lost_all {xs:List Nat} (h:B32 xs) (n:Nat):decide (N32 xs % 2 ^ n≠0)=(decide (N32 (xs.take (n / 32))≠0) || decide (xs.getD (n / 32) 0 % 2 ^ (n % 32)≠0)):=by
 have hn:n=32 * (n / 32) + n % 32:=by omega
 generalize n / 32=q at *
 generalize hr:n % 32=r at *
 have hr32:r<32:=by omega
 subst hn
 have h1:N32 xs=N32 (xs.take q) + 4294967296 ^ q * N32 (xs.drop q):=by
  have h1:=nval_append 4294967296 (xs.take q) (xs.drop q)
  rw [List.take_append_drop] at h1
  rcases Nat.lt_or_ge xs.length q with h2|h2
  ·have h3:xs.drop q=[]:=List.drop_of_length_le (by omega)
   have h4:xs.take q=xs:=List.take_of_length_le (by omega)
   rw [h3,h4];simp [N32,nval]
  ·rw [List.length_take,Nat.min_eq_left h2] at h1;exact h1
 have h2:N32 (xs.take q)<4294967296 ^ q:=by
  have:=nval_lt (B:=4294967296) (by decide) (xs.take q) (fun x hx=>h x (List.mem_of_mem_take hx))
  exact Nat.lt_of_lt_of_le this (Nat.pow_le_pow_right (by decide) (by rw [List.length_take];omega))
 have h3:N32 (xs.drop q) % 2 ^ r=xs.getD q 0 % 2 ^ r:=by
  have h4:=drop_step xs (i:=q)
  simp only [N32]
  rw [h4,show (4294967296:Nat)=2 ^ r * 2 ^ (32 - r) by rw [← Nat.pow_add,show r + (32 - r)=32 by omega],Nat.mul_assoc,Nat.add_mul_mod_self_left]
 rw [Nat.pow_add,Nat.pow_mul,show (2:Nat) ^ 32=4294967296 from rfl,Nat.mod_mul,h1,Nat.add_mul_mod_self_left,Nat.mod_eq_of_lt h2,Nat.add_mul_div_left _ _ (Nat.pow_pos (by decide)),Nat.div_eq_of_lt h2,Nat.zero_add,h3]
 have h5:=Nat.pow_pos (n:=q) (show 0<4294967296 by decide)
 generalize 4294967296 ^ q=B at *
 generalize N32 (xs.take q)=x at *
 generalize xs.getD q 0 % 2 ^ r=y at *
 exact or_lost h5
theorem lost_big {xs:List Nat} {n:Nat} (h:B32 xs) (hnt:xs.length=0∨N32 xs≠0) (hl:xs.length≤n / 32):decide (N32 xs % 2 ^ n≠0)=decide (0<xs.length):=by
 have h1:=nval_lt (B:=4294967296) (by decide) xs h
 have h2:N32 xs % 2 ^ n=N32 xs:=by
  refine Nat.mod_eq_of_lt (Nat.lt_of_lt_of_le h1 ?_)
  rw [show (4294967296:Nat)=2 ^ 32 from rfl,← Nat.pow_mul]
  exact Nat.pow_le_pow_right (by decide) (by omega)
 rw [h2]
 rcases hnt with h3|h3
 ·rw [List.eq_nil_of_length_eq_zero h3];rfl
 ·rw [decide_eq_true h3,decide_eq_true]
  rcases Nat.eq_zero_or_pos xs.length with h4|h4
  ·rw [List.eq_nil_of_length_eq_zero h4] at h3;exact absurd rfl h3
  ·exact h4
theorem take_step {xs:List Nat} {i:Nat} (hi:i<xs.length):decide (N32 (xs.take (i + 1))≠0)=(decide (N32 (xs.take i)≠0) || decide (xs.getD i 0≠0)):=by
 have h1:xs.take (i + 1)=xs.take i ++ [xs.getD i 0]:=by
  rw [List.take_add_one,List.getElem?_eq_getElem hi];simp [List.getD,List.getElem?_eq_getElem hi]
 have h2:N32 (xs.take (i + 1))=N32 (xs.take i) + 4294967296 ^ (xs.take i).length * xs.getD i 0:=by
  rw [h1];simp only [N32];rw [nval_append];simp only [nval,Nat.mul_zero,Nat.add_zero]
 have h5:=Nat.pow_pos (n:=(xs.take i).length) (show 0<4294967296 by decide)
 generalize 4294967296 ^ (xs.take i).length=B at *
 generalize N32 (xs.take (i + 1))=y at *
 subst h2
 exact or_lost h5
theorem p_rDownL {A:List Nat} {n:Nat} (hbA:B32 A) (hnt:A.length=0∨N32 A≠0) (hlA:A.length≤1099511627776) (hn:n≤1099511627776):PC Tryz.prog 183 [W32 A,i64 n] fun d=>d=.tup [W32 (D32 (N32 A / 2 ^ n)),bl (decide (N32 A % 2 ^ n≠0))]:=by
 have d1:=@dl 8 qR5_183_8
 have d2:=@dl 13 qR5_183_13
 refine PB (rs:=[.tmp 4,.tmp 5]) Tryz.func183 ?_
 have hall:=down_all hbA n
 have hlost:=lost_all hbA n
 have hbig:=lost_big (n:=n) hbA hnt
 generalize hq:n / 32=q at hall hlost hbig
 generalize hr:n % 32=r at hall hlost
 have hr32:r<32:=by omega
 have hr64:r≤64:=by omega
 have hr33:r≤32:=by omega
 repeat (first|(with_reducible first|refine pv_seq fun K hK=>?_|refine pv_reg ?_|refine pv_draw (id:=8) qR5_183_8 (by kernel_rfl) ?_|refine pv_draw (id:=13) qR5_183_13 (by kernel_rfl) ?_)|((with_reducible first|refine hK _ _ ?_|(clear hK;refine hK _ _ ?_)|(clear hK;clear hK;refine hK _ _ ?_));clear hK;try clear K)|simp -implicitDefEqProofs only [tdiv32,tmod32,hq,hr,true_and,go_sem,seval]|with_reducible intro b|(with_reducible refine And.intro ?_ ?_;· first|assumption|omega|(unfold R64;omega)))
 refine pv_cdD (fun ht=>?_) (fun ht=>?_)
 ·repeat (first|(with_reducible first|refine pv_seq fun K hK=>?_|refine pv_reg ?_|refine pv_draw (id:=8) qR5_183_8 (by kernel_rfl) ?_|refine pv_draw (id:=13) qR5_183_13 (by kernel_rfl) ?_)|((with_reducible first|refine hK _ _ ?_|(clear hK;refine hK _ _ ?_)|(clear hK;clear hK;refine hK _ _ ?_));clear hK;try clear K)|simp -implicitDefEqProofs only [tdiv32,tmod32,hq,hr,true_and,go_sem,seval]|with_reducible intro b|(with_reducible refine And.intro ?_ ?_;· first|assumption|omega|(unfold R64;omega)))
  rw [nval_drop_all (by omega),Nat.zero_div] at hall
  rw [hbig (by omega),N32,← hall,D32,digs_zero]
  rfl
 ·repeat (first|(with_reducible first|refine pv_seq fun K hK=>?_|refine pv_reg ?_|refine pv_draw (id:=8) qR5_183_8 (by kernel_rfl) ?_|refine pv_draw (id:=13) qR5_183_13 (by kernel_rfl) ?_)|((with_reducible first|refine hK _ _ ?_|(clear hK;refine hK _ _ ?_)|(clear hK;clear hK;refine hK _ _ ?_));clear hK;try clear K)|simp -implicitDefEqProofs only [tdiv32,tmod32,hq,hr,true_and,go_sem,seval]|with_reducible intro b|(with_reducible refine And.intro ?_ ?_;· first|assumption|omega|(unfold R64;omega)))
  obtain ⟨L,hL⟩:∃ L,decide (N32 A % 2 ^ n≠0)=L:=⟨_,rfl⟩
  rw [hL] at hlost
  simp only [hL] at hK
  rw [hL]
  have J:∀ (e:DEnv) (S:Store),e 0=W32 A→e 1=i64 n→e 6=bl (decide (N32 (A.take q)≠0))→K e S:=by
   intro e S g0 g1 g6
   refine hK _ _ ?_
   clear hK
   refine pv_seq fun K hK=>?_
   have J8:∀ (e:DEnv) (S:Store),e 0=W32 A→e 1=i64 n→e 6=bl L→K e S:=by
    intro e S g0 g1 g6
    repeat (first|(with_reducible first|refine pv_seq fun K hK=>?_|refine pv_reg ?_|refine pv_draw (id:=8) qR5_183_8 (by kernel_rfl) ?_|refine pv_draw (id:=13) qR5_183_13 (by kernel_rfl) ?_)|((with_reducible first|refine hK _ _ ?_|(clear hK;refine hK _ _ ?_)|(clear hK;clear hK;refine hK _ _ ?_));clear hK;try clear K)|simp -implicitDefEqProofs only [tdiv32,tmod32,hq,hr,g0,g1,g6,true_and,go_sem,seval]|with_reducible intro b|(with_reducible refine And.intro ?_ ?_;· first|assumption|omega|(unfold R64;omega)))
    have J9:∀ (e:DEnv) (S:Store) (os:List Nat),RowD S (.l 74) 1 (e 8) (rS (eK .u32) os)→B32 os→N32 os=N32 A / 2 ^ n→os.length≤2199023255553→e 6=bl L→K e S:=by
     intro e S os hr hb hv hl g6
     have ft:=g6
     repeat (first|(with_reducible first|refine pv_seq fun K hK=>?_|((first|refine hK _ _ ?_|(clear hK;refine hK _ _ ?_)|(clear hK;clear hK;refine hK _ _ ?_));clear hK;try clear K))| refine W0 ?_|exact Z|with_reducible intro b)
     refine PFC.coe (hr.coe1 fun S' _ _=>?_)
     refine call_is (p_trim hb (by omega)) ?_
     rw [hv]
     exact Wk
    clear hK
    refine pv_loop (fun e S=>∃ (k:Nat) (os:List Nat),q + k≤A.length∧os.length=k∧B32 os∧N32 os + 4294967296 ^ k * (nval 4294967296 (A.drop (q + k)) / 2 ^ r)=nval 4294967296 (A.drop q) / 2 ^ r∧e 0=W32 A∧e 1=i64 n∧e 6=bl L∧e 9=i64 (q + k:Nat)∧RowD S (.l 74) 1 (e 8) (rS (eK .u32) os)) (fun e _=>A.length - (intD (e 9)).toNat) ?_ ?_
    ·exact ⟨0,[],by omega,rfl,(fun x hx=>by cases hx),by simp [nval],(by simp -implicitDefEqProofs only [tdiv32,tmod32,hq,hr,g0,g1,g6,true_and,go_sem,seval]),(by simp -implicitDefEqProofs only [tdiv32,tmod32,hq,hr,g0,g1,g6,true_and,go_sem,seval]),(by simp -implicitDefEqProofs only [tdiv32,tmod32,hq,hr,g0,g1,g6,true_and,go_sem,seval]),rfl,.nil⟩
    ·rintro e S ⟨k,os,hk,hol,hob,hv,g0,g1,g6,g9,hrow⟩
     have hmz:(intD (e 9)).toNat=q + k:=by rw [g9];rfl
     have h0:=get_lt hbA (by decide) (q + k)
     have h1:=get_lt hbA (by decide) (q + k + 1)
     have hm0:A.getD (q + k) 0 % 18446744073709551616=A.getD (q + k) 0:=Nat.mod_eq_of_lt (by omega)
     have hm1:A.getD (q + k + 1) 0 % 18446744073709551616=A.getD (q + k + 1) 0:=Nat.mod_eq_of_lt (by omega)
     repeat (first|(with_reducible first|refine pv_seq fun K hK=>?_|refine pv_reg ?_|refine pv_draw (id:=8) qR5_183_8 (by kernel_rfl) ?_|refine pv_draw (id:=13) qR5_183_13 (by kernel_rfl) ?_)|((with_reducible first|refine hK _ _ ?_|(clear hK;refine hK _ _ ?_)|(clear hK;clear hK;refine hK _ _ ?_));clear hK;try clear K)|simp -implicitDefEqProofs only [tdiv32,tmod32,hq,hr,g0,g1,g6,g9,hm0,hm1,true_and,go_sem,seval]|with_reducible intro b|(with_reducible refine And.intro ?_ ?_;· first|assumption|omega|(unfold R64;omega)))
     refine pv_cdD (fun ht2=>?_) (fun ht2=>?_)
     ·repeat (first|(with_reducible first|refine pv_seq fun K hK=>?_|refine pv_reg ?_|refine pv_draw (id:=8) qR5_183_8 (by kernel_rfl) ?_|refine pv_draw (id:=13) qR5_183_13 (by kernel_rfl) ?_)|((with_reducible first|refine hK _ _ ?_|(clear hK;refine hK _ _ ?_)|(clear hK;clear hK;refine hK _ _ ?_));clear hK;try clear K)|simp -implicitDefEqProofs only [tdiv32,tmod32,hq,hr,g0,g1,g6,g9,hm0,hm1,true_and,go_sem,seval]|with_reducible intro b|(with_reducible refine And.intro ?_ ?_;· first|assumption|omega|(unfold R64;omega)))
      refine ExtC_is ?_
      simp -implicitDefEqProofs only [tdiv32,tmod32,hq,hr,g0,g1,g6,g9,hm0,hm1,true_and,go_sem,seval]
      refine (p_digit (i:=q + k + 1) hbA).mono fun d hd=>?_
      subst hd
      try simp -implicitDefEqProofs only [tdiv32,tmod32,hq,hr,g0,g1,g6,g9,hm0,hm1,true_and,go_sem,seval]
      have J10:∀ (e1:DEnv),e1 0=W32 A→e1 1=i64 n→e1 6=bl L→e1 8=e 8→e1 9=i64 (q + k:Nat)→e1 10=.g (.lit (.int .u64 ((A.getD (q + k) 0 + 4294967296 * A.getD (q + k + 1) 0:Nat):Int)))→K e1 S:=by
       intro e1 k0 k1 k6 k8 k9 k10
       have hlow:=low32 ((A.getD (q + k) 0 + 4294967296 * A.getD (q + k + 1) 0) / 2 ^ r) (Nat.lt_of_le_of_lt (Nat.div_le_self _ _) (by omega))
       repeat (first|(with_reducible first|refine pv_seq fun K hK=>?_|refine pv_reg ?_|refine pv_draw (id:=8) qR5_183_8 (by kernel_rfl) ?_|refine pv_draw (id:=13) qR5_183_13 (by kernel_rfl) ?_)|((with_reducible first|refine hK _ _ ?_|(clear hK;refine hK _ _ ?_)|(clear hK;clear hK;refine hK _ _ ?_));clear hK;try clear K)|simp -implicitDefEqProofs only [tdiv32,tmod32,hq,hr,k0,k1,k6,k8,k9,k10,hr64,hlow,Nat.mod_mod,true_and,go_sem,seval]|with_reducible intro b|(with_reducible refine And.intro ?_ ?_;· first|assumption|omega|(unfold R64;omega)))
       refine RowD.appL hrow (by decide) rfl (by simp [D.one]) ?_ ?_ fun d' S' hr' hS'=>?_
       ·rw [rS_len];simp;omega
       ·rw [rS_len];simp;omega
       repeat (first|(with_reducible first|refine pv_seq fun K hK=>?_|refine pv_reg ?_|refine pv_draw (id:=8) qR5_183_8 (by kernel_rfl) ?_|refine pv_draw (id:=13) qR5_183_13 (by kernel_rfl) ?_)|((with_reducible first|refine hK _ _ ?_|(clear hK;refine hK _ _ ?_)|(clear hK;clear hK;refine hK _ _ ?_));clear hK;try clear K)|simp -implicitDefEqProofs only [tdiv32,tmod32,hq,hr,k0,k1,k6,k8,k9,k10,hr64,hlow,Nat.mod_mod,true_and,go_sem,seval]|with_reducible intro b|(with_reducible refine And.intro ?_ ?_;· first|assumption|omega|(unfold R64;omega)))
       rw [rS_w,rS_app] at hr'
       refine ⟨⟨k + 1,_,by omega,by simp [hol],?_,?_,rfl,hr'⟩,?_⟩
       ·intro y hy
        simp only [List.mem_append,List.mem_singleton] at hy
        rcases hy with hy|rfl
        ·exact hob y hy
        ·omega
       ·have hM:nval 4294967296 (A.drop (q + k))=A.getD (q + k) 0 + 4294967296 * (A.getD (q + k + 1) 0 + 4294967296 * nval 4294967296 (A.drop (q + k + 2))):=by
         rw [drop_step A (i:=q + k),drop_step A (i:=q + k + 1)]
        have hd:=down32 hM hr32
        have hu:nval 4294967296 (A.drop (q + k + 1)) / 2 ^ r=nval 4294967296 (A.drop (q + k)) / 2 ^ r / 4294967296:=by
         rw [Nat.div_div_eq_div_mul,Nat.mul_comm,← Nat.div_div_eq_div_mul,drop_step A (i:=q + k),Nat.add_mul_div_left _ _ (by decide),Nat.div_eq_of_lt h0,Nat.zero_add]
        simp only [N32] at hv ⊢
        rw [← hd,nval_append,hol,← hv,show q + (k + 1)=q + k + 1 by omega,hu,Nat.pow_succ]
        simp only [nval,Nat.mul_zero,Nat.add_zero]
        rw [Nat.add_assoc,Nat.mul_assoc,← Nat.mul_add,Nat.mod_add_div]
       ·rw [hmz];simp only [intD];omega
      clear hK
      refine J10 _ (by simp -implicitDefEqProofs only [tdiv32,tmod32,hq,hr,g0,g1,g6,g9,hm0,hm1,true_and,go_sem,seval]) (by simp -implicitDefEqProofs only [tdiv32,tmod32,hq,hr,g0,g1,g6,g9,hm0,hm1,true_and,go_sem,seval]) (by simp -implicitDefEqProofs only [tdiv32,tmod32,hq,hr,g0,g1,g6,g9,hm0,hm1,true_and,go_sem,seval]) (by simp -implicitDefEqProofs only [tdiv32,tmod32,hq,hr,g0,g1,g6,g9,hm0,hm1,true_and,go_sem,seval]) (by simp -implicitDefEqProofs only [tdiv32,tmod32,hq,hr,g0,g1,g6,g9,hm0,hm1,true_and,go_sem,seval]) ?_
      simp -implicitDefEqProofs only [tdiv32,tmod32,hq,hr,g0,g1,g6,g9,hm0,hm1,true_and,go_sem,seval]
      rw [shl32,wrap64_nat,or64_nat _ _ (by omega) (Nat.mod_lt _ (by decide)),or_shift32 h0 h1]
     ·repeat (first|(with_reducible first|refine pv_seq fun K hK=>?_|refine pv_reg ?_|refine pv_draw (id:=8) qR5_183_8 (by kernel_rfl) ?_|refine pv_draw (id:=13) qR5_183_13 (by kernel_rfl) ?_)|((with_reducible first|refine hK _ _ ?_|(clear hK;refine hK _ _ ?_)|(clear hK;clear hK;refine hK _ _ ?_));clear hK;try clear K)|simp -implicitDefEqProofs only [tdiv32,tmod32,hq,hr,g0,g1,g6,g9,hm0,hm1,true_and,go_sem,seval]|with_reducible intro b|(with_reducible refine And.intro ?_ ?_;· first|assumption|omega|(unfold R64;omega)))
      refine J9 _ _ os (by try simp -implicitDefEqProofs only [tdiv32,tmod32,hq,hr,g0,g1,g6,g9,hm0,hm1,true_and,go_sem,seval];exact hrow) hob ?_ (by omega) (by simp -implicitDefEqProofs only [tdiv32,tmod32,hq,hr,g0,g1,g6,g9,hm0,hm1,true_and,go_sem,seval])
      rw [nval_drop_all (by omega),Nat.zero_div,Nat.mul_zero,Nat.add_zero] at hv
      exact hv.trans hall
   clear hK
   generalize decide (N32 (A.take q)≠0)=b at hlost g6
   cases b
   ·repeat (first|(with_reducible first|refine pv_seq fun K hK=>?_|refine pv_reg ?_|refine pv_draw (id:=8) qR5_183_8 (by kernel_rfl) ?_|refine pv_draw (id:=13) qR5_183_13 (by kernel_rfl) ?_)|((with_reducible first|refine hK _ _ ?_|(clear hK;refine hK _ _ ?_)|(clear hK;clear hK;refine hK _ _ ?_));clear hK;try clear K)|simp -implicitDefEqProofs only [tdiv32,tmod32,hq,hr,g0,g1,g6,hr33,true_and,go_sem,seval]|with_reducible intro b|(with_reducible refine And.intro ?_ ?_;· first|assumption|omega|(unfold R64;omega)))
    refine J8 _ _ (by simp -implicitDefEqProofs only [tdiv32,tmod32,hq,hr,g0,g1,g6,hr33,true_and,go_sem,seval]) (by simp -implicitDefEqProofs only [tdiv32,tmod32,hq,hr,g0,g1,g6,hr33,true_and,go_sem,seval]) ?_
    rw [hlost,Bool.false_or]
    simp -implicitDefEqProofs only [tdiv32,tmod32,hq,hr,g0,g1,g6,hr33,true_and,go_sem,seval]
    rw [mask32 (get_lt hbA (by decide) q) hr32]
    simp only [Int.natCast_eq_zero]
   ·repeat (first|(with_reducible first|refine pv_seq fun K hK=>?_|refine pv_reg ?_|refine pv_draw (id:=8) qR5_183_8 (by kernel_rfl) ?_|refine pv_draw (id:=13) qR5_183_13 (by kernel_rfl) ?_)|((with_reducible first|refine hK _ _ ?_|(clear hK;refine hK _ _ ?_)|(clear hK;clear hK;refine hK _ _ ?_));clear hK;try clear K)|simp -implicitDefEqProofs only [tdiv32,tmod32,hq,hr,g0,g1,g6,hr33,true_and,go_sem,seval]|with_reducible intro b|(with_reducible refine And.intro ?_ ?_;· first|assumption|omega|(unfold R64;omega)))
    refine J8 _ _ (by simp -implicitDefEqProofs only [tdiv32,tmod32,hq,hr,g0,g1,g6,hr33,true_and,go_sem,seval]) (by simp -implicitDefEqProofs only [tdiv32,tmod32,hq,hr,g0,g1,g6,hr33,true_and,go_sem,seval]) ?_
    rw [hlost];rfl
  clear hK
  refine pv_loop (fun e S=>∃ (i:Nat),i≤q∧e 0=W32 A∧e 1=i64 n∧e 6=bl (decide (N32 (A.take i)≠0))∧e 7=i64 i) (fun e _=>q - (intD (e 7)).toNat) ?_ ?_
  ·exact ⟨0,by omega,(by simp -implicitDefEqProofs only [tdiv32,tmod32,hq,hr,true_and,go_sem,seval]),(by simp -implicitDefEqProofs only [tdiv32,tmod32,hq,hr,true_and,go_sem,seval]),(by first|rfl|(simp -implicitDefEqProofs only [tdiv32,tmod32,hq,hr,true_and,go_sem,seval]<;>rfl)),(by simp -implicitDefEqProofs only [tdiv32,tmod32,hq,hr,true_and,go_sem,seval])⟩
  ·rintro e S ⟨i,hi,g0,g1,g6,g7⟩
   have hmz:(intD (e 7)).toNat=i:=by rw [g7];rfl
   repeat (first|(with_reducible first|refine pv_seq fun K hK=>?_|refine pv_reg ?_|refine pv_draw (id:=8) qR5_183_8 (by kernel_rfl) ?_|refine pv_draw (id:=13) qR5_183_13 (by kernel_rfl) ?_)|((with_reducible first|refine hK _ _ ?_|(clear hK;refine hK _ _ ?_)|(clear hK;clear hK;refine hK _ _ ?_));clear hK;try clear K)|simp -implicitDefEqProofs only [tdiv32,tmod32,hq,hr,g0,g1,g6,g7,true_and,go_sem,seval]|with_reducible intro b|(with_reducible refine And.intro ?_ ?_;· first|assumption|omega|(unfold R64;omega)))
   refine pv_cdD (fun ht1=>?_) (fun ht1=>?_)
   ·have hiA:i<A.length:=by omega
    have hts:=take_step hiA
    generalize decide (N32 (A.take i)≠0)=b at hts g6
    simp only [ne_eq] at hts
    cases b
    ·rw [Bool.false_or] at hts
     repeat (first|(with_reducible first|refine pv_seq fun K hK=>?_|refine pv_reg ?_|refine pv_draw (id:=8) qR5_183_8 (by kernel_rfl) ?_|refine pv_draw (id:=13) qR5_183_13 (by kernel_rfl) ?_)|((with_reducible first|refine hK _ _ ?_|(clear hK;refine hK _ _ ?_)|(clear hK;clear hK;refine hK _ _ ?_));clear hK;try clear K)|simp -implicitDefEqProofs only [tdiv32,tmod32,hq,hr,g0,g1,g6,g7,true_and,go_sem,seval]|with_reducible intro b|(with_reducible refine And.intro ?_ ?_;· first|assumption|omega|(unfold R64;omega)))
     exact ⟨⟨i + 1,by omega,by rw [hts],rfl⟩,by simp only [intD];omega⟩
    ·rw [Bool.true_or] at hts
     repeat (first|(with_reducible first|refine pv_seq fun K hK=>?_|refine pv_reg ?_|refine pv_draw (id:=8) qR5_183_8 (by kernel_rfl) ?_|refine pv_draw (id:=13) qR5_183_13 (by kernel_rfl) ?_)|((with_reducible first|refine hK _ _ ?_|(clear hK;refine hK _ _ ?_)|(clear hK;clear hK;refine hK _ _ ?_));clear hK;try clear K)|simp -implicitDefEqProofs only [tdiv32,tmod32,hq,hr,g0,g1,g6,g7,true_and,go_sem,seval]|with_reducible intro b|(with_reducible refine And.intro ?_ ?_;· first|assumption|omega|(unfold R64;omega)))
     exact ⟨⟨i + 1,by omega,by rw [hts],rfl⟩,by simp only [intD];omega⟩
   ·repeat (first|(with_reducible first|refine pv_seq fun K hK=>?_|refine pv_reg ?_|refine pv_draw (id:=8) qR5_183_8 (by kernel_rfl) ?_|refine pv_draw (id:=13) qR5_183_13 (by kernel_rfl) ?_)|((with_reducible first|refine hK _ _ ?_|(clear hK;refine hK _ _ ?_)|(clear hK;clear hK;refine hK _ _ ?_));clear hK;try clear K)|simp -implicitDefEqProofs only [tdiv32,tmod32,hq,hr,g0,g1,g6,g7,true_and,go_sem,seval]|with_reducible intro b|(with_reducible refine And.intro ?_ ?_;· first|assumption|omega|(unfold R64;omega)))
    obtain rfl:i=q:=by omega
    exact J _ _ (by simp -implicitDefEqProofs only [tdiv32,tmod32,hq,hr,g0,g1,g6,g7,true_and,go_sem,seval]) (by simp -implicitDefEqProofs only [tdiv32,tmod32,hq,hr,g0,g1,g6,g7,true_and,go_sem,seval]) (by simp -implicitDefEqProofs only [tdiv32,tmod32,hq,hr,g0,g1,g6,g7,true_and,go_sem,seval])
theorem D32_nt (n:Nat):(D32 n).length=0∨N32 (D32 n)≠0:=by
 have h:N32 (D32 n)=n:=nval_digs (by decide) n
 rw [h]
 by_cases h0:n=0
 ·subst h0;left;rw [D32,digs_zero];rfl
 ·exact .inr h0
theorem p_rDown {A:List Nat} {n:Nat} (hbA:B32 A) (hnt:A.length=0∨N32 A≠0) (hlA:A.length≤1099511627776) (hn:n≤1099511627776):PC Tryz.prog 183 [W32 A,i64 n] fun d=>∃ b,d=.tup [W32 (D32 (N32 A / 2 ^ n)),bl b] :=
 (p_rDownL hbA hnt hlA hn).mono fun d hd=>⟨_,hd⟩
end Go.V
namespace Go.V
open Go Go.RowKit Go.Proofs
theorem pow32 {r:Nat} (h:r<32):(4294967296:Nat)=2 ^ r * 2 ^ (32 - r):=by rw [← Nat.pow_add];rw [show r + (32 - r)=32 by omega]
theorem up_word32 {o a r:Nat} (hr:r<32) (ho:o<2 ^ r) (ha:a<4294967296) :
 (o ||| a * 2 ^ r % 4294967296) + 4294967296 * (a * 2 ^ r / 4294967296)=o + a * 2 ^ r:=by
 have hp:=pow32 hr
 have h1:a * 2 ^ r % 4294967296=2 ^ r * (a % 2 ^ (32 - r)):=by
  rw [Nat.mul_comm a];conv=>lhs;rw [hp]
  exact Nat.mul_mod_mul_left _ _ _
 have h2:=Nat.mod_add_div (a * 2 ^ r) 4294967296
 rw [h1] at h2 ⊢
 rw [Nat.or_comm,← Nat.two_pow_add_eq_or_of_lt ho]
 omega
theorem up_lt32 {o a r:Nat} (hr:r<32) (ho:o<2 ^ r) (ha:a<4294967296):(o ||| a * 2 ^ r % 4294967296)<4294967296:=by
 have h1:o<2 ^ 32:=Nat.lt_of_lt_of_le ho (Nat.pow_le_pow_right (by decide) (by omega))
 exact Nat.or_lt_two_pow (n:=32) h1 (Nat.mod_lt _ (by decide))
theorem up_hi32 {a r:Nat} (hr:r<32) (ha:a<4294967296):a * 2 ^ r / 4294967296<2 ^ r:=by
 rw [Nat.div_lt_iff_lt_mul (by decide),Nat.mul_comm]
 exact Nat.mul_lt_mul_of_pos_left ha (Nat.two_pow_pos _)
theorem up_lt64 {a r:Nat} (hr:r<32) (ha:a<4294967296):a * 2 ^ r<18446744073709551616:=by
 have h1:(2:Nat) ^ r≤2 ^ 31:=Nat.pow_le_pow_right (by decide) (by omega)
 have:=Nat.mul_le_mul (Nat.le_of_lt ha) h1
 omega
theorem getD_rep {m j:Nat}:(List.replicate m 0).getD j 0=0:=by
 simp only [List.getD,List.getElem?_replicate];split<;>rfl
theorem left_step {os A:List Nat} {q i r:Nat} (hr:r<32) (hbA:B32 A) (hi:i<A.length) (hol:os.length=q + A.length + 1) (ho:os.getD (q + i) 0<2 ^ r) (hz:∀ j,q + i<j→os.getD j 0=0)
 (hv:nval 4294967296 os + 4294967296 ^ (q + i) * (2 ^ r * nval 4294967296 (A.drop i))=4294967296 ^ q * (2 ^ r * nval 4294967296 A)) :
 nval 4294967296 ((os.set (q + i) (os.getD (q + i) 0 ||| A.getD i 0 * 2 ^ r % 4294967296)).set (q + i + 1) (A.getD i 0 * 2 ^ r / 4294967296)) + 4294967296 ^ (q + (i + 1)) * (2 ^ r * nval 4294967296 (A.drop (i + 1)))=4294967296 ^ q * (2 ^ r * nval 4294967296 A):=by
 have ha:=get_lt hbA (by decide) i
 have h1:=nval_set (B:=4294967296) (y:=os.getD (q + i) 0 ||| A.getD i 0 * 2 ^ r % 4294967296) (show q + i<os.length by omega)
 have h2:=nval_set (B:=4294967296) (xs:=os.set (q + i) (os.getD (q + i) 0 ||| A.getD i 0 * 2 ^ r % 4294967296)) (y:=A.getD i 0 * 2 ^ r / 4294967296) (i:=q + i + 1) (by rw [List.length_set];omega)
 have h3:(os.set (q + i) (os.getD (q + i) 0 ||| A.getD i 0 * 2 ^ r % 4294967296)).getD (q + i + 1) 0=0:=by
  rw [getD_set,if_neg (by omega)];exact hz _ (by omega)
 rw [h3,Nat.mul_zero,Nat.add_zero] at h2
 rw [h2,← hv,drop_step A (i:=i),show q + (i + 1)=q + i + 1 by omega,Nat.pow_succ]
 have h4:=up_word32 hr ho ha
 generalize nval 4294967296 (A.drop (i + 1))=u at *
 generalize os.getD (q + i) 0=o at *
 generalize (o ||| A.getD i 0 * 2 ^ r % 4294967296)=o' at *
 generalize A.getD i 0 * 2 ^ r / 4294967296=hi' at *
 generalize (4294967296:Nat) ^ (q + i)=W at *
 have h5:W * o' + W * (4294967296 * hi')=W * o + W * (A.getD i 0 * 2 ^ r):=by rw [← Nat.mul_add,h4,Nat.mul_add]
 have e1:W * (2 ^ r * (A.getD i 0 + 4294967296 * u))=W * (A.getD i 0 * 2 ^ r) + W * 4294967296 * (2 ^ r * u):=by
  rw [Nat.mul_add,Nat.mul_add,Nat.mul_comm (2 ^ r) (A.getD i 0),Nat.mul_assoc W,Nat.mul_left_comm (2 ^ r)]
 rw [e1,Nat.mul_assoc W 4294967296 hi']
 omega
theorem p_rLeft {A:List Nat} {n:Nat} (hbA:B32 A) (hlA:A.length≤1099511627776) (hn:n≤1099511627776):PC Tryz.prog 146 [W32 A,i64 n] fun d=>d=W32 (D32 (N32 A * 2 ^ n)):=by
 refine PB (rs:=[.tmp 4]) Tryz.func146 ?_
 have hnq:32 * (n / 32) + n % 32=n:=by omega
 generalize hq:n / 32=q at hnq
 generalize hr:n % 32=r at hnq
 have hr32:r<32:=by omega
 have hr64:r≤64:=by omega
 repeat (first|(with_reducible first|refine pv_seq fun K hK=>?_|refine pv_reg ?_)|((with_reducible first|refine hK _ _ ?_|(clear hK;refine hK _ _ ?_)|(clear hK;clear hK;refine hK _ _ ?_));clear hK;try clear K)|simp -implicitDefEqProofs only [tdiv32,tmod32,hq,hr,true_and,go_sem,seval]|with_reducible intro b|(with_reducible refine And.intro ?_ ?_;· first|assumption|omega|(unfold R64;omega)))
 refine pv_cdD (fun ht=>?_) (fun ht=>?_)
 ·repeat (first|(with_reducible first|refine pv_seq fun K hK=>?_|refine pv_reg ?_)|((with_reducible first|refine hK _ _ ?_|(clear hK;refine hK _ _ ?_)|(clear hK;clear hK;refine hK _ _ ?_));clear hK;try clear K)|simp -implicitDefEqProofs only [tdiv32,tmod32,hq,hr,true_and,go_sem,seval]|with_reducible intro b|(with_reducible refine And.intro ?_ ?_;· first|assumption|omega|(unfold R64;omega)))
  obtain rfl:A=[]:=List.eq_nil_of_length_eq_zero (by omega)
  rw [show N32 [] * 2 ^ n=0 from Nat.zero_mul _,D32,digs_zero]
  rfl
 ·repeat (first|(with_reducible first|refine pv_seq fun K hK=>?_|refine pv_reg ?_)|((with_reducible first|refine hK _ _ ?_|(clear hK;refine hK _ _ ?_)|(clear hK;clear hK;refine hK _ _ ?_));clear hK;try clear K)|simp -implicitDefEqProofs only [tdiv32,tmod32,hq,hr,true_and,go_sem,seval]|with_reducible intro b|(with_reducible refine And.intro ?_ ?_;· first|assumption|omega|(unfold R64;omega)))
  have J:∀ (e:DEnv) (S:Store) (os:List Nat),RowD S (.l 17) 1 (e 5) (rS (eK .u32) os)→B32 os→N32 os=N32 A * 2 ^ n→os.length≤3298534883329→K e S:=by
   intro e S os hr hb hv hl
   repeat (first|(with_reducible first|refine pv_seq fun K hK=>?_|refine pv_reg ?_)|((with_reducible first|refine hK _ _ ?_|(clear hK;refine hK _ _ ?_)|(clear hK;clear hK;refine hK _ _ ?_));clear hK;try clear K)|simp -implicitDefEqProofs only [tdiv32,tmod32,hq,hr,true_and,go_sem,seval]|with_reducible intro b|(with_reducible refine And.intro ?_ ?_;· first|assumption|omega|(unfold R64;omega)))
   refine PFC.coe (hr.coe1 fun S' _ _=>?_)
   refine call_is (p_trim hb (by omega)) ?_
   rw [hv]
   repeat (first|(with_reducible first|refine pv_seq fun K hK=>?_|refine pv_reg ?_)|((with_reducible first|refine hK _ _ ?_|(clear hK;refine hK _ _ ?_)|(clear hK;clear hK;refine hK _ _ ?_));clear hK;try clear K)|simp -implicitDefEqProofs only [tdiv32,tmod32,hq,hr,true_and,go_sem,seval]|with_reducible intro b|(with_reducible refine And.intro ?_ ?_;· first|assumption|omega|(unfold R64;omega)))
  clear hK
  refine pv_loop (fun e S=>∃ (i:Nat) (os:List Nat),i≤A.length∧os.length=q + A.length + 1∧B32 os∧os.getD (q + i) 0<2 ^ r∧(∀ j,q + i<j→os.getD j 0=0)∧nval 4294967296 os + 4294967296 ^ (q + i) * (2 ^ r * nval 4294967296 (A.drop i))=4294967296 ^ q * (2 ^ r * nval 4294967296 A)∧e 0=W32 A∧e 1=i64 n∧e 5=.own (.l 17) b 0 (q + A.length + 1) (q + A.length + 1) 1∧e 6=i64 i∧S (.l 17)=some ⟨b,1,0,rS (eK .u32) os⟩) (fun e _=>A.length - (intD (e 6)).toNat) ?_ ?_
  ·refine ⟨0,List.replicate (q + A.length + 1) 0,by omega,by simp,fun x hx=>by rw [List.eq_of_mem_replicate hx];decide,?_,fun j _=>?_,?_,(by simp -implicitDefEqProofs only [tdiv32,tmod32,hq,hr,true_and,go_sem,seval]),(by simp -implicitDefEqProofs only [tdiv32,tmod32,hq,hr,true_and,go_sem,seval]),(by simp -implicitDefEqProofs only [tdiv32,tmod32,hq,hr,true_and,go_sem,seval]),(by simp -implicitDefEqProofs only [tdiv32,tmod32,hq,hr,true_and,go_sem,seval]),?_⟩
   ·rw [getD_rep];exact Nat.two_pow_pos _
   ·rw [getD_rep]
   ·rw [nval_zeros _ _ (fun y hy=>List.eq_of_mem_replicate hy),Nat.zero_add,Nat.add_zero,List.drop_zero]
   ·rw [← rS_rep (f:=eK .u32) (y:=0) rfl];rfl
  ·rintro e S ⟨i,os,hi,hol,hob,ho,hz,hv,g0,g1,g5,g6,hS⟩
   have hmz:(intD (e 6)).toNat=i:=by rw [g6];rfl
   have ha:=get_lt hbA (by decide) i
   have hm0:A.getD i 0 % 18446744073709551616=A.getD i 0:=Nat.mod_eq_of_lt (by omega)
   have hm1:A.getD i 0 * 2 ^ r % 18446744073709551616=A.getD i 0 * 2 ^ r:=Nat.mod_eq_of_lt (up_lt64 hr32 ha)
   have hlow:=low32 (A.getD i 0 * 2 ^ r) (up_lt64 hr32 ha)
   have hhi:=up_hi32 hr32 ha
   have hpr:(2:Nat) ^ r≤2 ^ 31:=Nat.pow_le_pow_right (by decide) (by omega)
   have hor:=or32_nat (os.getD (q + i) 0) (A.getD i 0 * 2 ^ r % 4294967296) (by omega) (Nat.mod_lt _ (by decide))
   have hm2:A.getD i 0 * 2 ^ r / 4294967296 % 4294967296=A.getD i 0 * 2 ^ r / 4294967296:=Nat.mod_eq_of_lt (by omega)
   repeat (first|(with_reducible first|refine pv_seq fun K hK=>?_|refine pv_reg ?_)|((with_reducible first|refine hK _ _ ?_|(clear hK;refine hK _ _ ?_)|(clear hK;clear hK;refine hK _ _ ?_));clear hK;try clear K)|simp -implicitDefEqProofs only [tdiv32,tmod32,hq,hr,g0,g1,g5,g6,true_and,go_sem,seval]|with_reducible intro b|(with_reducible refine And.intro ?_ ?_;· first|assumption|omega|(unfold R64;omega)))
   refine pv_cdD (fun ht2=>?_) (fun ht2=>?_)
   ·have hget:(rS (eK .u32) os)[q + i]? = some [.g (.lit (.int .u32 (os.getD (q + i) 0:Nat)))]:=by
     rw [rS_get,getD_some (by omega)];rfl
    have hget2:∀ x,((rS (eK .u32) os).set (q + i) x)[q + i + 1]? = some [.g (.lit (.int .u32 (os.getD (q + i + 1) 0:Nat)))]:=by
     intro x
     rw [List.getElem?_set_ne (by omega),rS_get,getD_some (by omega)];rfl
    repeat (first|(with_reducible first|refine pv_seq fun K hK=>?_|refine pv_reg ?_)|((with_reducible first|refine hK _ _ ?_|(clear hK;refine hK _ _ ?_)|(clear hK;clear hK;refine hK _ _ ?_));clear hK;try clear K)|simp -implicitDefEqProofs only [tdiv32,tmod32,hq,hr,g0,g1,g5,g6,hS,hm0,hm1,hm2,hlow,hor,hr64,hget,hget2,Nat.mod_mod,Nat.zero_add,D.one,Nat.le_refl,true_and,go_sem,seval]|with_reducible intro b|(with_reducible refine And.intro ?_ ?_;· first|assumption|omega|(unfold R64;omega)))
    refine ⟨⟨i + 1,(os.set (q + i) (os.getD (q + i) 0 ||| A.getD i 0 * 2 ^ r % 4294967296)).set (q + i + 1) (A.getD i 0 * 2 ^ r / 4294967296),by omega,by simp [hol],?_,?_,fun j hj=>?_,left_step hr32 hbA ht2 hol ho hz hv,rfl,?_⟩,?_⟩
    ·exact set_lt (set_lt hob (up_lt32 hr32 ho ha)) (by omega)
    ·rw [getD_set,if_pos ⟨by omega,by rw [List.length_set];omega⟩];exact hhi
    ·rw [getD_set,if_neg (by omega),getD_set,if_neg (by omega)];exact hz j (by omega)
    ·rw [← rS_set (f:=eK .u32) (y:=A.getD i 0 * 2 ^ r / 4294967296) rfl,← rS_set (f:=eK .u32) (y:=os.getD (q + i) 0 ||| A.getD i 0 * 2 ^ r % 4294967296) rfl];rfl
    ·simp only [intD];omega
   ·repeat (first|(with_reducible first|refine pv_seq fun K hK=>?_|refine pv_reg ?_)|((with_reducible first|refine hK _ _ ?_|(clear hK;refine hK _ _ ?_)|(clear hK;clear hK;refine hK _ _ ?_));clear hK;try clear K)|simp -implicitDefEqProofs only [tdiv32,tmod32,hq,hr,g0,g1,g5,g6,true_and,go_sem,seval]|with_reducible intro b|(with_reducible refine And.intro ?_ ?_;· first|assumption|omega|(unfold R64;omega)))
    obtain rfl:i=A.length:=by omega
    refine J _ _ os (by try simp -implicitDefEqProofs only [tdiv32,tmod32,hq,hr,g0,g1,g5,g6,true_and,go_sem,seval];exact .own (by rw [rS_len];omega) hS) hob ?_ (by omega)
    rw [nval_drop_all (Nat.le_refl _),Nat.mul_zero,Nat.mul_zero,Nat.add_zero] at hv
    rw [N32,hv,← hnq,Nat.pow_add,Nat.pow_mul]
    rw [show (2:Nat) ^ 32=4294967296 from rfl,N32,Nat.mul_comm (nval _ _),Nat.mul_assoc]
end Go.V
namespace Go.V
open Go Go.RowKit Go.Proofs
def qR8_152_9:List (Nat × Nat):=[(0,0),(1,0),(2,0),(3,0),(4,1),(5,0),(6,0),(7,0),(8,0),(9,1),(10,0),(11,0),(12,0),(13,0),(14,0),(15,0),(16,0),(17,1),(18,0),(19,0),(20,0),(21,0)]
attribute [go_sem] qR8_152_9
theorem mul_s {a b c o:Nat} (ha:a<4294967296) (hb:b<4294967296) (hc:c<4294967296) (ho:o<4294967296):c + (a * b + o)<18446744073709551616:=by
 have:=Nat.mul_le_mul (Nat.le_sub_one_of_lt ha) (Nat.le_sub_one_of_lt hb)
 omega
theorem mul_step32 {os B:List Nat} {k j a c E T:Nat} (hk:k<os.length)
 (hv:nval 4294967296 os + 4294967296 ^ k * (c + a * nval 4294967296 (B.drop j)) + E=T) :
 nval 4294967296 (os.set k ((c + (a * B.getD j 0 + os.getD k 0)) % 4294967296)) + 4294967296 ^ (k + 1) * ((c + (a * B.getD j 0 + os.getD k 0)) / 4294967296 + a * nval 4294967296 (B.drop (j + 1))) + E=T:=by
 have h1:=nval_set (B:=4294967296) (y:=(c + (a * B.getD j 0 + os.getD k 0)) % 4294967296) hk
 rw [drop_step B (i:=j)] at hv
 rw [← hv,Nat.pow_succ]
 have h2:=Nat.mod_add_div (c + (a * B.getD j 0 + os.getD k 0)) 4294967296
 generalize (c + (a * B.getD j 0 + os.getD k 0)) % 4294967296=s at *
 generalize (c + (a * B.getD j 0 + os.getD k 0)) / 4294967296=c' at *
 generalize nval 4294967296 (B.drop (j + 1))=u at *
 generalize (4294967296:Nat) ^ k=W at *
 have e1:W * s + W * (4294967296 * c')=W * c + (W * (a * B.getD j 0) + W * os.getD k 0):=by rw [← Nat.mul_add,h2,Nat.mul_add,Nat.mul_add]
 have e2:W * (c + a * (B.getD j 0 + 4294967296 * u))=W * c + W * (a * B.getD j 0) + W * (4294967296 * (a * u)):=by
  rw [Nat.mul_add a,Nat.mul_left_comm a,Nat.mul_add,Nat.mul_add,Nat.add_assoc]
 have e3:W * 4294967296 * (c' + a * u)=W * (4294967296 * c') + W * (4294967296 * (a * u)):=by rw [Nat.mul_assoc,Nat.mul_add,Nat.mul_add]
 rw [e2,e3]
 omega
theorem p_rMul {A B:List Nat} (hbA:B32 A) (hbB:B32 B) (hlA:A.length≤1099511627776) (hlB:B.length≤1099511627776):PC Tryz.prog 152 [W32 A,W32 B] fun d=>d=W32 (D32 (N32 A * N32 B)):=by
 have d1:=@dl 9 qR8_152_9
 refine PB (rs:=[.tmp 4]) Tryz.func152 ?_
 repeat (first|(with_reducible first|refine pv_seq fun K hK=>?_|((first|refine hK _ _ ?_|(clear hK;refine hK _ _ ?_)|(clear hK;clear hK;refine hK _ _ ?_));clear hK;try clear K))| refine W0 ?_|exact Z|with_reducible intro b)
 have J:∀ (e:DEnv) (S:Store) (os:List Nat),RowD S (.l 14) 1 (e 5) (rS (eK .u32) os)→B32 os→N32 os=N32 A * N32 B→os.length≤3298534883329→K e S:=by
  intro e S os hr hb hv hl
  repeat (first|(with_reducible first|refine pv_seq fun K hK=>?_|((first|refine hK _ _ ?_|(clear hK;refine hK _ _ ?_)|(clear hK;clear hK;refine hK _ _ ?_));clear hK;try clear K))| refine W0 ?_|exact Z|with_reducible intro b)
  refine PFC.coe (hr.coe1 fun S' _ _=>?_)
  refine call_is (p_trim hb (by omega)) ?_
  rw [hv]
  exact Wk
 clear hK
 refine pv_loop (fun e S=>∃ (i:Nat) (os:List Nat),i≤A.length∧os.length=A.length + B.length∧B32 os∧(∀ j,i + B.length≤j→os.getD j 0=0)∧nval 4294967296 os + 4294967296 ^ i * (nval 4294967296 (A.drop i) * nval 4294967296 B)=nval 4294967296 A * nval 4294967296 B∧e 0=W32 A∧e 1=W32 B∧e 5=.own (.l 14) b 0 (A.length + B.length) (A.length + B.length) 1∧e 6=i64 i∧S (.l 14)=some ⟨b,1,0,rS (eK .u32) os⟩) (fun e _=>A.length - (intD (e 6)).toNat) ?_ ?_
 ·refine ⟨0,List.replicate (A.length + B.length) 0,by omega,by simp,fun x hx=>by rw [List.eq_of_mem_replicate hx];decide,fun j _=>?_,?_,Z,Z,Z,Z,?_⟩
  ·simp only [List.getD,List.getElem?_replicate];split<;>rfl
  ·rw [nval_zeros _ _ (fun y hy=>List.eq_of_mem_replicate hy),Nat.zero_add,Nat.pow_zero,Nat.one_mul,List.drop_zero]
  ·rw [← rS_rep (f:=eK .u32) (y:=0) rfl];rfl
 ·rintro e S ⟨i,os,hi,hol,hob,hz,hv,g0,g1,g5,g6,hS⟩
  have hmz:(intD (e 6)).toNat=i:=by rw [g6];rfl
  have ft:=And.intro g0 (And.intro g1 (And.intro g5 g6))
  repeat (first|(with_reducible first|refine pv_seq fun K hK=>?_|((first|refine hK _ _ ?_|(clear hK;refine hK _ _ ?_)|(clear hK;clear hK;refine hK _ _ ?_));clear hK;try clear K))| refine W0 ?_|exact Z|with_reducible intro b)
  refine pv_cdD (fun ht=>?_) (fun ht=>?_)
  ·repeat (first|(with_reducible first|refine pv_seq fun K hK=>?_|((first|refine hK _ _ ?_|(clear hK;refine hK _ _ ?_)|(clear hK;clear hK;refine hK _ _ ?_));clear hK;try clear K))| refine W0 ?_|exact Z|with_reducible intro b)
   have J2:∀ (e:DEnv) (S:Store) (os:List Nat) (c:Nat),os.length=A.length + B.length→B32 os→(∀ j,i + B.length≤j→os.getD j 0=0)→c<4294967296→nval 4294967296 os + 4294967296 ^ (i + B.length) * c + 4294967296 ^ (i + 1) * (nval 4294967296 (A.drop (i + 1)) * nval 4294967296 B)=nval 4294967296 A * nval 4294967296 B→e 0=W32 A→e 1=W32 B→e 5=.own (.l 14) b 0 (A.length + B.length) (A.length + B.length) 1→e 6=i64 i→e 7=.g (.lit (.int .u64 c))→S (.l 14)=some ⟨b,1,0,rS (eK .u32) os⟩→K e S:=by
    intro e S os c hol hob hz hc hv g0 g1 g5 g6 g7 hS
    have hm:c % 4294967296=c:=Nat.mod_eq_of_lt hc
    have hget:(rS (eK .u32) os)[i + B.length]? = some [.g (.lit (.int .u32 (os.getD (i + B.length) 0:Nat)))]:=by
     rw [rS_get,getD_some (by omega)];rfl
    repeat (first|(with_reducible first|refine pv_seq fun K hK=>?_|refine pv_reg ?_|refine pv_draw (id:=9) qR8_152_9 (by kernel_rfl) ?_)|((with_reducible first|refine hK _ _ ?_|(clear hK;refine hK _ _ ?_)|(clear hK;clear hK;refine hK _ _ ?_));clear hK;try clear K)|simp -implicitDefEqProofs only [g0,g1,g5,g6,g7,hS,hm,hget,Nat.zero_add,D.one,Nat.le_refl,true_and,go_sem,seval]|with_reducible intro b|(with_reducible refine And.intro ?_ ?_;· first|assumption|omega|(unfold R64;omega)))
    refine ⟨⟨i + 1,os.set (i + B.length) c,by omega,by simp [hol],?_,fun j hj=>?_,?_,rfl,?_⟩,?_⟩
    ·exact set_lt hob hc
    ·rw [getD_set,if_neg (by omega)];exact hz j (by omega)
    ·have h1:=nval_set (B:=4294967296) (y:=c) (show i + B.length<os.length by omega)
     rw [hz _ (Nat.le_refl _),Nat.mul_zero,Nat.add_zero] at h1
     rw [h1];exact hv
    ·rw [← rS_set (f:=eK .u32) (y:=c) rfl];rfl
    ·rw [hmz];simp only [intD];omega
   clear hK
   refine pv_loop (fun e S=>∃ (j c:Nat) (os:List Nat),j≤B.length∧c<4294967296∧os.length=A.length + B.length∧B32 os∧(∀ j,i + B.length≤j→os.getD j 0=0)∧nval 4294967296 os + 4294967296 ^ (i + j) * (c + A.getD i 0 * nval 4294967296 (B.drop j)) + 4294967296 ^ (i + 1) * (nval 4294967296 (A.drop (i + 1)) * nval 4294967296 B)=nval 4294967296 A * nval 4294967296 B∧e 0=W32 A∧e 1=W32 B∧e 5=.own (.l 14) b 0 (A.length + B.length) (A.length + B.length) 1∧e 6=i64 i∧e 7=.g (.lit (.int .u64 c))∧e 8=i64 j∧S (.l 14)=some ⟨b,1,0,rS (eK .u32) os⟩) (fun e _=>B.length - (intD (e 8)).toNat) ?_ ?_
   ·refine ⟨0,0,os,by omega,by omega,hol,hob,hz,?_,Z,Z,Z,Z,rfl,Z,hS⟩
    rw [← hv,drop_step A (i:=i),Nat.add_zero,List.drop_zero,Nat.zero_add,Nat.add_assoc,Nat.pow_succ,Nat.add_mul,Nat.mul_add,Nat.mul_assoc,Nat.mul_assoc]
   ·clear hv hz hob hol hS g0 g1 g5 g6 hmz
    rintro e S ⟨j,c,os,hj,hc,hol,hob,hz,hv,g0,g1,g5,g6,g7,g8,hS⟩
    have hmz:(intD (e 8)).toNat=j:=by rw [g8];rfl
    have ha:=get_lt hbA (by decide) i
    have hb:=get_lt hbB (by decide) j
    have ho:=get_lt hob (by decide) (i + j)
    have hs:=mul_s ha hb hc ho
    have hma:A.getD i 0 % 18446744073709551616=A.getD i 0:=Nat.mod_eq_of_lt (by omega)
    have hmb:B.getD j 0 % 18446744073709551616=B.getD j 0:=Nat.mod_eq_of_lt (by omega)
    have hmo:os.getD (i + j) 0 % 18446744073709551616=os.getD (i + j) 0:=Nat.mod_eq_of_lt (by omega)
    have hm1:A.getD i 0 * B.getD j 0 % 18446744073709551616=A.getD i 0 * B.getD j 0:=Nat.mod_eq_of_lt (by omega)
    have hm2:(A.getD i 0 * B.getD j 0 + os.getD (i + j) 0) % 18446744073709551616=A.getD i 0 * B.getD j 0 + os.getD (i + j) 0:=Nat.mod_eq_of_lt (by omega)
    have hm3:(c + (A.getD i 0 * B.getD j 0 + os.getD (i + j) 0)) % 18446744073709551616=c + (A.getD i 0 * B.getD j 0 + os.getD (i + j) 0):=Nat.mod_eq_of_lt hs
    have hlow:=low32 (c + (A.getD i 0 * B.getD j 0 + os.getD (i + j) 0)) hs
    have ft:=And.intro g0 (And.intro g1 (And.intro g5 (And.intro g6 (And.intro g7 g8))))
    repeat (first|(with_reducible first|refine pv_seq fun K hK=>?_|((first|refine hK _ _ ?_|(clear hK;refine hK _ _ ?_)|(clear hK;clear hK;refine hK _ _ ?_));clear hK;try clear K))| refine W0 ?_|exact Z|with_reducible intro b)
    refine pv_cdD (fun ht2=>?_) (fun ht2=>?_)
    ·have hget:(rS (eK .u32) os)[i + j]? = some [.g (.lit (.int .u32 (os.getD (i + j) 0:Nat)))]:=by
      rw [rS_get,getD_some (by omega)];rfl
     repeat (first|(with_reducible first|refine pv_seq fun K hK=>?_|refine pv_reg ?_|refine pv_draw (id:=9) qR8_152_9 (by kernel_rfl) ?_)|((with_reducible first|refine hK _ _ ?_|(clear hK;refine hK _ _ ?_)|(clear hK;clear hK;refine hK _ _ ?_));clear hK;try clear K)|simp -implicitDefEqProofs only [g0,g1,g5,g6,g7,g8,hS,hget,hma,hmb,hmo,hm1,hm2,hm3,hlow,Nat.mod_mod,Nat.zero_add,D.one,Nat.le_refl,true_and,go_sem,seval]|with_reducible intro b|(with_reducible refine And.intro ?_ ?_;· first|assumption|omega|(unfold R64;omega)))
     refine ⟨⟨j + 1,(c + (A.getD i 0 * B.getD j 0 + os.getD (i + j) 0)) / 4294967296,os.set (i + j) ((c + (A.getD i 0 * B.getD j 0 + os.getD (i + j) 0)) % 4294967296),by omega,by omega,by simp [hol],?_,fun m hm=>?_,?_,rfl,rfl,?_⟩,?_⟩
     ·exact set_lt hob (by omega)
     ·rw [getD_set,if_neg (by omega)];exact hz m hm
     ·exact mul_step32 (by omega) hv
     ·rw [← rS_set (f:=eK .u32) (y:=(c + (A.getD i 0 * B.getD j 0 + os.getD (i + j) 0)) % 4294967296) rfl];rfl
     ·simp only [intD];omega
    ·repeat (first|(with_reducible first|refine pv_seq fun K hK=>?_|((first|refine hK _ _ ?_|(clear hK;refine hK _ _ ?_)|(clear hK;clear hK;refine hK _ _ ?_));clear hK;try clear K))| refine W0 ?_|exact Z|with_reducible intro b)
     obtain rfl:j=B.length:=by omega
     refine J2 _ _ os c hol hob hz hc ?_ Z Z Z Z Z hS
     rw [nval_drop_all (Nat.le_refl _),Nat.mul_zero,Nat.add_zero] at hv
     exact hv
  ·repeat (first|(with_reducible first|refine pv_seq fun K hK=>?_|((first|refine hK _ _ ?_|(clear hK;refine hK _ _ ?_)|(clear hK;clear hK;refine hK _ _ ?_));clear hK;try clear K))| refine W0 ?_|exact Z|with_reducible intro b)
   obtain rfl:i=A.length:=by omega
   refine J _ _ os (by try simp -implicitDefEqProofs only [ft,go_sem,seval];exact .own (by rw [rS_len];omega) hS) hob ?_ (by omega)
   rw [nval_drop_all (Nat.le_refl _),Nat.zero_mul,Nat.mul_zero,Nat.add_zero] at hv
   exact hv
end Go.V
