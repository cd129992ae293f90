/- Package round over values as data. Package round over values as data: Fit, Add, Sub, Mul, Div. -/
import Derived.Test.YtgapammfekmihaaGreatDoorZcPX
import Derived.Test.YtgapammfekmihaaGreatDoorZcPV
import Derived.Test.YtgapammfekmihaaGreatDoorZcPC
set_option linter.unusedSimpArgs false
set_option linter.unusedVariables false
set_option maxRecDepth 100000
namespace Go.V
open Go Go.RowKit Go.Proofs
def qE1_189_1:List (Nat × Nat):=[(0,2),(1,0),(2,0),(3,4),(4,3),(5,3)]
attribute [go_sem] qE1_189_1
def okP (p:Int):Bool:=decide (8≤p) && decide (p≤256)
theorem p_Valid {p:Int}:PC Tryz.prog 172 [i64 p] fun d=>d=bl (okP p):=by
 refine PB (rs:=[.tmp 2]) Tryz.func172 ?_
 by_cases h1:(8:Int)≤p
 ·by_cases h2:p≤(256:Int)
  ·rw [okP,decide_eq_true h1,decide_eq_true h2]
   have ft:=And.intro (eq_true h1) (eq_true h2)
   exact Wk
  ·rw [okP,decide_eq_true h1,decide_eq_false h2]
   have ft:=And.intro (eq_true h1) (eq_false h2)
   exact Wk
 ·rw [okP,decide_eq_false h1]
  have ft:=(eq_false h1)
  exact Wk
theorem okP_nat {p:Int} (h:okP p=true):∃ n:Nat,p=n∧8≤n∧n≤256:=by
 unfold okP at h
 rw [Bool.and_eq_true,decide_eq_true_eq,decide_eq_true_eq] at h
 exact ⟨p.toNat,by omega,by omega,by omega⟩
theorem p_away1 {neg up:Bool}:PC Tryz.prog 196 [bl neg,.ip [.lit (.bool up)]] fun d=>d=bl (up != neg):=by
 refine PB (rs:=[.tmp 3]) Tryz.func196 ?_
 cases neg<;>cases up
 ·exact Wk
 ·exact Wk
 ·exact Wk
 ·exact Wk
theorem N64_D64 (n:Nat):N64 (D64 n)=n:=nval_digs (by decide) n
theorem p_rounded {k p:Nat} {x:Nu} {up:Bool} (hx:Sz k x) (hk:k≤16777216) (hp:p≤1024):PC Tryz.prog 194 [NU x,i64 p,.fn 196 [] [.ip [.lit (.bool up)]]] fun d=>∃ z,d=NU z∧Sz (65 * k + 1) z∧z.val=rd p up x.val:=by
 have hb:=hx.b;have hlen:=hx.len;have hlo:=hx.lo;have hhi:=hx.hi;have hlt:=hx.lt
 rw [Nu.val,rd_dy,rdM]
 obtain ⟨neg,exp,w⟩:=x
 simp only at hb hlen hlo hhi hlt
 have pB:=p_Bits hb (by omega)
 have pZ:=p_Zeros hb (by omega)
 have hbl:bitLen (N64 w)≤64 * k:=bitLen_le (by rw [Nat.pow_mul];exact hlt)
 show PC _ _ _ fun d=>∃ z,d=NU z∧Sz (65 * k + 1) z∧z.val=if bitLen (N64 w)≤p then dy neg (N64 w) exp else dy neg (N64 w / 2 ^ (bitLen (N64 w) - p) + if N64 w % 2 ^ (bitLen (N64 w) - p)≠0∧up≠neg then 1 else 0) (exp + (bitLen (N64 w) - p:Nat))
 by_cases h:bitLen (N64 w)≤p
 ·rw [if_pos h]
  have k1:((bitLen (N64 w):Int) - (p:Int)≤0)=True:=eq_true (by omega)
  refine PB (rs:=[.cell 6 41]) Tryz.func194 ?_
  have ft:=k1
  repeat (first|(with_reducible first|refine pv_seq fun K hK=>?_|((first|refine hK _ _ ?_|(clear hK;refine hK _ _ ?_)|(clear hK;clear hK;refine hK _ _ ?_));clear hK;try clear K))| refine W ?_|exact Z|with_reducible intro b)
  exact ⟨⟨neg,exp,w⟩,rfl,hx.mono (by omega),rfl⟩
 ·rw [if_neg h]
  obtain ⟨s,hs⟩:∃ s:Nat,bitLen (N64 w) - p=s:=⟨_,rfl⟩
  have hs2:(bitLen (N64 w):Int) - (p:Int)=(s:Int):=by omega
  have h0:N64 w≠0:=by intro h2;rw [h2,bitLen_zero] at h;omega
  have pD:=p_Down (n:=s) hb (by omega) (by omega)
  have k1:((s:Int)≤0)=False:=eq_false (by omega)
  have tzl:(N64 w % 2 ^ s≠0) ↔ tz (N64 w)<s:=by
   obtain ⟨m,hm⟩:=tz_spec _ h0
   generalize tz (N64 w)=t at *
   rw [hm]
   constructor
   ·intro h2
    rcases Nat.lt_or_ge t s with h3|h3
    ·exact h3
    ·exfalso;apply h2
     obtain ⟨i,rfl⟩:∃ i,t=s + i:=⟨t - s,by omega⟩
     rw [Nat.pow_add,Nat.mul_assoc,Nat.mul_mod_right]
   ·intro h2 h3
    obtain ⟨i,rfl⟩:∃ i,s=t + (i + 1):=⟨s - t - 1,by omega⟩
    rw [Nat.pow_add,Nat.mul_mod_mul_left,Nat.mul_eq_zero] at h3
    rcases h3 with h3|h3
    ·have:=Nat.two_pow_pos t;omega
    ·have h4:=congrArg (· % 2) h3
     simp only [Nat.pow_succ,Nat.mul_comm (2 ^ i) 2,Nat.mod_mul_right_mod] at h4
     omega
  rw [hs]
  have hq:N64 w / 2 ^ s<18446744073709551616 ^ k:=Nat.lt_of_le_of_lt (Nat.div_le_self _ _) hlt
  have hql:(D64 (N64 w / 2 ^ s)).length≤k:=digs_len_le (by decide) hq
  have szq:∀ c,c≤1→Sz (65 * k + 1) ⟨neg,exp + s,D64 (N64 w / 2 ^ s + c)⟩:=fun c hc =>
   Sz.mk' (Nat.lt_of_lt_of_le (show _<18446744073709551616 ^ k + 1 by omega) (by
    have h9:18446744073709551616 ^ k * 2≤18446744073709551616 ^ (65 * k + 1):=by
     rw [show 65 * k + 1=k + (64 * k + 1) by omega,Nat.pow_add]
     exact Nat.mul_le_mul_left _ (Nat.le_trans (by decide) (Nat.pow_le_pow_right (by decide) (show 1≤64 * k + 1 by omega)))
    have:=Nat.pow_pos (n:=k) (show 0<18446744073709551616 by decide)
    omega)) (by omega) (by omega)
  have pA:=p_Add (xs:=D64 (N64 w / 2 ^ s)) (ys:=[1]) (digs_lt (by decide) _) (by decide) (by omega) (by decide)
  rw [N64_D64,show N64 [1]=1 by decide] at pA
  have pX:=p_away1 (neg:=neg) (up:=up)
  by_cases hu:up=neg
  ·rw [if_neg (by simp [hu])]
   rw [show (up != neg)=false by rw [hu];cases neg<;>rfl] at pX
   refine PB (rs:=[.cell 6 41]) Tryz.func194 ?_
   have ft:=And.intro hs2 k1
   repeat (first|(with_reducible first|refine pv_seq fun K hK=>?_|((first|refine hK _ _ ?_|(clear hK;refine hK _ _ ?_)|(clear hK;clear hK;refine hK _ _ ?_));clear hK;try clear K))| refine W ?_|exact Z|with_reducible intro b)
   exact ⟨_,rfl,szq 0 (by decide),by rw [Nat.add_zero,val_mk]⟩
  ·rw [show (up != neg)=true by cases up<;>cases neg<;>simp at hu ⊢] at pX
   by_cases ht:tz (N64 w)<s
   ·have k2:((tz (N64 w):Int)<(s:Int))=True:=eq_true (by omega)
    rw [if_pos ⟨tzl.2 ht,hu⟩]
    refine PB (rs:=[.cell 6 41]) Tryz.func194 ?_
    have ft:=And.intro hs2 (And.intro k1 k2)
    repeat (first|(with_reducible first|refine pv_seq fun K hK=>?_|((first|refine hK _ _ ?_|(clear hK;refine hK _ _ ?_)|(clear hK;clear hK;refine hK _ _ ?_));clear hK;try clear K))| refine W ?_|exact Z|with_reducible intro b)
    exact ⟨_,rfl,szq 1 (by decide),val_mk⟩
   ·have k2:((tz (N64 w):Int)<(s:Int))=False:=eq_false (by omega)
    rw [if_neg (by rw [tzl];simp [ht])]
    refine PB (rs:=[.cell 6 41]) Tryz.func194 ?_
    have ft:=And.intro hs2 (And.intro k1 k2)
    repeat (first|(with_reducible first|refine pv_seq fun K hK=>?_|((first|refine hK _ _ ?_|(clear hK;refine hK _ _ ?_)|(clear hK;clear hK;refine hK _ _ ?_));clear hK;try clear K))| refine W ?_|exact Z|with_reducible intro b)
    exact ⟨_,rfl,szq 0 (by decide),by rw [Nat.add_zero,val_mk]⟩
theorem p_away {up:Bool}:PC Tryz.prog 195 [bl up] fun d=>d=.fn 196 [] [.ip [.lit (.bool up)]]:=by
 refine PZB (rs:=[.tmp 2]) Tryz.func195 ?_
 exact Wk
theorem p_roundE {k p:Nat} {x:Nu} {up:Bool} (hx:Sz k x) (hk:k≤16777216) (hp:p≤1024):PC Tryz.prog 189 [NU x,i64 p,bl up] fun d=>∃ z,d=NU z∧Sz (65 * k + 1) z∧z.val=rd p up x.val:=by
 have pR:=p_rounded (p:=p) (up:=up) hx hk hp
 generalize rd p up x.val=v at *
 obtain ⟨neg,exp,w⟩:=x
 have d1:=@dl 1 qE1_189_1
 refine PB (rs:=[.cell 6 41]) Tryz.func189 ?_
 repeat (first|(with_reducible first|refine pv_seq fun K hK=>?_|((first|refine hK _ _ ?_|(clear hK;refine hK _ _ ?_)|(clear hK;clear hK;refine hK _ _ ?_));clear hK;try clear K))| refine W0 ?_|exact Z|with_reducible intro b|refine call_is (by exact p_away) ?_|(refine ExtC_is ?_;simp -implicitDefEqProofs only [ft,go_sem,seval];refine ext_is (by exact p_away) ?_))
 refine call_pc pR ?_
 rintro d ⟨⟨s,e,y⟩,rfl,hz⟩
 repeat (first|(with_reducible first|refine pv_seq fun K hK=>?_|((first|refine hK _ _ ?_|(clear hK;refine hK _ _ ?_)|(clear hK;clear hK;refine hK _ _ ?_));clear hK;try clear K))| refine W0 ?_|exact Z|with_reducible intro b)
 exact ⟨_,rfl,hz⟩
theorem p_roundV {k p:Nat} {x:Nu} {up:Bool} (hx:Sz k x) (hk:k≤16000000) (hp:p≤1024):PC Tryz.prog 173 [NU x,i64 p,bl up] fun d=>d=NE (numR (rd p up x.val)):=by
 have pR:=p_roundE (p:=p) (up:=up) hx (by omega) hp
 generalize rd p up x.val=v at *
 generalize hq:numR v=q
 obtain ⟨⟨s1,e1,y1⟩,er⟩:=q
 obtain ⟨neg,exp,w⟩:=x
 refine PB (rs:=[.cell 6 41,.tmp 7]) Tryz.func173 ?_
 repeat (first|(with_reducible first|refine pv_seq fun K hK=>?_|((first|refine hK _ _ ?_|(clear hK;refine hK _ _ ?_)|(clear hK;clear hK;refine hK _ _ ?_));clear hK;try clear K))| refine W0 ?_|exact Z|with_reducible intro b)
 refine call_pc pR ?_
 rintro d ⟨⟨s,e,y⟩,rfl,hz,hv⟩
 have hzb:=hz.b;have hzl:=hz.len;have h1:=hz.lo;have h2:=hz.hi
 simp only at hzb hzl h1 h2
 have pM:=p_nMake (neg:=s) (w:=y) (e:=e) hzb (by omega) (by unfold R64;omega)
 rw [show dy s (N64 y) e=v from hv,hq] at pM
 exact Wk
end Go.V
namespace Go.V
open Go Go.RowKit Go.Proofs
theorem lt_w64 {n k m:Nat} (h:n<2 ^ k) (hk:k≤64 * m):n<18446744073709551616 ^ m:=by
 have e:(18446744073709551616:Nat) ^ m=2 ^ (64 * m):=by rw [Nat.pow_mul]
 rw [e];exact Nat.lt_of_lt_of_le h (Nat.pow_le_pow_right (by decide) hk)
theorem w64_lt {n m:Nat} (h:n<18446744073709551616 ^ m):n<2 ^ (64 * m):=by rw [Nat.pow_mul];exact h
theorem okD_fN {d:Dyadic} (h:OkD d):∃ k,k≤4096∧fN d<2 ^ k:=by
 have:=h.len
 rw [nuOf_f] at this
 have h2:=lt_pow_len (B:=18446744073709551616) (by decide) (fN d)
 simp only at this
 exact ⟨_,by omega,w64_lt h2⟩
end Go.V
