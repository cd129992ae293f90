/- The document's numbers: quotient and rest, bit by bit: the plain laws. The document's numbers: quotient and rest, over values as data. The document's rounded numbers: Round, Ratio, Fit, Reckon; over values as data. The document's quotients and what is reckoned: Ratio, Reckon; over values as data. -/
import Derived.Test.YtgapammfekmihaaGreatDoorZcPU
import Derived.Test.YtgapammfekmihaaGreatDoorZcPT
import Derived.Test.YtgapammfekmihaaGreatDoorZcPZ
import Derived.Test.YtgapammfekmihaaGreatDoorZcPY
set_option linter.unusedSimpArgs false
set_option linter.unusedVariables false
set_option maxRecDepth 100000
namespace Go.V
open Go Go.RowKit Go.Proofs
end Go.V
namespace Go.V
open Go Go.RowKit Go.Proofs
end Go.V
namespace Go.V
open Go Go.RowKit Go.Proofs
theorem rd_bd {k p:Nat} {up:Bool} {d:Dyadic} (hd:Bd k d) (hp:1≤p):Bd (2 * k + p) (rd p up d):=by
 have h1:=rd_pb (up:=up) (d:=d) hp
 have hbl:bitLen (fN d)≤k:=bitLen_le hd.1
 refine ⟨Nat.lt_of_lt_of_le h1 (Nat.pow_le_pow_right (by decide) (by omega)),?_⟩
 have hlo:=hd.2.1;have hhi:=hd.2.2
 unfold rd rdM
 by_cases h:bitLen (fN d)≤p
 ·rw [if_pos h,dy_f];omega
 ·rw [if_neg h]
  have h2:=q_hi h
  generalize hq:fN d / 2 ^ (bitLen (fN d) - p) + (if fN d % 2 ^ (bitLen (fN d) - p)≠0∧up≠fS d then 1 else 0)=q
  have h3:q<2 ^ (p + 1):=by
   rw [← hq,Nat.pow_succ]
   have:=Nat.two_pow_pos p
   split<;>omega
  by_cases h0:q=0
  ·rw [h0,dy0,fE_zero];omega
  ·rw [(f_of h0).2.2]
   have:=tz_lt h3 h0
   omega
theorem p_rRound {k p:Nat} {d:Dyadic} {up:Bool} (hd:Bd k d) (hk:k≤16777216) (hp:p≤1024):PC Tryz.prog 160 [VA d,i64 p,bl up] fun r=>r=VA (rd p up d):=by
 have hN:=hd.1;have h1:=hd.2.1;have h2:=hd.2.2
 have hl:(D32 (fN d)).length≤k:=digs32_le hN
 have hbl:bitLen (fN d)≤k:=bitLen_le hN
 have pB:=p_rBits (n:=fN d) (by omega)
 by_cases h:bitLen (fN d)≤p
 ·unfold rd rdM
  rw [if_pos h,dy_f]
  have k1:((bitLen (fN d):Int) - (p:Int)≤0)=True:=eq_true (by omega)
  unfold VA
  refine PB (rs:=[.cell 6 90]) Tryz.func160 ?_
  have ft:=k1
  exact Wk
 ·unfold rd rdM
  rw [if_neg h]
  obtain ⟨s,hs⟩:∃ s:Nat,bitLen (fN d) - p=s:=⟨_,rfl⟩
  have hs2:(bitLen (fN d):Int) - (p:Int)=(s:Int):=by omega
  have k1:((s:Int)≤0)=False:=eq_false (by omega)
  have hn0:fN d≠0:=by intro h2;rw [h2,bitLen_zero] at h;omega
  have pD:=p_rDownL (A:=D32 (fN d)) (n:=s) (D32_b _) (.inr (by rw [N32_D32];exact hn0)) (by omega) (by omega)
  rw [N32_D32] at pD
  rw [hs]
  have hq:fN d / 2 ^ s<2 ^ k:=Nat.lt_of_le_of_lt (Nat.div_le_self _ _) hN
  have hql:=digs32_le hq
  have pA:=p_rAdd (A:=D32 (fN d / 2 ^ s)) (B:=[1]) (D32_b _) (by decide) (by show (digs _ _).length≤_;omega) (by decide)
  rw [N32_D32,show N32 [1]=1 by decide] at pA
  have pO:=fun (c:Nat) (hc:c≤1)=>p_rOdd (k:=k + 1) (neg:=fS d) (n:=fN d / 2 ^ s + c) (e:=fE d + s) (by rw [Nat.pow_succ];have:=Nat.two_pow_pos k;omega) (by omega) (by omega) (by omega)
  generalize fN d / 2 ^ s=q at *
  generalize hL:decide (fN d % 2 ^ s≠0)=L at *
  have hc:(if fN d % 2 ^ s≠0∧up≠fS d then 1 else 0)=if L=true∧up≠fS d then 1 else 0:=by
   rw [← hL];simp only [decide_eq_true_eq]
  rw [hc]
  unfold VA at *
  generalize fS d=sd at *
  have p0:=pO 0 (by decide)
  have p1:=pO 1 (by decide)
  rw [Nat.add_zero] at p0
  cases L
  ·rw [if_neg (by simp),Nat.add_zero]
   refine PB (rs:=[.cell 6 90]) Tryz.func160 ?_
   have ft:=And.intro hs2 k1
   exact Wk
  ·by_cases hu:up=sd
   ·rw [if_neg (by simp [hu]),Nat.add_zero]
    subst hu
    cases up
    ·refine PB (rs:=[.cell 6 90]) Tryz.func160 ?_
     have ft:=And.intro hs2 k1
     exact Wk
    ·refine PB (rs:=[.cell 6 90]) Tryz.func160 ?_
     have ft:=And.intro hs2 k1
     exact Wk
   ·rw [if_pos ⟨rfl,hu⟩]
    obtain rfl:up = !sd:=by cases up<;>cases sd<;>simp at hu ⊢
    cases sd
    ·refine PB (rs:=[.cell 6 90]) Tryz.func160 ?_
     have ft:=And.intro hs2 k1
     exact Wk
    ·refine PB (rs:=[.cell 6 90]) Tryz.func160 ?_
     have ft:=And.intro hs2 k1
     exact Wk
end Go.V
namespace Go.V
open Go Go.RowKit Go.Proofs
end Go.V
