/- The statement TubeCovers of layer 26. -/
import Derived.Test.YtcmnbpliiopbjaaU22
import Derived.Test.YtcmnbpliiopbjaaU20
import Derived.Test.YtcmnbpliiopbjaaU16
set_option linter.unusedSimpArgs false
set_option linter.unusedVariables false
set_option maxRecDepth 100000
namespace Go.V
open Go Go.RowKit Go.Proofs

theorem lo_of {a b : Dyadic} (h : a ≤ b) : loD a b = a := by unfold loD; split <;> grind
theorem hi_of {a b : Dyadic} (h : a ≤ b) : hiD a b = b := by unfold hiD; split <;> grind
theorem SubT.nil : SubT [] [] := ⟨rfl, fun i hi => by cases hi⟩
theorem SubT.snoc {b a : List Sg} {t s : Sg} (h : SubT b a) (hg : t.fr = s.fr ∧ t.to = s.to ∧ t.t0 = s.t0 ∧ t.t1 = s.t1 ∧ InX t.box s.box) : SubT (b ++ [t]) (a ++ [s]) := by
  have hl := h.len
  refine ⟨by simp [hl], fun i hi => ?_⟩
  rcases Nat.lt_or_ge i a.length with h1 | h1
  · rw [gS_left h1, gS_left (show i < b.length by omega)]; exact h.it i h1
  · have : i = a.length := by simp at hi; omega
    subst this
    rw [gS_new]
    have e : gS (b ++ [t]) a.length = t := by rw [← hl]; exact gS_new
    rw [e]; exact hg
theorem take_snoc {l : List Sg} {i : Nat} (h : i < l.length) : l.take (i + 1) = l.take i ++ [gS l i] := by
  rw [List.take_add_one, gS_at h]; rfl
set_option maxHeartbeats 4000000 in
theorem p_TubeCovers {w : List Nat} (hb : B64 w) : PC Try.prog 4 [W64 w] fun d => d = bl true := by
  have pK := p_known26
  refine PB (rs := [.tmp 2]) Try.func4 ?_
  repeat (first | with_reducible refine pv_seq fun K hK => ?_ | ((with_reducible first | refine hK _ _ ?_ | (clear hK; refine hK _ _ ?_) | (clear hK; clear hK; refine hK _ _ ?_)); clear hK; try clear K) | refine W ?_ | exact Z | with_reducible intro b)
  refine p_Of (fun b0 => ?_)
  repeat (first | with_reducible refine pv_seq fun K hK => ?_ | ((with_reducible first | refine hK _ _ ?_ | (clear hK; refine hK _ _ ?_) | (clear hK; clear hK; refine hK _ _ ?_)); clear hK; try clear K) | refine W0 ?_ | exact Z | with_reducible intro b)
  refine p_dN (n := 3) (i := 0) rfl hb (by omega) (by decide) (by decide) fun r hr => ?_
  repeat (first | with_reducible refine pv_seq fun K hK => ?_ | ((with_reducible first | refine hK _ _ ?_ | (clear hK; refine hK _ _ ?_) | (clear hK; clear hK; refine hK _ _ ?_)); clear hK; try clear K) | refine W0 ?_ | exact Z | with_reducible intro b)
  rw [show (1 + (r : Int)) = ((r + 1 : Nat) : Int) by omega]
  refine p_dTube (n := r + 1) (m := 5) (i := 1) rfl hb (by omega) (by omega) (by decide) (by decide) fun l j a c hl hT hj => ?_
  have hok := hT.okP
  have hll : l.length ≤ 100000 := by omega
  repeat (first | with_reducible refine pv_stopQ 6 ?_ | with_reducible refine pv_seq fun K hK => ?_ | ((with_reducible first | refine hK _ _ ?_ | (clear hK; refine hK _ _ ?_) | (clear hK; clear hK; refine hK _ _ ?_)); clear hK; try clear K) | refine W ?_ | exact Z | with_reducible intro b)
  refine ⟨fun K6 q6 hC6 => ?_⟩
  have J6 : ∀ (e : DEnv) (S : Store) (bs cs : List Sg) (j : Nat), j ≤ 1000 → SubT bs l → SubT cs bs → e 3 = .ptr (.r 0 0) b0 0 0 2 → e 4 = .g (eS eG l) → RowD S (.l 44) 9 (e 5) (rS eG bs) → RowD S (.l 53) 9 (e 6) (rS eG cs) → S (.r 0 0) = some ⟨b0, 2, 0, [[W64 w, i64 j]]⟩ → K6 e S := by
    intro e S bs cs j hj hB hC g3 g4 hw hv sd
    have N6 : ∀ (e : DEnv) (S : Store), e 3 = .ptr (.r 0 0) b0 0 0 2 → e 4 = .g (eS eG l) → e 5 = .g (eS eG bs) → e 6 = .g (eS eG cs) → S (.r 0 0) = some ⟨b0, 2, 0, [[W64 w, i64 j]]⟩ → K6 e S := by
      clear hC6 hw hv sd g3 g4 S e
      intro e S g3 g4 g5 g6 sd
      refine q6 _ _ ?_
      clear q6
      have ht := hT.tube
      have hv : ∀ s ∈ l, ∀ x ∈ s.box, OkV x := fun s hs x hx => ((hT.pc s hs).2.2 x hx).v
      have hCl : SubT cs l := hC.trans hB hv
      have okb := hB.okP hok
      have okc := hCl.okP hok
      have lb : bs.length ≤ 100000 := by rw [hB.len]; exact hll
      have lc : cs.length ≤ 100000 := by rw [hCl.len]; exact hll
      have p1 := p_Covers hll hll hok hok
      have p2 := p_Covers hll lb hok okb
      have p3 := p_Covers lb lc okb okc
      have p4 := p_Covers hll lc hok okc
      rw [(SubT.refl hv).covers ht] at p1
      rw [hB.covers ht] at p2
      rw [hC.covers (hB.tube ht)] at p3
      rw [hCl.covers ht] at p4
      unfold SS at p1 p2 p3 p4
      rcases Nat.eq_zero_or_pos l.length with h0 | h0
      · have z1 : (l.length = 0) = True := eq_true h0
        have z2 : ((l.length : Int) = 0) = True := eq_true (by omega)
        have ft := And.intro g3 (And.intro g4 (And.intro g5 (And.intro g6 (And.intro sd (And.intro z1 z2)))))
        exact Wk
      · have z1 : (l.length = 0) = False := eq_false (by omega)
        have z2 : ((l.length : Int) = 0) = False := eq_false (by omega)
        have pU := p_Until hll hok
        rw [hT.til] at pU
        unfold SS at pU
        have o0 : OkD (e8 0) := e8_ok (by decide)
        have hcb := hT.cb
        have oc : OkD (e8 c) := e8_ok (by omega)
        have h0' : e8 0 = 0 := dy_zero.2 rfl
        have h0c : e8 0 ≤ e8 c := by rw [h0']; exact dy_nn _ _
        have pB : PC Try.prog 11 [NU nu0, NU (nuOf (e8 c))] fun d => d = IV (ivD (e8 0) (e8 c)) := by
          have := p_Between o0 oc
          rwa [nuOf_0, lo_of h0c, hi_of h0c] at this
        have hin : ((l.length : Int) - 1).toNat = l.length - 1 := by omega
        have p5 := p_Covers hll (z := l.take (l.length - 1)) (by simp; omega) hok (fun s hs => hok s (List.mem_of_mem_take hs))
        rw [covers_short ht h0] at p5
        unfold SS at p5
        have ft := And.intro g3 (And.intro g4 (And.intro g5 (And.intro g6 (And.intro sd (And.intro z1 (And.intro z2 hin))))))
        repeat (first | with_reducible refine pv_seq fun K hK => ?_ | ((with_reducible first | refine hK _ _ ?_ | (clear hK; refine hK _ _ ?_) | (clear hK; clear hK; refine hK _ _ ?_)); clear hK; try clear K) | refine W ?_ | exact Z | with_reducible intro b)
        refine p_dIn (x := e8 0) (y := e8 c) (i := j) sd hb (by omega) o0 oc fun x ox hx => ?_
        have hx2 := hx.in h0c
        rw [h0'] at hx2
        have wx := (ox.sz).wl
        have rx : rightB (nuOf x) = true := by rw [rightB_nuOf]; exact decide_eq_true ox
        have pF := p_FindS hll hok wx rx
        have pG := p_FindS lc okc wx rx
        have hpos := met_pos (lo := nuOf x) (hi := nuOf x) hT h0 (by rw [val_nuOf]; exact hx2.1) (by grind) (by rw [val_nuOf]; exact hx2.2)
        rw [ownL_t ht] at pF
        rw [ownL_t (hCl.tube ht)] at pG
        unfold firstS at pF pG
        rw [hCl.met] at pG
        obtain ⟨i0, hi0⟩ : ∃ i0, (metL (nuOf x) (nuOf x) l l.length)[0]? = some i0 := ⟨_, List.getElem?_eq_getElem hpos⟩
        rw [List.head?_eq_getElem?, hi0] at pF pG
        have hi1 : i0 < l.length := by
          have := List.mem_of_getElem? hi0
          unfold metL at this
          exact List.mem_range.1 (List.mem_filter.1 this).1
        obtain ⟨_, _, _, _, hbx⟩ := hCl.it i0 hi1
        have o1 := hok _ (gS_mem hi1)
        have o2 := okc _ (gS_mem (show i0 < cs.length by rw [hCl.len]; exact hi1))
        have pI := p_bIn o2.bx o1.bx o2.n o1.n
        rw [hbx.inB (rightS_f (tube_row ht hi1).1).2.2.2.2] at pI
        unfold II at pI
        change PC _ _ _ fun d => d = .tup [SEG (gS l i0), bl true] at pF
        change PC _ _ _ fun d => d = .tup [SEG (gS cs i0), bl true] at pG
        clear o1 o2 hbx hi0 hpos hi1
        unfold SS SEG at pF pG
        exact Wk
    refine hC6 _ _ (Recast.join (Recast.rowSlot 5 hw fun S' hk => Recast.rowSlot 6 (e := updD e 5 (.g (eS eG bs))) (hv.up (hk _ (by decide))) fun S2 hk2 => ?_))
    exact N6 _ _ g3 g4 rfl rfl (by rw [hk2 _ (by decide), hk _ (by decide)]; exact sd)
  clear hC6 q6
  repeat (first | with_reducible refine pv_seq fun K hK => ?_ | ((with_reducible first | refine hK _ _ ?_ | (clear hK; refine hK _ _ ?_) | (clear hK; clear hK; refine hK _ _ ?_)); clear hK; try clear K) | refine W0 ?_ | exact Z | with_reducible intro b)
  refine pv_loop (fun e S => ∃ (i j : Nat) (bs cs : List Sg), i ≤ l.length ∧ j ≤ 200 + 20 * i ∧ SubT bs (l.take i) ∧ SubT cs bs ∧ e 3 = .ptr (.r 0 0) b0 0 0 2 ∧ e 4 = .g (eS eG l) ∧ e 7 = i64 i ∧ RowD S (.l 44) 9 (e 5) (rS eG bs) ∧ RowD S (.l 53) 9 (e 6) (rS eG cs) ∧ S (.r 0 0) = some ⟨b0, 2, 0, [[W64 w, i64 j]]⟩) (fun e _ => l.length - (intD (e 7)).toNat) ?_ ?_
  · exact ⟨0, j, [], [], Nat.zero_le _, by omega, SubT.nil, SubT.nil, Zr, Zr, Zr, .inl ⟨Zr, rfl⟩, .inl ⟨Zr, rfl⟩, Zr⟩
  · rintro e S ⟨i, j, bs, cs, hi, hj2, hB, hC, g3, g4, g7, hw, hv, sd⟩
    have hm0 : (intD (e 7)).toNat = i := by rw [g7]; exact Int.toNat_natCast _
    have ft := And.intro g3 (And.intro g4 (And.intro g7 sd))
    repeat (first | with_reducible refine pv_seq fun K hK => ?_ | ((with_reducible first | refine hK _ _ ?_ | (clear hK; refine hK _ _ ?_) | (clear hK; clear hK; refine hK _ _ ?_)); clear hK; try clear K) | refine W0 ?_ | exact Z | with_reducible intro b)
    refine pv_cdD (fun ht => ?_) (fun ht => ?_)
    · have hil : i < l.length := by omega
      have hq := gS_at hil
      have hpc := hT.pc _ (gS_mem hil)
      have hts := take_snoc hil
      have hlb : bs.length = i := by rw [hB.len, List.length_take]; omega
      have hlc : cs.length = i := by rw [hC.len, hlb]
      have hbx : ∀ x ∈ (gS l i).box, OkV x := fun x hx => (hpc.2.2 x hx).v
      have hbl := hpc.2.1
      clear hpc
      generalize gS l i = q at *
      obtain ⟨fr, to, ⟨n0, e0, w0⟩, ⟨n1, e1, w1⟩, bx⟩ := q
      simp only at hbl hbx
      have ft := And.intro g3 (And.intro g4 (And.intro g7 (And.intro sd hq)))
      repeat (first | with_reducible refine pv_seq fun K hK => ?_ | ((with_reducible first | refine hK _ _ ?_ | (clear hK; refine hK _ _ ?_) | (clear hK; clear hK; refine hK _ _ ?_)); clear hK; try clear K) | refine W0 ?_ | exact Z | with_reducible intro b)
      refine p_dPartBox (l := bx) (i := j) sd hb (by omega) (by omega) hbx fun m hm => ?_
      have hml := hm.len
      unfold II
      repeat (first | with_reducible refine pv_seq fun K hK => ?_ | ((with_reducible first | refine hK _ _ ?_ | (clear hK; refine hK _ _ ?_) | (clear hK; clear hK; refine hK _ _ ?_)); clear hK; try clear K) | refine W0 ?_ | exact Z | with_reducible intro b)
      rename_i b8
      refine RowD.appL (hw.up (by rfl)) (by decide) rfl (by simp [D.one]) ?_ ?_ fun d' S' hr' hS' => ?_
      · rw [rS_len]; simp; omega
      · rw [rS_len]; simp; omega
      have o1 : d'.one = true := by rcases hr' with ⟨h, _⟩ | ⟨_, _, _, h, _⟩ <;> rw [h] <;> rfl
      have u8 : S' (.l 8) = some ⟨b8, 9, 0, [[i64 fr, i64 to, bl n0, i64 e0, W64 w0, bl n1, i64 e1, W64 w1, .g (eS eI m)]]⟩ := by rw [hS' _ (by decide)]; exact Zr
      have ur : S' (.r 0 0) = some ⟨b0, 2, 0, [[W64 w, i64 ((j + 2 * bx.length : Nat) : Int)]]⟩ := by rw [hS' _ (by decide)]; exact Zr
      have hw2 : RowD S' (.l 44) 9 d' (rS eG (bs ++ [⟨fr, to, ⟨n0, e0, w0⟩, ⟨n1, e1, w1⟩, m⟩])) := by rw [← rS_g]; exact hr'
      have hv2 : RowD S' (.l 53) 9 (e 6) (rS eG cs) := hv.up (by rw [hS' _ (by decide)]; rfl)
      clear hr' hS' hw hv
      have ft := And.intro g3 (And.intro g4 (And.intro g7 (And.intro ur (And.intro u8 o1))))
      repeat (first | with_reducible refine pv_seq fun K hK => ?_ | ((with_reducible first | refine hK _ _ ?_ | (clear hK; refine hK _ _ ?_) | (clear hK; clear hK; refine hK _ _ ?_)); clear hK; try clear K) | refine W0 ?_ | exact Z | with_reducible intro b)
      refine p_dPartBox (l := m) (i := j + 2 * bx.length) ur hb (by omega) (by omega) hm.ok fun m2 hm2 => ?_
      have hml2 := hm2.len
      unfold II
      repeat (first | with_reducible refine pv_seq fun K hK => ?_ | ((with_reducible first | refine hK _ _ ?_ | (clear hK; refine hK _ _ ?_) | (clear hK; clear hK; refine hK _ _ ?_)); clear hK; try clear K) | refine W0 ?_ | exact Z | with_reducible intro b)
      refine RowD.appL (hv2.up (by rfl)) (by decide) rfl (by simp [D.one, W64]) ?_ ?_ fun d2 S2 hr2 hS2 => ?_
      · rw [rS_len]; simp; omega
      · rw [rS_len]; simp; omega
      have o2 : d2.one = true := by rcases hr2 with ⟨h, _⟩ | ⟨_, _, _, h, _⟩ <;> rw [h] <;> rfl
      have vr : S2 (.r 0 0) = some ⟨b0, 2, 0, [[W64 w, i64 ((j + 2 * bx.length + 2 * m.length : Nat) : Int)]]⟩ := by rw [hS2 _ (by decide)]; exact Zr
      have hv3 : RowD S2 (.l 53) 9 d2 (rS eG (cs ++ [⟨fr, to, ⟨n0, e0, w0⟩, ⟨n1, e1, w1⟩, m2⟩])) := by rw [← rS_g]; exact hr2
      have hw3 : RowD S2 (.l 44) 9 d' (rS eG (bs ++ [⟨fr, to, ⟨n0, e0, w0⟩, ⟨n1, e1, w1⟩, m⟩])) := hw2.up (by rw [hS2 _ (by decide)]; rfl)
      have ft := And.intro g3 (And.intro g4 (And.intro g7 (And.intro vr o2)))
      repeat (first | with_reducible refine pv_seq fun K hK => ?_ | ((with_reducible first | refine hK _ _ ?_ | (clear hK; refine hK _ _ ?_) | (clear hK; clear hK; refine hK _ _ ?_)); clear hK; try clear K) | refine W0 ?_ | exact Z | with_reducible intro b)
      refine ⟨⟨i + 1, j + 2 * bx.length + 2 * m.length, _, _, by omega, by omega, ?_, ?_, rfl, hw3, hv3, rfl⟩, by simp only [intD]; omega⟩
      · rw [hts]; exact hB.snoc ⟨rfl, rfl, rfl, rfl, hm⟩
      · exact hC.snoc ⟨rfl, rfl, rfl, rfl, hm2⟩
    · repeat (first | with_reducible refine pv_seq fun K hK => ?_ | ((with_reducible first | refine hK _ _ ?_ | (clear hK; refine hK _ _ ?_) | (clear hK; clear hK; refine hK _ _ ?_)); clear hK; try clear K) | refine W0 ?_ | exact Z | with_reducible intro b)
      obtain rfl : i = l.length := by omega
      rw [List.take_length] at hB
      exact J6 _ _ bs cs j (by omega) hB hC Zr Zr hw hv sd
end Go.V
