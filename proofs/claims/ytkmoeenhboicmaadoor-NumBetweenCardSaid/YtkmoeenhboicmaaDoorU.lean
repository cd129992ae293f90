/- append over values as data; freezing; contracts; regions; code. No program in sight. -/
import Derived.Test.YtkmoeenhboicmaaDoorS
set_option linter.unusedSimpArgs false
set_option linter.unusedVariables false
namespace Go.V
open Go Go.RowKit

section
variable {P : Program} {I : CI} {S : Store} {w : World} {e : DEnv} {e' : Env}

/-! ### append -/

/-- The elements of what is appended, each of s cells. -/
def srcD (S : Store) (s : Nat) (d : D) (K : List (List D) → Prop) : Prop := match d with
  | .g (.sl els) => (∀ es ∈ els, es.length = s) ∧ K (gl els)
  | .own k b o n _ s' => s' = s ∧ optB (S k) fun B => B.b = b ∧ B.s = s ∧ o + n ≤ B.els.length ∧ (∀ es ∈ B.els, es.all D.one = true) ∧ K ((B.els.drop o).take n)
  | .nil => K []
  | _ => False
theorem srcD_sl {s : Nat} {els : List (List G)} {K : List (List D) → Prop} : srcD S s (.g (.sl els)) K = ((∀ es ∈ els, es.length = s) ∧ K (gl els)) := rfl
theorem srcD_own {s s' b o n c : Nat} {k : Nm} {K : List (List D) → Prop} : srcD S s (.own k b o n c s') K = (s' = s ∧ optB (S k) fun B => B.b = b ∧ B.s = s ∧ o + n ≤ B.els.length ∧ (∀ es ∈ B.els, es.all D.one = true) ∧ K ((B.els.drop o).take n)) := rfl
theorem srcD_nil {s : Nat} {K : List (List D) → Prop} : srcD S s .nil K = K [] := rfl

structure Src (I : CI) (w : World) (s : Nat) (v : Value) (els : List (List D)) (news : List Value) : Prop where
  len : news.length = els.length * s
  slice : (v = .slice none 0 0 ∧ els = []) ∨ ∃ a c, v = .slice (some a) els.length c ∧ ∀ j u, news[j]? = some u → w.cell? (a.add j) = some u
  one : ∀ u ∈ news, u.oneCell' = true
  els_len : ∀ (i : Nat) (es : List D), els[i]? = some es → es.length = s
  rd : ∀ (i : Nat) (es : List D) (j : Nat) (d : D), els[i]? = some es → es[j]? = some d → ∃ u, news[i * s + j]? = some u ∧ RdD I w.heap d u

theorem cells_news {s m off : Nat} (hs : 0 < s) {cur : Array Value} {F : Nat → Nat → Value → Prop} (h : ∀ i j, i < m → j < s → ∃ u, cur[off + i * s + j]? = some u ∧ F i j u) :
    ((cur.toList.drop off).take (m * s)).length = m * s ∧ (∀ i j, i < m → j < s → ∃ u, ((cur.toList.drop off).take (m * s))[i * s + j]? = some u ∧ F i j u) ∧
    ∀ q u, ((cur.toList.drop off).take (m * s))[q]? = some u → cur[off + q]? = some u ∧ ∃ i j, i < m ∧ j < s ∧ F i j u := by
  have dm : ∀ q, q < m * s → q / s < m ∧ q % s < s ∧ q = (q / s) * s + q % s := fun q hq =>
    ⟨by rw [Nat.div_lt_iff_lt_mul hs]; exact hq, Nat.mod_lt _ hs, by have := Nat.div_add_mod q s; rw [Nat.mul_comm] at this; omega⟩
  have lt : ∀ i j, i < m → j < s → i * s + j < m * s := fun i j hi hj => by
    have : (i + 1) * s ≤ m * s := Nat.mul_le_mul_right _ hi
    rw [Nat.add_mul] at this; omega
  have hsz : off + m * s ≤ cur.size ∨ m * s = 0 := by
    rcases Nat.eq_zero_or_pos (m * s) with h0 | h0
    · exact .inr h0
    · left
      obtain ⟨h1, h2, h3⟩ := dm (m * s - 1) (by omega)
      obtain ⟨u, hu, _⟩ := h _ _ h1 h2
      have := (Array.getElem?_eq_some_iff.1 hu).1
      omega
  refine ⟨by simp; omega, fun i j hi hj => ?_, fun q u hq => ?_⟩
  · obtain ⟨u, hu, hF⟩ := h i j hi hj
    refine ⟨u, ?_, hF⟩
    rw [List.getElem?_take, if_pos (lt i j hi hj), List.getElem?_drop]
    rw [Nat.add_assoc] at hu
    simpa using hu
  · rw [List.getElem?_take] at hq
    split at hq
    · rename_i hlt
      rw [List.getElem?_drop] at hq
      have hq' : cur[off + q]? = some u := by simpa using hq
      obtain ⟨h1, h2, h3⟩ := dm q hlt
      obtain ⟨u', hu, hF⟩ := h _ _ h1 h2
      rw [Nat.add_assoc, ← h3, hq'] at hu
      injection hu with hu
      subst hu
      exact ⟨hq', _, _, h1, h2, hF⟩
    · cases hq

theorem srcD_sound (hR : Rel I S w) {s : Nat} (hs : 0 < s) {d : D} {v : Value} (hd : RdD I w.heap d v) {K : List (List D) → Prop} (h : srcD S s d K) : ∃ els news, Src I w s v els news ∧ K els := by
  unfold srcD at h
  split at h
  · rename_i els
    obtain ⟨hl, hk⟩ := h
    cases hd.g_inv with
    | nil => exact ⟨_, [], ⟨by simp [gl], .inl ⟨rfl, rfl⟩, by simp, by simp [gl], by simp [gl]⟩, hk⟩
    | sl _ b off n cap s' cur el fr f hn h2 h3 hb hl' hc hr =>
      subst hn
      have hcell : ∀ i j, i < els.length → j < s → ∃ u, cur[off + i * s + j]? = some u ∧ (fun i j u => ∀ es g, els[i]? = some es → es[j]? = some g → RdG I w.heap g u) i j u := by
        intro i j hi hj
        have hes := List.getElem?_eq_getElem hi
        have hlen := hl _ (List.getElem_mem hi)
        have hss : s' = s := by rw [← hlen]; exact (hl' _ (List.getElem_mem hi)).symm
        subst hss
        have hg := List.getElem?_eq_getElem (l := els[i]) (i := j) (by omega)
        refine ⟨_, (hc i _ j _ hes hg).2, fun es g h4 h5 => ?_⟩
        rw [hes] at h4; injection h4 with h4; subst h4
        rw [hg] at h5; injection h5 with h5; subst h5
        exact hr i _ j _ hes hg
      obtain ⟨h4, h5, h6⟩ := cells_news hs hcell
      have hone : ∀ u ∈ (cur.toList.drop off).take (els.length * s), u.oneCell' = true := by
        intro u hu
        obtain ⟨q, hq⟩ := List.mem_iff_getElem?.1 hu
        obtain ⟨_, i, j, hi, hj, hF⟩ := h6 q u hq
        have hes := List.getElem?_eq_getElem hi
        have hlen := hl _ (List.getElem_mem hi)
        exact (hF _ _ hes (List.getElem?_eq_getElem (l := els[i]) (i := j) (by omega))).one
      have hgl : ∀ (i : Nat) (es : List D), (gl els)[i]? = some es → ∃ gs, els[i]? = some gs ∧ es = gs.map D.g := by
        intro i es he
        unfold gl at he
        rw [List.getElem?_map] at he
        cases hg : els[i]? with
        | none => rw [hg] at he; cases he
        | some gs => rw [hg] at he; injection he with he; exact ⟨gs, rfl, he.symm⟩
      refine ⟨_, _, ⟨by simpa [gl] using h4, .inr ⟨⟨b, off, none⟩, cap, by simp [gl], fun j u hu => ?_⟩, hone, fun i es he => ?_, fun i es j d he hj => ?_⟩, hk⟩
      · rw [addr_add]
        have := (h6 j u hu).1
        simp [World.cell?, hb, this]
      · obtain ⟨gs, h7, rfl⟩ := hgl i es he
        simpa using hl gs (List.mem_of_getElem? h7)
      · obtain ⟨gs, h7, rfl⟩ := hgl i es he
        have hi : i < els.length := (List.getElem?_eq_some_iff.1 h7).1
        rw [List.getElem?_map] at hj
        cases hg : gs[j]? with
        | none => rw [hg] at hj; cases hj
        | some g =>
          rw [hg] at hj; injection hj with hj; subst hj
          have hjs : j < s := by rw [← hl gs (List.mem_of_getElem? h7)]; exact (List.getElem?_eq_some_iff.1 hg).1
          obtain ⟨u, hu, hF⟩ := h5 i j hi hjs
          exact ⟨u, hu, .g (hF _ _ h7 hg)⟩
  · rename_i k b o n cap s'
    obtain ⟨rfl, h⟩ := h
    obtain ⟨B, hk, rfl, hBs, hon, hone, hK⟩ := optB_cases h
    obtain ⟨cur, el, hb, hz, hl, hc, _, _⟩ := (hR.has k B hk).ex
    rw [hBs] at hl hc hz
    cases hd with
    | own _ _ _ _ _ _ cur0 el0 fr0 h1 h2 h47 hb0 hs0 =>
      have hlen : ((B.els.drop o).take n).length = n := by simp; omega
      have hat : ∀ (i : Nat) (es : List D), ((B.els.drop o).take n)[i]? = some es → B.els[o + i]? = some es ∧ i < n := by
        intro i es he
        rw [List.getElem?_take] at he
        split at he
        · rename_i hi; rw [List.getElem?_drop] at he; exact ⟨he, hi⟩
        · cases he
      have hcell : ∀ i j, i < n → j < s' → ∃ u, cur[o * s' + i * s' + j]? = some u ∧ (fun i j u => ∀ es d, B.els[o + i]? = some es → es[j]? = some d → RdD I w.heap d u ∧ d.one = true) i j u := by
        intro i j hi hj
        have hlt : o + i < B.els.length := by omega
        have hes := List.getElem?_eq_getElem hlt
        have hle := hl _ _ hes
        have hd := List.getElem?_eq_getElem (l := B.els[o + i]) (i := j) (by omega)
        obtain ⟨u, hu, hr⟩ := hc _ _ _ _ hes hd
        rw [Nat.add_mul] at hu
        refine ⟨u, hu, fun es d h4 h5 => ?_⟩
        rw [hes] at h4; injection h4 with h4; subst h4
        rw [hd] at h5; injection h5 with h5; subst h5
        exact ⟨hr, List.all_eq_true.1 (hone _ (List.getElem_mem hlt)) _ (List.getElem_mem _)⟩
      obtain ⟨h4, h5, h6⟩ := cells_news hs hcell
      refine ⟨_, _, ⟨by rw [hlen]; exact h4, .inr ⟨_, cap, by rw [hlen], fun j u hu => ?_⟩, fun u hu => ?_, fun i es he => hl _ _ (hat i es he).1, fun i es j d he hj => ?_⟩, hK⟩
      · rw [addr_add]
        have := (h6 j u hu).1
        simp [World.cell?, hb, this]
      · obtain ⟨q, hq⟩ := List.mem_iff_getElem?.1 hu
        obtain ⟨_, i, j, hi, hj, hF⟩ := h6 q u hq
        have hlt : o + i < B.els.length := by omega
        have hes := List.getElem?_eq_getElem hlt
        have hle := hl _ _ hes
        have hd := List.getElem?_eq_getElem (l := B.els[o + i]) (i := j) (by omega)
        have := hF _ _ hes hd
        exact this.1.oneV this.2
      · obtain ⟨h7, hi⟩ := hat i es he
        have hjs : j < s' := by rw [← hl _ _ h7]; exact (List.getElem?_eq_some_iff.1 hj).1
        obtain ⟨u, hu, hF⟩ := h5 i j hi hjs
        exact ⟨u, hu, (hF _ _ h7 hj).1⟩
  · cases hd
    exact ⟨[], [], ⟨by simp, .inl ⟨rfl, rfl⟩, by simp, by simp, by simp⟩, h⟩
  · exact h.elim

def appD (q : SlZ) (S : Store) (kd : Nm) (d src : D) (K : D → Store → Prop) : Prop := match d with
  | .own k b o n cap s => o = 0 ∧ s = q.s ∧ optB (S k) fun B => B.b = b ∧ B.s = q.s ∧ B.els.length = n ∧ srcD S q.s src fun els =>
      n + els.length ≤ 140737488355328 ∧ (n + els.length) * q.bytes ≤ 140737488355328 ∧ ∀ b' cap', K (.own k b' 0 (n + els.length) cap' q.s) (updS S k (some ⟨b', q.s, B.p, B.els ++ els⟩))
  | .nil => srcD S q.s src fun els => els.length ≤ 140737488355328 ∧ els.length * q.bytes ≤ 140737488355328 ∧ (els = [] → K .nil S) ∧
      (0 < els.length → ∀ b' cap', K (.own kd b' 0 els.length cap' q.s) (updS S kd (some ⟨b', q.s, 0, els⟩)))
  | _ => False
theorem appD_own {q : SlZ} {kd k : Nm} {b o n cap s : Nat} {src : D} {K : D → Store → Prop} : appD q S kd (.own k b o n cap s) src K = (o = 0 ∧ s = q.s ∧ optB (S k) fun B => B.b = b ∧ B.s = q.s ∧ B.els.length = n ∧ srcD S q.s src fun els =>
      n + els.length ≤ 140737488355328 ∧ (n + els.length) * q.bytes ≤ 140737488355328 ∧ ∀ b' cap', K (.own k b' 0 (n + els.length) cap' q.s) (updS S k (some ⟨b', q.s, B.p, B.els ++ els⟩))) := rfl
theorem appD_nil {q : SlZ} {kd : Nm} {src : D} {K : D → Store → Prop} : appD q S kd .nil src K = srcD S q.s src fun els => els.length ≤ 140737488355328 ∧ els.length * q.bytes ≤ 140737488355328 ∧ (els = [] → K .nil S) ∧
      (0 < els.length → ∀ b' cap', K (.own kd b' 0 els.length cap' q.s) (updS S kd (some ⟨b', q.s, 0, els⟩))) := rfl

/-- A block in a new place, longer. -/
theorem Rel.moved (hR : Rel I S w) {w' : World} {b s p cap : Nat} {el : TypeId} {xs : List Value} (hN : New w b el xs w') {olds news : List Value} {a els : List (List D)} (hx : ∃ zs, xs = olds ++ news ++ zs) (ho : olds.length = a.length * s)
    (hn : news.length = els.length * s) (hp : p ≤ a.length) (hla : ∀ (i : Nat) (es : List D), a[i]? = some es → es.length = s) (hle : ∀ (i : Nat) (es : List D), els[i]? = some es → es.length = s)
    (hca : ∀ (i : Nat) (es : List D) (j : Nat) (d : D), a[i]? = some es → es[j]? = some d → ∃ u, olds[i * s + j]? = some u ∧ RdD I w.heap d u)
    (hce : ∀ (i : Nat) (es : List D) (j : Nat) (d : D), els[i]? = some es → es[j]? = some d → ∃ u, news[i * s + j]? = some u ∧ RdD I w.heap d u) (hxl : xs.length = cap * s) (hcap : a.length + els.length ≤ cap) (hcm : cap ≤ maxLen) (hlen : a.length + els.length ≤ 140737488355328) (k : Nm) :
    Rel I (updS S k (some ⟨b, s, p, a ++ els⟩)) w' ∧ Stp I S w I (updS S k (some ⟨b, s, p, a ++ els⟩)) w' ∧ RdD I w'.heap (.own k b 0 (a.length + els.length) cap s) (.slice (some ⟨b, 0, none⟩) (a.length + els.length) cap) := by
  obtain ⟨zs, rfl⟩ := hx
  have hrow := hN.row
  unfold Row at hrow
  obtain ⟨r1, r2⟩ := hR.alloc hN (s := s) (els := a ++ els) (by simp [ho, hn, Nat.add_mul]) (fun i es he => by
      by_cases hi : i < a.length
      · rw [List.getElem?_append_left hi] at he; exact hla i es he
      · rw [List.getElem?_append_right (by omega)] at he; exact hle _ es he) (fun i es j d he hj => by
      rw [List.append_assoc]
      by_cases hi : i < a.length
      · rw [List.getElem?_append_left hi] at he
        obtain ⟨u, hu, hr⟩ := hca i es j d he hj
        exact ⟨u, by rw [List.getElem?_append_left (List.getElem?_eq_some_iff.1 hu).1]; exact hu, hr⟩
      · rw [List.getElem?_append_right (by omega)] at he
        obtain ⟨u, hu, hr⟩ := hce _ es j d he hj
        refine ⟨u, ?_, hr⟩
        have e1 : i * s = a.length * s + (i - a.length) * s := by rw [← Nat.add_mul]; congr 1; omega
        rw [List.getElem?_append_right (by omega), show i * s + j - olds.length = (i - a.length) * s + j by omega, List.getElem?_append_left (List.getElem?_eq_some_iff.1 hu).1]
        exact hu) k p (by simp; omega)
  refine ⟨r1, r2, ?_⟩
  have := RdD.own (I := I) (H := w'.heap) k b 0 (a.length + els.length) cap s _ el (0, 0) hcap hcm hlen hrow (by simpa using Nat.le_of_eq hxl.symm)
  simpa using this

theorem zeroCells_len (z : Array Value) (n : Nat) : (Builtin.zeroCells z n).toList.length = n * z.size := by have := size_zeroCells z n; simpa using this


theorem append_room {t ty e el : TypeId} {i : TypeInfo} (ht : P.underlying t = some (.slice e)) (hi : P.info? e = some i) {g sLen sCap : Nat} {cur : Array Value} (hg : w.heap[g]? = some (.cells cur el (0, 0)))
    {a : Addr} {m c : Nat} {news : List Value} (hl : news.length = m * i.size) (hnews : ∀ j u, news[j]? = some u → w.cell? (a.add j) = some u) (h1 : ∀ u ∈ news, u.oneCell' = true)
    (hroom : sLen + m ≤ sCap) (hfit : sLen * i.size + news.length ≤ cur.size) :
    (Builtin.append_ #[t, t] ty #[.slice (some ⟨g, 0, none⟩) sLen sCap, .slice (some a) m c]).run P w =
      .ok (.slice (some ⟨g, 0, none⟩) (sLen + m) sCap) (w.setRow g (cur.toList.take (sLen * i.size) ++ news ++ cur.toList.drop (sLen * i.size + news.length)).toArray) := by
  have hf := run_firstCells_some (P := P) w i.size m a m c news hl hnews
  have hst := run_storeCells_at P g (sLen * i.size) el news 0 cur w hg (by simpa using hfit) h1
  simp only [Nat.add_zero] at hst
  simp [Builtin.append_, run_underlying ht, sizeOf, typeInfo, hi, Builtin.lenOf, hroom, hf, Addr.add_lit, hst]

theorem updS_self {k : Nm} {B : Blk} (hk : S k = some B) : updS S k (some B) = S := by
  funext x; unfold updS; split
  · rename_i hx; rw [hx, hk]
  · rfl

theorem appD_sound (hR : Rel I S w) {t : TypeId} {q : SlZ} (hq : slZ P t = some q) {d src : D} {v vs : Value} (hd : RdD I w.heap d v) (hsrc : RdD I w.heap src vs) {kd : Nm} {K : D → Store → Prop} (h : appD q S kd d src K) {t' : TypeId} (ht' : t' = t) (ty : TypeId) :
    ∃ r w', Does P (Builtin.append_ #[t, t'] ty #[v, vs]) w r w' ∧ ∃ I' S' d', Stp I S w I' S' w' ∧ Rel I' S' w' ∧ RdD I' w'.heap d' r ∧ K d' S' := by
  subst ht'
  obtain ⟨zv, T, _, hzs, hs0⟩ := slZ_T hq
  obtain ⟨i, hi, hzz, hsz, hby⟩ := info_parts T.info
  have hRd : Rel I S w.drew := hR.drew
  unfold appD at h
  split at h
  · rename_i k b o n cap s
    obtain ⟨rfl, rfl, h⟩ := h
    obtain ⟨B, hk, rfl, hBs, hBn, h⟩ := optB_cases h
    obtain ⟨els, news, hS, hl1, hl2, hK⟩ := srcD_sound hR hs0 hsrc h
    obtain ⟨cur, el, hb, hz, hl, hc, hfz, hpl⟩ := (hR.has k B hk).ex
    rw [hBs] at hl hc hz hfz
    cases hd with
    | own _ _ _ _ _ _ cur0 el0 fr0 h1 h2 h47 hb0 hs1 =>
      rw [hb] at hb0
      injection hb0 with hb0
      injection hb0 with e1 e2 e3
      subst e1
      simp only [Nat.zero_add] at hs1
      have hBeq : (⟨B.b, q.s, B.p, B.els⟩ : Blk) = B := by rw [← hBs]
      have hlo : n * q.s ≤ cur.size := Nat.le_trans (Nat.mul_le_mul_right _ h1) hs1
      rcases hS.slice with ⟨rfl, rfl⟩ | ⟨a, c, rfl, hnews⟩
      · have hr : (Builtin.append_ #[t', t'] ty #[.slice (some ⟨B.b, 0, none⟩) n cap, .slice none 0 0]).run P w = .ok (.slice (some ⟨B.b, 0, none⟩) n cap) w := by
          simp [Builtin.append_, run_underlying T.und, sizeOf, typeInfo, hi, Builtin.lenOf, Builtin.firstCells, h1, storeCells, Addr.add_lit]
        refine ⟨.slice (some ⟨B.b, 0, none⟩) n cap, w, ?_, I, S, .own k B.b 0 n cap q.s, Stp.refl _ _ _, hR, ?_, ?_⟩
        · rw [Nat.zero_mul]; exact hr
        · have := RdD.own (I := I) (H := w.heap) k B.b 0 n cap q.s cur el (0, 0) h1 h2 h47 hb (by simpa using hs1)
          simpa using this
        · have := hK B.b cap
          simp only [List.length_nil, Nat.add_zero, List.append_nil] at this
          rw [hBeq, updS_self hk] at this
          exact this
      · by_cases hroom : n + els.length ≤ cap
        · -- in its place
          have hle : (n + els.length) * q.s ≤ cur.size := Nat.le_trans (Nat.mul_le_mul_right _ hroom) hs1
          rw [Nat.add_mul] at hle
          have hrow : Row w B.b el cur.toList := by unfold Row; simpa using hb
          have hr := append_room (P := P) (ty := ty) T.und hi hb (a := a) (c := c) (by rw [hsz]; exact hS.len) hnews hS.one hroom (by rw [hsz, hS.len]; exact hle)
          rw [hsz] at hr
          have hrow' : Row (w.setRow B.b (cur.toList.take (n * q.s) ++ news ++ cur.toList.drop (n * q.s + news.length)).toArray) B.b el (cur.toList.take (n * q.s) ++ news ++ cur.toList.drop (n * q.s + news.length)) := by
            unfold Row; exact setRow_heap w B.b cur _ el _ hb
          have hU : Upd B.b w (w.setRow B.b (cur.toList.take (n * q.s) ++ news ++ cur.toList.drop (n * q.s + news.length)).toArray) := ⟨rfl, rfl, rfl, by simp [World.setRow], fun x hx => setRow_other w B.b x _ hx⟩
          have hnl := hS.len
          have hpp : B.p * q.s ≤ n * q.s := Nat.mul_le_mul_right _ (by omega)
          obtain ⟨r1, r2⟩ := hR.write hk hrow hrow' hU (by simp; omega) (els := B.els ++ els) (by simp; omega) (by
              rw [hBs]; simp only [List.length_append, List.length_take, List.length_drop, Array.length_toList, Nat.add_mul, hBn]; omega) (fun i' es he => by
              rw [hBs]
              by_cases hi' : i' < B.els.length
              · rw [List.getElem?_append_left hi'] at he; exact hl i' es he
              · rw [List.getElem?_append_right (by omega)] at he; exact hS.els_len _ es he) (fun j hj => by
              rw [hBs] at hj
              rw [List.append_assoc, List.getElem?_append_left (by simp; omega), List.getElem?_take, if_pos (by omega)]) (fun i' es j d he hj => by
              rw [hBs, List.append_assoc]
              by_cases hi' : i' < B.els.length
              · rw [List.getElem?_append_left hi'] at he
                obtain ⟨u, hu, hr⟩ := hc i' es j d he hj
                have hjs : j < q.s := by rw [← hl i' es he]; exact (List.getElem?_eq_some_iff.1 hj).1
                have hlt : i' * q.s + j < n * q.s := by
                  have : (i' + 1) * q.s ≤ n * q.s := Nat.mul_le_mul_right _ (by omega)
                  rw [Nat.add_mul] at this; omega
                refine ⟨u, ?_, hr⟩
                rw [List.getElem?_append_left (by simp; omega), List.getElem?_take, if_pos hlt]
                simpa using hu
              · rw [List.getElem?_append_right (by omega)] at he
                obtain ⟨u, hu, hr⟩ := hS.rd _ es j d he hj
                have e1 : i' * q.s = n * q.s + (i' - B.els.length) * q.s := by rw [← Nat.add_mul]; congr 1; omega
                refine ⟨u, ?_, hr⟩
                rw [List.getElem?_append_right (by simp; omega)]
                simp only [List.length_take, Array.length_toList]
                rw [show i' * q.s + j - min (n * q.s) cur.size = (i' - B.els.length) * q.s + j by omega, List.getElem?_append_left (List.getElem?_eq_some_iff.1 hu).1]
                exact hu)
          rw [hBs] at r1 r2
          refine ⟨.slice (some ⟨B.b, 0, none⟩) (n + els.length) cap, _, ?_, I, _, _, r2, r1, ?_, hK B.b cap⟩
          · rw [Nat.zero_mul]; exact hr
          · unfold Row at hrow'
            have := RdD.own (I := I) (H := (w.setRow B.b (cur.toList.take (n * q.s) ++ news ++ cur.toList.drop (n * q.s + news.length)).toArray).heap) k B.b 0 (n + els.length) cap q.s _ el (0, 0) hroom h2 hl1 hrow' (by simp; omega)
            simpa using this
        · -- in a new place
          have holds : ∀ j u, (cur.toList.take (n * q.s))[j]? = some u → w.cell? ((⟨B.b, 0, none⟩ : Addr).add j) = some u := by
            intro j u hu
            rw [List.getElem?_take] at hu
            split at hu
            · rw [addr_add]
              have hu' : cur[j]? = some u := by simpa using hu
              simp [World.cell?, hb, hu']
            · cases hu
          have hr := run_append_grow (P := P) w t' ty q.el i zv T.und hi hzz ⟨B.b, 0, none⟩ n cap (cur.toList.take (n * q.s)) (by rw [hsz]; simp; omega) holds a els.length c news (by rw [hsz]; exact hS.len) hnews (by omega) (by omega) (by
            rw [hby]; exact growslice_fits (by omega) hl2)
          have hge := grownCap_ge w (n + els.length) cap q.el
          have hN := New.alloc w.drew q.el ((cur.toList.take (n * q.s)).toArray ++ news.toArray ++ Builtin.zeroCells zv.cells (grownCap w (n + els.length) cap q.el - (n + els.length)))
          obtain ⟨r1, r2, r3⟩ := hRd.moved hN (olds := cur.toList.take (n * q.s)) (news := news) (a := B.els) (els := els) (s := q.s) (p := B.p) (cap := grownCap w (n + els.length) cap q.el) ⟨(Builtin.zeroCells zv.cells (grownCap w (n + els.length) cap q.el - (n + els.length))).toList, by simp⟩ (by simp; rw [hBn]; omega) hS.len hpl hl hS.els_len
            (fun i' es j d he hj => by
              obtain ⟨u, hu, hr⟩ := hc i' es j d he hj
              have hi' : i' < B.els.length := (List.getElem?_eq_some_iff.1 he).1
              have hjs : j < q.s := by rw [← hl i' es he]; exact (List.getElem?_eq_some_iff.1 hj).1
              have hlt : i' * q.s + j < n * q.s := by
                have : (i' + 1) * q.s ≤ n * q.s := Nat.mul_le_mul_right _ (by omega)
                rw [Nat.add_mul] at this; omega
              refine ⟨u, ?_, hr⟩
              rw [List.getElem?_take, if_pos hlt]
              simpa using hu) hS.rd (by
              simp only [Array.toList_append, List.length_append, Array.length_toList, size_zeroCells, List.length_take, hS.len, hzs]
              have : grownCap w (n + els.length) cap q.el * q.s = (n + els.length) * q.s + (grownCap w (n + els.length) cap q.el - (n + els.length)) * q.s := by rw [← Nat.add_mul]; congr 1; omega
              rw [this, Nat.add_mul]; omega) (by omega) (grownCap_le_maxLen w _ _ _ (by unfold maxLen; omega)) (by omega) k
          rw [hBn] at r3
          refine ⟨.slice (some ⟨w.drew.heap.size, 0, none⟩) (n + els.length) (grownCap w (n + els.length) cap q.el), _, ?_, I, _, _, ⟨r2.os, r2.tape, r2.output, r2.size, r2.sub, r2.new, r2.ev, r2.frame, r2.live⟩, r1, r3, hK _ _⟩
          rw [Nat.zero_mul]; exact hr
  · obtain ⟨els, news, hS, hl1, hl2, h0, hK⟩ := srcD_sound hR hs0 hsrc h
    cases hd
    rcases hS.slice with ⟨rfl, rfl⟩ | ⟨a, c, rfl, hnews⟩
    · refine ⟨.slice none 0 0, w, ?_, I, S, .nil, Stp.refl _ _ _, hR, .nil, h0 rfl⟩
      unfold Does
      simp [Builtin.append_, run_underlying T.und, sizeOf, typeInfo, hi, Builtin.lenOf, Builtin.firstCells, storeCells]
    · by_cases hm : els.length = 0
      · have he : els = [] := List.eq_nil_of_length_eq_zero hm
        subst he
        have hn0 : news = [] := List.eq_nil_of_length_eq_zero (by simpa using hS.len)
        refine ⟨.slice none 0 0, w, ?_, I, S, .nil, Stp.refl _ _ _, hR, .nil, h0 rfl⟩
        unfold Does
        simp [Builtin.append_, run_underlying T.und, sizeOf, typeInfo, hi, Builtin.lenOf, Builtin.firstCells, loadCells, loadCellsFrom, storeCells]
      · have hr := run_append_nil (P := P) w t' ty q.el i zv T.und hi hzz a els.length c news (by rw [hsz]; exact hS.len) hnews (by omega) (by omega) (by rw [hby]; omega)
        have hge := grownCap_ge w els.length 0 q.el
        have hN := New.alloc w.drew q.el (news.toArray ++ Builtin.zeroCells zv.cells (grownCap w els.length 0 q.el - els.length))
        obtain ⟨r1, r2, r3⟩ := hRd.moved hN (olds := []) (news := news) (a := []) (els := els) (s := q.s) (p := 0) (cap := grownCap w els.length 0 q.el) ⟨(Builtin.zeroCells zv.cells (grownCap w els.length 0 q.el - els.length)).toList, by simp⟩ (by simp) hS.len (by simp) (by simp) hS.els_len (by simp) hS.rd (by
              simp only [Array.toList_append, List.length_append, zeroCells_len, hS.len, hzs]
              have : grownCap w els.length 0 q.el * q.s = els.length * q.s + (grownCap w els.length 0 q.el - els.length) * q.s := by rw [← Nat.add_mul]; congr 1; omega
              omega) (by simpa using hge) (grownCap_le_maxLen w _ _ _ (by unfold maxLen; omega)) (by simpa using hl1) kd
        simp only [List.length_nil, Nat.zero_add, List.nil_append] at r1 r2 r3
        exact ⟨_, _, hr, I, _, _, ⟨r2.os, r2.tape, r2.output, r2.size, r2.sub, r2.new, r2.ev, r2.frame, r2.live⟩, r1, r3, hK (by omega) _ _⟩
  · exact h.elim

/-! ### copy -/

theorem copy_cells {t el bytes : Nat} {z : Value} (T : SlT P t el 1 bytes z) {b off n cap : Nat} {el' : TypeId} {xs : List Value} (h : Row w b el' xs) {a : Addr} {m c : Nat} {news : List Value} (hl : news.length = m)
    (hc : ∀ j u, news[j]? = some u → w.cell? (a.add j) = some u) (h1 : ∀ u ∈ news, u.oneCell' = true) (hfit : off + min m n ≤ xs.length) {ty : TypeId} :
    ∃ w', Does P (Builtin.copy_ #[t, t] ty #[.slice (some ⟨b, off, none⟩) n cap, .slice (some a) m c]) w (.int .i64 (min m n : Nat)) w' ∧
      Row w' b el' (xs.take off ++ news.take (min m n) ++ xs.drop (off + min m n)) ∧ Upd b w w' := by
  obtain ⟨i, hi, _, hsz, _⟩ := info_parts T.info
  have hcs : ∀ v ∈ news.take (min m n), v.oneCell' = true := fun v hv => h1 v (List.mem_of_mem_take hv)
  have hlen : (news.take (min m n)).length = min m n := by simp; omega
  obtain ⟨w', h2, h3, h4⟩ := h.setCells (P := P) (news.take (min m n)) 0 off (by rw [hlen]; simpa using hfit) hcs
  refine ⟨w', ?_, by rw [hlen] at h3; simpa using h3, h4⟩
  have hf : (List.range (min m n)).map (fun j => news.getD j undef) = news.take (min m n) := by
    apply List.ext_getElem?
    intro j
    rw [List.getElem?_map, List.getElem?_take]
    by_cases hj : j < min m n
    · rw [if_pos hj, List.getElem?_range hj]
      simp [List.getD, List.getElem?_eq_getElem (show j < news.length by omega)]
    · rw [if_neg hj, List.getElem?_eq_none (by simpa using Nat.le_of_not_lt hj)]; rfl
  have hld := run_loadCells (P := P) w a (min m n) (fun j => news.getD j undef) (fun j hj => by
    have hjl : j < news.length := by omega
    have := hc j news[j] (List.getElem?_eq_getElem hjl)
    simpa [List.getD, List.getElem?_eq_getElem hjl] using this)
  rw [hf] at hld
  unfold Does Builtin.copy_
  simp [run_underlying T.und, Builtin.lenOf, Builtin.firstCells, sizeOf, info_parts' hi, hsz, goInt]
  erw [hld]
  dsimp only [Result.andThen]
  erw [h2]

def copyD (q : SlZ) (S : Store) (d src : D) (K : D → Store → Prop) : Prop := match d with
  | .own k b o n _ s => q.s = 1 ∧ s = 1 ∧ optB (S k) fun B => B.b = b ∧ B.s = 1 ∧ B.p ≤ o ∧ o + n ≤ B.els.length ∧ srcD S 1 src fun els =>
      K (.g (.lit (.int .i64 ((min els.length n : Nat) : Int)))) (updS S k (some ⟨B.b, 1, B.p, B.els.take o ++ els.take (min els.length n) ++ B.els.drop (o + min els.length n)⟩))
  | _ => False
theorem copyD_own {q : SlZ} {k : Nm} {b o n cap s : Nat} {src : D} {K : D → Store → Prop} : copyD q S (.own k b o n cap s) src K = (q.s = 1 ∧ s = 1 ∧ optB (S k) fun B => B.b = b ∧ B.s = 1 ∧ B.p ≤ o ∧ o + n ≤ B.els.length ∧ srcD S 1 src fun els =>
      K (.g (.lit (.int .i64 ((min els.length n : Nat) : Int)))) (updS S k (some ⟨B.b, 1, B.p, B.els.take o ++ els.take (min els.length n) ++ B.els.drop (o + min els.length n)⟩))) := rfl

theorem copyD_sound (hR : Rel I S w) {t : TypeId} {q : SlZ} (hq : slZ P t = some q) {d src : D} {v vs : Value} (hd : RdD I w.heap d v) (hsrc : RdD I w.heap src vs) {K : D → Store → Prop} (h : copyD q S d src K) {t' : TypeId} (ht' : t' = t) (ty : TypeId) :
    ∃ r w', Does P (Builtin.copy_ #[t, t'] ty #[v, vs]) w r w' ∧ ∃ I' S' d', Stp I S w I' S' w' ∧ Rel I' S' w' ∧ RdD I' w'.heap d' r ∧ K d' S' := by
  subst ht'
  obtain ⟨zv, T, _, hzs, hs0⟩ := slZ_T hq
  unfold copyD at h
  split at h
  · rename_i k b o n cap s
    obtain ⟨hq1, rfl, h⟩ := h
    rw [hq1] at T
    obtain ⟨i, hi, hzz, hsz, hby⟩ := info_parts T.info
    obtain ⟨B, hk, rfl, hBs, hBp, hon, h⟩ := optB_cases h
    obtain ⟨els, news, hS, hK⟩ := srcD_sound hR (by omega) hsrc h
    obtain ⟨cur, el, hb, hz, hl, hc, hfz, hpl⟩ := (hR.has k B hk).ex
    rw [hBs] at hl hc hz hfz
    have hnl := hS.len
    cases hd with
    | own _ _ _ _ _ _ cur0 el0 fr0 h1 h2 h47 hb0 hs1 =>
      have hrow : Row w B.b el cur.toList := by unfold Row; simpa using hb
      have key : ∀ (w' : World), Row w' B.b el (cur.toList.take o ++ news.take (min els.length n) ++ cur.toList.drop (o + min els.length n)) → Upd B.b w w' →
          Rel I (updS S k (some ⟨B.b, 1, B.p, B.els.take o ++ els.take (min els.length n) ++ B.els.drop (o + min els.length n)⟩)) w' ∧ Stp I S w I (updS S k (some ⟨B.b, 1, B.p, B.els.take o ++ els.take (min els.length n) ++ B.els.drop (o + min els.length n)⟩)) w' := by
        intro w' hrow' hU
        have := hR.write hk hrow hrow' hU (by simp; omega) (els := B.els.take o ++ els.take (min els.length n) ++ B.els.drop (o + min els.length n)) (by simp; omega) (by rw [hBs]; simp; omega) (fun i' es he => by
          rw [hBs]
          rw [List.append_assoc] at he
          by_cases h3 : i' < o
          · rw [List.getElem?_append_left (by simp; omega), List.getElem?_take, if_pos h3] at he; exact hl i' es he
          · rw [List.getElem?_append_right (by simp; omega)] at he
            simp only [List.length_take, Nat.min_eq_left (show o ≤ B.els.length by omega)] at he
            by_cases h4 : i' - o < min els.length n
            · rw [List.getElem?_append_left (by simp; omega), List.getElem?_take, if_pos h4] at he; exact hS.els_len _ es he
            · rw [List.getElem?_append_right (by simp; omega), List.getElem?_drop] at he; exact hl _ es he) (fun j hj => by
          rw [hBs] at hj
          rw [List.append_assoc, List.getElem?_append_left (by simp; omega), List.getElem?_take, if_pos (by omega)]) (fun i' es j d he hj => by
          rw [hBs]
          rw [List.append_assoc] at he ⊢
          by_cases h3 : i' < o
          · rw [List.getElem?_append_left (by simp; omega), List.getElem?_take, if_pos h3] at he
            obtain ⟨u, hu, hr⟩ := hc i' es j d he hj
            have hj0 : j < 1 := by rw [← hl i' es he]; exact (List.getElem?_eq_some_iff.1 hj).1
            refine ⟨u, ?_, hr⟩
            rw [List.getElem?_append_left (by simp; omega), List.getElem?_take, if_pos (by omega)]
            simpa using hu
          · rw [List.getElem?_append_right (by simp; omega)] at he
            simp only [List.length_take, Nat.min_eq_left (show o ≤ B.els.length by omega)] at he
            by_cases h4 : i' - o < min els.length n
            · rw [List.getElem?_append_left (by simp; omega), List.getElem?_take, if_pos h4] at he
              obtain ⟨u, hu, hr⟩ := hS.rd _ es j d he hj
              have hj0 : j < 1 := by rw [← hS.els_len _ es he]; exact (List.getElem?_eq_some_iff.1 hj).1
              refine ⟨u, ?_, hr⟩
              rw [List.getElem?_append_right (by simp; omega)]
              simp only [List.length_take, Array.length_toList, Nat.min_eq_left (show o ≤ cur.size by omega)]
              rw [show i' * 1 + j - o = (i' - o) * 1 + j by omega, List.getElem?_append_left (by simp; omega), List.getElem?_take, if_pos (by omega)]
              exact hu
            · rw [List.getElem?_append_right (by simp; omega), List.getElem?_drop] at he
              simp only [List.length_take, Nat.min_eq_left (show min els.length n ≤ els.length by omega)] at he
              obtain ⟨u, hu, hr⟩ := hc _ es j d he hj
              have hj0 : j < 1 := by rw [← hl _ es he]; exact (List.getElem?_eq_some_iff.1 hj).1
              refine ⟨u, ?_, hr⟩
              rw [List.getElem?_append_right (by simp; omega)]
              simp only [List.length_take, Array.length_toList, Nat.min_eq_left (show o ≤ cur.size by omega)]
              rw [List.getElem?_append_right (by simp; omega), List.getElem?_drop]
              simp only [List.length_take]
              rw [show o + min els.length n + (i' * 1 + j - o - min (min els.length n) news.length) = (o + min els.length n + (i' - o - min els.length n)) * 1 + j by omega]
              simpa using hu)
        simp only [hBs] at this
        exact this
      have hrs : RdD I w.heap (.g (.lit (.int .i64 ((min els.length n : Nat) : Int)))) (.int .i64 ((min els.length n : Nat) : Int)) := .g (.lit _ rfl)
      rcases hS.slice with ⟨rfl, rfl⟩ | ⟨a, c, rfl, hnews⟩
      · have hn0 : news = [] := List.eq_nil_of_length_eq_zero (by simpa using hS.len)
        subst hn0
        obtain ⟨r1, r2⟩ := key w (by simpa using hrow) ⟨rfl, rfl, rfl, rfl, fun _ _ => rfl⟩
        refine ⟨_, w, ?_, I, _, _, r2, r1, .g (.lit _ rfl), hK⟩
        simp [Does, Builtin.copy_, run_underlying T.und, Builtin.lenOf, Builtin.firstCells, sizeOf, info_parts' hi, storeCells, goInt]
      · obtain ⟨w', hd1, hrow', hU⟩ := copy_cells (P := P) T hrow (off := o) (n := n) (cap := cap) (a := a) (m := els.length) (c := c) (by simpa using hS.len) hnews hS.one (by simp; omega) (ty := ty)
        obtain ⟨r1, r2⟩ := key w' hrow' hU
        refine ⟨_, w', ?_, I, _, _, r2, r1, .g (.lit _ rfl), hK⟩
        rw [Nat.mul_one]; exact hd1
  · exact h.elim

end
end Go.V
