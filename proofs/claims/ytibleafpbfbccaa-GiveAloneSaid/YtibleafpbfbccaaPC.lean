/- GiveAlone: one block is released within four steps. Plain Lean. -/
import Derived.Test.YtibleafpbfbccaaY1
import Derived.Test.YtibleafpbfbccaaY1
import Derived.Test.YtibleafpbfbccaaY1
import Derived.Test.YtibleafpbfbccaaY1
import Derived.Test.YtibleafpbfbccaaY1
import Derived.Test.YtibleafpbfbccaaY1
import Derived.Test.YtibleafpbfbccaaY1
import Derived.Test.YtibleafpbfbccaaY1
import Derived.Test.YtibleafpbfbccaaPA
import Derived.Test.YtibleafpbfbccaaR9
set_option linter.all false
set_option linter.unusedVariables false
set_option linter.unusedSimpArgs false
set_option linter.unnecessarySimpa false
namespace Go.Sx.Pr
open Go Go.Sx Go.Sx.Md

theorem pSlab_st {v : Int} : pSlab 3 0 v % 16 = 3 := by unfold pSlab; omega
theorem gI_setG {l : List Int} {i j x : Int} (i0 : 0 ≤ i) (j0 : 0 ≤ j) (h : i < (l.length : Int)) : gI (l.set i.toNat x) j = if j = i then x else gI l j := by
  unfold gI
  rw [get_set]
  by_cases e : j = i
  · subst e; rw [if_pos ⟨rfl, by omega⟩, if_pos rfl]
  · rw [if_neg (by omega), if_neg e]

variable {c : Cf} {m m' : Mm} {x : Wk} {s : St3} {h : Int}
/-- A slab's word may change. -/
theorem GA.upd (hA : GA c m s) (hM : MC c m') {j : Int} (j0 : 0 ≤ j) (j1 : j < c.b) (hb : ∀ b, b ≠ adr c 2 j → b ≠ 0 → mLoadV m' b = mLoadV m b) {d : Int} (hd : SlG c m' d j) : GA c m' { s with ds := s.ds.set j.toNat d } := by
  have hc := hA.M.chk
  obtain ⟨⟨a1, a2⟩, _⟩ := chk_zero hc
  have nh := slab_ne_head hc j0 j1
  refine ⟨hM, list_keep hA.M hM (hb 1 (fun e => nh.1 e.symm) (by omega)) (fun i i0 i1 => hb _ (fun e => slab_ne_link hc j0 j1 i0 i1 e.symm) (fun e => ?_)) hA.ls, by simp only [List.length_set]; exact hA.len, fun k k0 k1 => ?_, hA.rk⟩
  · obtain ⟨⟨a1, a2⟩, ⟨b1, b2⟩, ⟨c1, c2⟩, ⟨d1, d2⟩, ⟨e1, e2⟩, _⟩ := chk_zero hc
    have := adr_in hc (en := false) i0 i1
    rw [show adr c 5 i = adr c (kindL false) i from rfl, this] at e
    have : 0 ≤ (1 + c.d) * i := Int.mul_nonneg (by omega) i0
    simp only [cond_false] at e
    omega
  · show SlG c m' (gI (s.ds.set j.toNat d) k) k
    rw [gI_setG j0 k0 (by rw [hA.len]; exact j1)]
    by_cases e : k = j
    · subst e; rw [if_pos rfl]; exact hd
    · rw [if_neg e]
      have hw : mLoadV m' (adr c 2 k) = mLoadV m (adr c 2 k) := hb _ (adr2_ne hc j0 j1 k0 k1 (fun q => e q.symm)) (slab_ne_head hc k0 k1).2
      have := hA.dr k k0 k1
      unfold SlG at this ⊢
      rw [hw]
      exact this

/-- What a released block leaves. -/
def RelG (c : Cf) (m : Mm) (x : Wk) (s : St3) : Prop :=
  ∃ k m' y, k ≤ 4 ∧ GoG k m x (endG m' y) ∧ GA c m' s ∧ okW y = true ∧ SmG y ∧ y.hold = x.hold ∧ y.rack = s.R

theorem relG (hA : GA c m s) (hx : okW x = true) (hs : SmG x) (hl : x.line = 39) (hK : x.K = h + 1) (h0 : 0 ≤ h) (h1 : h < c.b * c.c) (hn : h ∉ s.W) (hd : gI s.ds (h / c.c) ≠ 0) (hR : x.rack = s.R) : RelG c m x (nxtG c s h) := by
  have hM := hA.M
  have hm := hM.ok
  have hc := hM.chk
  obtain ⟨j0, j1, h128, ea, ek, _⟩ := blk_in hc h0 h1
  obtain ⟨⟨a1, a2⟩, ⟨b1, b2⟩, ⟨c1, c2⟩, ⟨d1, d2⟩, ⟨e1, e2⟩, ⟨f1, f2⟩, _⟩ := chk_zero hc
  have hw := ld_u hM.mw.u (adr c 2 (h / c.c))
  have eA : ∀ {q : Mm}, q.c = c → adrH q.c (h + 1) = adr c 2 (h / c.c) := fun e => by rw [e]; exact ea
  generalize hj : h / c.c = j at *
  have s39 := sG_39k (m := m) hl hK
  rw [eA hM.hc, ek, hM.hc] at s39
  have g0 : guG m x = true := hs.gu hm hx
  unfold RelG nxtG
  rw [hj]
  obtain ⟨q1, q2, q3, q4, q5, q6⟩ := hs
  rcases hA.dr j j0 j1 with ⟨d, hw2⟩ | ⟨d, hw2⟩ | ⟨d, hw2, hw3⟩
  · -- not draining
    rw [show (mLoadV m (adr c 2 j) % 16 == 2) = false by simpa using hw2, cond_false] at s39
    rw [if_neg (by omega)]
    have mc1 : MC c (mLoad m (adr c 2 j)) := ⟨hm, hM.hc, hM.sz⟩
    by_cases hr : (s.R.length : Int) < c.f
    · rw [if_pos hr]
      rw [decide_eq_false (by rw [hR]; omega), cond_false] at s39
      refine ⟨1, _, _, by omega, .one' g0 s39 rfl, ⟨mc1, hA.ls, hA.len, hA.dr, by simp only [List.length_append, List.length_cons, List.length_nil]; omega⟩, hx, ⟨by simp only [List.length_append, List.length_cons, List.length_nil]; have := hA.rk; rw [hR]; omega, q2, q3, q4, q5, q6⟩, rfl, by rw [← hR]⟩
    · rw [if_neg hr]
      rw [decide_eq_true (by rw [hR]; omega), cond_true] at s39
      -- the list
      obtain ⟨k1, k2, k3, k4, k5⟩ := push3 (m := m) (x := { x with line := 13 }) (en := false) (i := h) (L := s.W) hM.mw hx rfl h0 (by rw [hM.hc]; exact h1) hK (by rw [hM.hc]; exact hA.ls) hn
      have s13 := sG_13 (m := mLoad m (adr c 2 j)) (x := { x with line := 13 }) rfl
      have s14 := sG_14k (m := mLoad (mLoad m (adr c 2 j)) 1) (x := { x with V := mLoadV m 1, line := 14 }) rfl hK rfl
      rw [ek, show (mLoad (mLoad m (adr c 2 j)) 1).c = c from hM.hc] at s14
      have hadr : adr c 5 h ≠ 1 := adr_ne hc (en := false) h0 h1
      have hu1 := ld_u hM.mw.u 1
      have lh : mLoadV (mStore (mLoad (mLoad m (adr c 2 j)) 1) (adr c 5 h) (mLoadV m 1 % 4294967296)) 1 = mLoadV m 1 := by
        rw [ld_store, if_neg (fun q => hadr q.2)]; rfl
      have mc2 : MC c (mStore (mLoad (mLoad m (adr c 2 j)) 1) (adr c 5 h) (mLoadV m 1 % 4294967296)) := MC.store' (m := mLoad (mLoad m (adr c 2 j)) 1) ⟨hm, hM.hc, hM.sz⟩ _ _ (by rw [uB_iff]; omega)
      have hcas : mCasB (mStore (mLoad (mLoad m (adr c 2 j)) 1) (adr c 5 h) (mLoadV m 1 % 4294967296)) 1 (mLoadV m 1) = true := (casB_iff (ok_head mc2.mw false)).2 lh
      have s15 := sG_15k (m := mStore (mLoad (mLoad m (adr c 2 j)) 1) (adr c 5 h) (mLoadV m 1 % 4294967296)) (x := { x with V := mLoadV m 1, line := 15 }) rfl hK rfl hcas
      rw [ek] at s15
      have hxv : okW { x with V := mLoadV m 1 } = true := by
        obtain ⟨b1, b2, b3, b4, b5, b6, b7, b8, b9, b10, b11, b12⟩ := okW_all hx
        have hvu : uB (mLoadV m 1) = true := uB_iff.2 hu1
        simp only [okW, b1, b2, b3, b4, b5, b6, b7, b8, b9, b10, b11, b12, hvu, Bool.and_self]
      have t1 : stepS m { x with line := 13 } = ⟨mLoad m 1, { x with V := mLoadV m 1, line := 14 }, 0, true⟩ := sL3 (en := false) rfl
      have t2 : stepS (mLoad m 1) { x with V := mLoadV m 1, line := 14 } = ⟨mStore (mLoad m 1) (adr c 5 h) (mLoadV m 1 % 4294967296), { x with V := mLoadV m 1, line := 15 }, 0, true⟩ := by
        have := sS_14k (m := mLoad m 1) (x := { x with V := mLoadV m 1, line := 14 }) rfl hK rfl
        rw [ek, show (mLoad m 1).c = c from hM.hc] at this
        exact this
      have t3 : stepS (mStore (mLoad m 1) (adr c 5 h) (mLoadV m 1 % 4294967296)) { x with V := mLoadV m 1, line := 15 } = ⟨mCas (mStore (mLoad m 1) (adr c 5 h) (mLoadV m 1 % 4294967296)) 1 (mLoadV m 1) (pHead h (mLoadV m 1 / 4294967296 + 1)), { x with V := mLoadV m 1, line := 0 }, 1, true⟩ := by
        have := sS_15k (m := mStore (mLoad m 1) (adr c 5 h) (mLoadV m 1 % 4294967296)) (x := { x with V := mLoadV m 1, line := 15 }) rfl hK rfl hcas
        rw [ek] at this
        exact this
      rw [t1] at k4
      simp only [] at k4
      rw [t2] at k4
      simp only [] at k4
      rw [t3] at k4
      simp only [hM.hc] at k4
      have mc3 : MC c (mCas (mStore (mLoad (mLoad m (adr c 2 j)) 1) (adr c 5 h) (mLoadV m 1 % 4294967296)) 1 (mLoadV m 1) (pHead h (mLoadV m 1 / 4294967296 + 1))) :=
        ⟨okM_cas mc2.ok uB_pHead, mc2.hc, by rw [show (mCas (mStore (mLoad (mLoad m (adr c 2 j)) 1) (adr c 5 h) (mLoadV m 1 % 4294967296)) 1 (mLoadV m 1) (pHead h (mLoadV m 1 / 4294967296 + 1))).ws.length = _ from len_mSet']; exact mc2.sz⟩
      refine ⟨4, _, _, by omega, .more' g0 s39 (.more' (m := mLoad m (adr c 2 j)) (x := { x with line := 13 }) (SmG.gu ⟨q1, q2, q3, q4, q5, q6⟩ hm hx) s13 (.more' (m := mLoad (mLoad m (adr c 2 j)) 1) (x := { x with V := mLoadV m 1, line := 14 }) (SmG.gu ⟨q1, q2, q3, q4, q5, q6⟩ hm hxv) s14 (.one' (x := { x with V := mLoadV m 1, line := 15 }) (SmG.gu ⟨q1, q2, q3, q4, q5, q6⟩ mc2.ok hxv) s15 rfl))), ⟨mc3, k4, hA.len, fun k z0 z1 => ?_, hA.rk⟩, hxv, ⟨q1, q2, q3, q4, q5, q6⟩, rfl, hR⟩
      · have hk : mLoadV (mCas (mStore (mLoad (mLoad m (adr c 2 j)) 1) (adr c 5 h) (mLoadV m 1 % 4294967296)) 1 (mLoadV m 1) (pHead h (mLoadV m 1 / 4294967296 + 1))) (adr c 2 k) = mLoadV m (adr c 2 k) := by
          rw [ld_cas, if_neg (fun q => (slab_ne_head hc z0 z1).1 q.2.symm), ld_store, if_neg (fun q => slab_ne_link hc z0 z1 h0 h1 q.2.symm)]; rfl
        have := hA.dr k z0 z1
        unfold SlG at this ⊢
        rw [hk]; exact this
  · exact absurd d hd
  · -- draining
    rw [show (mLoadV m (adr c 2 j) % 16 == 2) = true by simpa using hw2, cond_true] at s39
    rw [if_pos d]
    have s30 := sG_30k (m := mLoad m (adr c 2 j)) (x := { x with line := 30 }) rfl hK
    rw [eA (q := mLoad m (adr c 2 j)) hM.hc, show (mLoad m (adr c 2 j)).c = c from hM.hc, show mLoadV (mLoad m (adr c 2 j)) (adr c 2 j) = mLoadV m (adr c 2 j) from rfl] at s30
    have mcA : MC c (mAdd (mLoad m (adr c 2 j)) (adr c 2 j) 16) := MC.add (m := mLoad m (adr c 2 j)) ⟨hm, hM.hc, hM.sz⟩ _ _
    have hok : Mm.ok (mLoad m (adr c 2 j)) (adr c 2 j) = true := hM.slab j0 j1
    have hwr : wU (mLoadV m (adr c 2 j) + 16) = mLoadV m (adr c 2 j) + 16 := wU_id (by omega) (by omega)
    have hdc : gI s.ds j ≤ c.c := by omega
    rw [hwr] at s30
    by_cases hlast : gI s.ds j = 1
    · rw [show ((mLoadV m (adr c 2 j) + 16) / 16 % 4096 == c.c) = true by rw [beq_iff_eq]; omega, cond_true] at s30
      have s31 := sG_31 (m := mAdd (mLoad m (adr c 2 j)) (adr c 2 j) 16) (x := { x with line := 31 }) rfl
      generalize hv : mLoadV (mAdd (mLoad m (adr c 2 j)) (adr c 2 j) 16) 0 = v at s31
      have hvu : uB v = true := by rw [← hv, uB_iff]; exact ld_u mcA.mw.u 0
      have s32 := sG_32k (m := mLoad (mAdd (mLoad m (adr c 2 j)) (adr c 2 j) 16) 0) (x := { x with V := v, line := 32 }) rfl hK rfl
      rw [eA (q := mLoad (mAdd (mLoad m (adr c 2 j)) (adr c 2 j) 16) 0) hM.hc] at s32
      have mcL : MC c (mLoad (mAdd (mLoad m (adr c 2 j)) (adr c 2 j) 16) 0) := ⟨mcA.ok, mcA.hc, mcA.sz⟩
      have mcS : MC c (mStore (mLoad (mAdd (mLoad m (adr c 2 j)) (adr c 2 j) 16) 0) (adr c 2 j) (pSlab 3 0 v)) := mcL.store' _ _ uB_pSlab
      have hxv : okW { x with V := v, line := 32 } = true := by
        obtain ⟨b1, b2, b3, b4, b5, b6, b7, b8, b9, b10, b11, b12⟩ := okW_all hx
        simp only [okW, b1, b2, b3, b4, b5, b6, b7, b8, b9, b10, b11, b12, hvu, Bool.and_self]
      have hB : GA c (mStore (mLoad (mAdd (mLoad m (adr c 2 j)) (adr c 2 j) 16) 0) (adr c 2 j) (pSlab 3 0 v)) { s with ds := s.ds.set j.toNat (gI s.ds j - 1) } := by
        refine hA.upd mcS j0 j1 (fun b e _ => ?_) (.inr (.inl ⟨by omega, ?_⟩))
        · rw [ld_store, if_neg (fun q => e q.2.symm)]
          show mLoadV (mAdd (mLoad m (adr c 2 j)) (adr c 2 j) 16) b = _
          rw [ld_add, if_neg (fun q => e q.2.symm)]; rfl
        · rw [ld_store, if_pos ⟨mcL.slab j0 j1, rfl⟩]; exact pSlab_st
      exact ⟨4, _, _, by omega, .more' g0 s39 (.more' (m := mLoad m (adr c 2 j)) (x := { x with line := 30 }) (SmG.gu ⟨q1, q2, q3, q4, q5, q6⟩ hm hx) s30 (.more' (x := { x with line := 31 }) (SmG.gu ⟨q1, q2, q3, q4, q5, q6⟩ mcA.ok hx) s31 (.one' (x := { x with V := v, line := 32 }) (SmG.gu ⟨q1, q2, q3, q4, q5, q6⟩ mcL.ok hxv) s32 rfl))), hB, hxv, ⟨q1, q2, q3, q4, q5, q6⟩, rfl, hR⟩
    · rw [show ((mLoadV m (adr c 2 j) + 16) / 16 % 4096 == c.c) = false by rw [beq_eq_false_iff_ne]; omega, cond_false] at s30
      have hB : GA c (mAdd (mLoad m (adr c 2 j)) (adr c 2 j) 16) { s with ds := s.ds.set j.toNat (gI s.ds j - 1) } := by
        have hnew : mLoadV (mAdd (mLoad m (adr c 2 j)) (adr c 2 j) 16) (adr c 2 j) = mLoadV m (adr c 2 j) + 16 := by
          rw [ld_add, if_pos ⟨hok, rfl⟩]; exact hwr
        refine hA.upd mcA j0 j1 (fun b e _ => ?_) (.inr (.inr ⟨by omega, by rw [hnew]; omega, by rw [hnew]; omega⟩))
        rw [ld_add, if_neg (fun q => e q.2.symm)]; rfl
      exact ⟨2, _, _, by omega, .more' g0 s39 (.one' (m := mLoad m (adr c 2 j)) (x := { x with line := 30 }) (SmG.gu ⟨q1, q2, q3, q4, q5, q6⟩ hm hx) s30 rfl), hB, hx, ⟨q1, q2, q3, q4, q5, q6⟩, rfl, hR⟩

theorem mem_nxtG {s : St3} {h i : Int} (hi : i ∈ (nxtG c s h).W) : i = h ∨ i ∈ s.W := by
  unfold nxtG at hi
  split at hi
  · exact .inr hi
  · split at hi
    · exact .inr hi
    · exact List.mem_cons.1 hi

/-- All held blocks. -/
theorem allG : ∀ (rest : List Int) {h : Int} {m : Mm} {x : Wk} {s s' : St3}, GA c m s → okW x = true → SmG x → x.line = 39 → x.K = h + 1 → x.hold = rest → x.rack = s.R →
    (∀ i, i ∈ h :: rest → 0 ≤ i ∧ i < c.b * c.c ∧ i ∉ s.W) → (h :: rest).Nodup → planG c (h :: rest) s = some s' →
    ∃ k m' x', k ≤ 4 * (rest.length + 1) ∧ GoG k m x ⟨m', x', 1, true⟩ ∧ GA c m' s' ∧ x'.rack = s'.R ∧ x'.hold = [] ∧ x'.K = 0 ∧ okW x' = true := by
  intro rest
  induction rest with
  | nil =>
    intro h m x s s' hA hx hs hl hK hh hR hin hnd hp
    obtain ⟨i0, i1, i2⟩ := hin h (by simp)
    unfold planG at hp
    split at hp
    · cases hp
    · rename_i hd
      simp only [planG, Option.some.injEq] at hp
      subst hp
      obtain ⟨k, m', y, k4, hg, hA', hy, hsy, hhy, hRy⟩ := relG hA hx hs hl hK i0 i1 i2 hd hR
      have e : endG m' y = ⟨m', { y with K := 0, line := 0 }, 1, true⟩ := by
        unfold endG beginG
        simp only [hhy, hh]
        rfl
      rw [e] at hg
      exact ⟨k, m', _, by simp; omega, hg, hA', hRy, by simpa using hhy.trans hh, rfl, hy⟩
  | cons h2 rest ih =>
    intro h m x s s' hA hx hs hl hK hh hR hin hnd hp
    obtain ⟨i0, i1, i2⟩ := hin h (by simp)
    have hc := hA.M.chk
    unfold planG at hp
    split at hp
    · cases hp
    · rename_i hd
      obtain ⟨k, m', y, k4, hg, hA', hy, hsy, hhy, hRy⟩ := relG hA hx hs hl hK i0 i1 i2 hd hR
      obtain ⟨j0, j1, _⟩ := hin h2 (by simp)
      have e : endG m' y = ⟨m', { y with hold := rest, K := h2 + 1, line := 39 }, 0, true⟩ := by
        unfold endG beginG
        simp only [hhy, hh]
        rw [show ((h2 :: rest).length == 0) = false from rfl]
        simp only [cond_false, List.drop_succ_cons, List.drop_zero, List.getD_cons_zero]
        rw [(blk_in hc j0 j1).2.2.2.2.2]
      rw [e] at hg
      obtain ⟨r1, r2, r3, r4, r5, r6⟩ := hsy
      have hrl : rest.length ≤ 100 := by
        have := hs.h
        rw [hh] at this
        simp at this; omega
      obtain ⟨k2, m2, x2, z1, z2, z3⟩ := ih (m := m') (x := { y with hold := rest, K := h2 + 1, line := 39 }) hA' hy ⟨r1, hrl, r3, r4, r5, r6⟩ rfl rfl rfl hRy
        (fun i hi => by
          obtain ⟨p0, p1, p2⟩ := hin i (List.mem_cons_of_mem _ hi)
          refine ⟨p0, p1, fun q => ?_⟩
          rcases mem_nxtG q with q | q
          · subst q; exact (List.nodup_cons.1 hnd).1 hi
          · exact p2 q) (List.nodup_cons.1 hnd).2 hp
      exact ⟨k + k2, m2, x2, by simp at z1 ⊢; omega, hg.trans z2, z3⟩

/-- The whole release, from its begin. -/
theorem runAllG {m : Mm} {hold : List Int} {s s' : St3} (hA : GA c m s) (hl : hold.length ≤ 20) (hR : s.R = []) (hin : ∀ i, i ∈ hold → 0 ≤ i ∧ i < c.b * c.c ∧ i ∉ s.W) (hnd : hold.Nodup) (hp : planG c hold s = some s') :
    (hold = [] ∧ (beginG { wk0 with hold := hold }) = (wk0, 1) ∧ s' = s) ∨
    ∃ k m' x', k ≤ 4 * hold.length ∧ (beginG { wk0 with hold := hold }).2 = 0 ∧ GoG k m (beginG { wk0 with hold := hold }).1 ⟨m', x', 1, true⟩ ∧ GA c m' s' ∧ x'.rack = s'.R ∧ x'.hold = [] ∧ x'.K = 0 ∧ okW x' = true := by
  cases hold with
  | nil =>
    simp only [planG, Option.some.injEq] at hp
    exact .inl ⟨rfl, rfl, hp.symm⟩
  | cons h rest =>
    obtain ⟨j0, j1, _⟩ := hin h (by simp)
    have hc := hA.M.chk
    have e : beginG { wk0 with hold := h :: rest } = ({ wk0 with hold := rest, K := h + 1, line := 39 }, 0) := by
      unfold beginG
      rw [show ((h :: rest).length == 0) = false from rfl]
      simp only [cond_false, List.drop_succ_cons, List.drop_zero, List.getD_cons_zero]
      rw [(blk_in hc j0 j1).2.2.2.2.2]
    rw [e]
    obtain ⟨k, m', x', z1, z2⟩ := allG rest (x := { wk0 with hold := rest, K := h + 1, line := 39 }) hA (by rfl) ⟨by simp [wk0], by simp at hl ⊢; omega, rfl, rfl, rfl, rfl⟩ rfl rfl rfl hR.symm hin hnd hp
    exact .inr ⟨k, m', x', by simpa using z1, rfl, z2⟩
end Go.Sx.Pr

/- GiveAlone: the normal forms, shape by shape. -/
namespace Go.Sx.Pr
open Go Go.Sx Go.Sx.Md Go.Proofs
set_option maxRecDepth 100000
theorem nEG : ∀ (rk : Bool) (k : Nat), k ≤ 20 → NE rk k
  | false, 0, _ => nE_f0
  | false, 1, _ => nE_f1
  | false, 2, _ => nE_f2
  | false, 3, _ => nE_f3
  | false, 4, _ => nE_f4
  | false, 5, _ => nE_f5
  | false, 6, _ => nE_f6
  | false, 7, _ => nE_f7
  | false, 8, _ => nE_f8
  | false, 9, _ => nE_f9
  | false, 10, _ => nE_f10
  | false, 11, _ => nE_f11
  | false, 12, _ => nE_f12
  | false, 13, _ => nE_f13
  | false, 14, _ => nE_f14
  | false, 15, _ => nE_f15
  | false, 16, _ => nE_f16
  | false, 17, _ => nE_f17
  | false, 18, _ => nE_f18
  | false, 19, _ => nE_f19
  | false, 20, _ => nE_f20
  | false, k + 21, h => absurd h (by omega)
  | true, 0, _ => nE_t0
  | true, 1, _ => nE_t1
  | true, 2, _ => nE_t2
  | true, 3, _ => nE_t3
  | true, 4, _ => nE_t4
  | true, 5, _ => nE_t5
  | true, 6, _ => nE_t6
  | true, 7, _ => nE_t7
  | true, 8, _ => nE_t8
  | true, 9, _ => nE_t9
  | true, 10, _ => nE_t10
  | true, 11, _ => nE_t11
  | true, 12, _ => nE_t12
  | true, 13, _ => nE_t13
  | true, 14, _ => nE_t14
  | true, 15, _ => nE_t15
  | true, 16, _ => nE_t16
  | true, 17, _ => nE_t17
  | true, 18, _ => nE_t18
  | true, 19, _ => nE_t19
  | true, 20, _ => nE_t20
  | true, k + 21, h => absurd h (by omega)
theorem nFG : ∀ (rk : Bool) (k : Nat), k ≤ 20 → NF rk k
  | false, 0, _ => nF_f0
  | false, 1, _ => nF_f1
  | false, 2, _ => nF_f2
  | false, 3, _ => nF_f3
  | false, 4, _ => nF_f4
  | false, 5, _ => nF_f5
  | false, 6, _ => nF_f6
  | false, 7, _ => nF_f7
  | false, 8, _ => nF_f8
  | false, 9, _ => nF_f9
  | false, 10, _ => nF_f10
  | false, 11, _ => nF_f11
  | false, 12, _ => nF_f12
  | false, 13, _ => nF_f13
  | false, 14, _ => nF_f14
  | false, 15, _ => nF_f15
  | false, 16, _ => nF_f16
  | false, 17, _ => nF_f17
  | false, 18, _ => nF_f18
  | false, 19, _ => nF_f19
  | false, 20, _ => nF_f20
  | false, k + 21, h => absurd h (by omega)
  | true, 0, _ => nF_t0
  | true, 1, _ => nF_t1
  | true, 2, _ => nF_t2
  | true, 3, _ => nF_t3
  | true, 4, _ => nF_t4
  | true, 5, _ => nF_t5
  | true, 6, _ => nF_t6
  | true, 7, _ => nF_t7
  | true, 8, _ => nF_t8
  | true, 9, _ => nF_t9
  | true, 10, _ => nF_t10
  | true, 11, _ => nF_t11
  | true, 12, _ => nF_t12
  | true, 13, _ => nF_t13
  | true, 14, _ => nF_t14
  | true, 15, _ => nF_t15
  | true, 16, _ => nF_t16
  | true, 17, _ => nF_t17
  | true, 18, _ => nF_t18
  | true, 19, _ => nF_t19
  | true, 20, _ => nF_t20
  | true, k + 21, h => absurd h (by omega)
theorem nGG : ∀ (rk : Bool) (k : Nat), k ≤ 20 → NG rk k
  | false, 0, _ => nG_f0
  | false, 1, _ => nG_f1
  | false, 2, _ => nG_f2
  | false, 3, _ => nG_f3
  | false, 4, _ => nG_f4
  | false, 5, _ => nG_f5
  | false, 6, _ => nG_f6
  | false, 7, _ => nG_f7
  | false, 8, _ => nG_f8
  | false, 9, _ => nG_f9
  | false, 10, _ => nG_f10
  | false, 11, _ => nG_f11
  | false, 12, _ => nG_f12
  | false, 13, _ => nG_f13
  | false, 14, _ => nG_f14
  | false, 15, _ => nG_f15
  | false, 16, _ => nG_f16
  | false, 17, _ => nG_f17
  | false, 18, _ => nG_f18
  | false, 19, _ => nG_f19
  | false, 20, _ => nG_f20
  | false, k + 21, h => absurd h (by omega)
  | true, 0, _ => nG_t0
  | true, 1, _ => nG_t1
  | true, 2, _ => nG_t2
  | true, 3, _ => nG_t3
  | true, 4, _ => nG_t4
  | true, 5, _ => nG_t5
  | true, 6, _ => nG_t6
  | true, 7, _ => nG_t7
  | true, 8, _ => nG_t8
  | true, 9, _ => nG_t9
  | true, 10, _ => nG_t10
  | true, 11, _ => nG_t11
  | true, 12, _ => nG_t12
  | true, 13, _ => nG_t13
  | true, 14, _ => nG_t14
  | true, 15, _ => nG_t15
  | true, 16, _ => nG_t16
  | true, 17, _ => nG_t17
  | true, 18, _ => nG_t18
  | true, 19, _ => nG_t19
  | true, 20, _ => nG_t20
  | true, k + 21, h => absurd h (by omega)
end Go.Sx.Pr

/- GiveAlone: the law's loops. -/
namespace Go.Sx.Pr
open Go Go.Sx Go.Sx.Md Go.Proofs
set_option maxRecDepth 100000

/-- The held blocks before i are fit. -/
def OkG (c : Cf) (L hold : List Int) (i : Nat) : Prop := ∀ j, j < i → 0 ≤ hold.getD j 0 ∧ hold.getD j 0 < c.b * c.c ∧ hold.getD j 0 ∉ L ∧ ∀ k, k < j → hold.getD k 0 ≠ hold.getD j 0

section
variable {c : Cf} {ws hold L : List Int} {m : Mm}
theorem lC {KE : SE → SS → Option (SV × SH)} {i : Nat} (hi : i < hold.length) (hl : hold.length ≤ 20)
    (hret : ∀ k : Int, Tru (KE .ret ⟨[(1, .d (.ints .u64 ws)), (2, .d (.ints .i64 hold)), (3, .ptr 0 0), (6, B true), (7, .ptr 5 0), (10, .d (.ints .i64 L)), (12, I i), (14, I k)], HG c ws m⟩))
    (hno : (∀ k, k < i → hold.getD k 0 ≠ hold.getD i 0) → ∀ k : Int, Tru (KE .norm ⟨[(1, .d (.ints .u64 ws)), (2, .d (.ints .i64 hold)), (3, .ptr 0 0), (7, .ptr 5 0), (10, .d (.ints .i64 L)), (12, I ((i + 1 : Nat) : Int)), (14, I k)], HG c ws m⟩)) :
    ∀ (r k N : Nat), k + r = i → r < N → (∀ j, j < k → hold.getD j 0 ≠ hold.getD i 0) →
    Tru (iter [1, 2, 3, 7, 10, 12, 14] 9 (sxI itB E1008 A1008 L1008_26 4) N ⟨[(1, .d (.ints .u64 ws)), (2, .d (.ints .i64 hold)), (3, .ptr 0 0), (7, .ptr 5 0), (10, .d (.ints .i64 L)), (12, I i), (14, I k)], HG c ws m⟩ (Z1008_26 itB KE))
  | 0, k, N, hk, hN, hd => by
    obtain ⟨N, rfl⟩ : ∃ k, N = k + 1 := ⟨N - 1, by omega⟩
    obtain rfl : k = i := by omega
    rw [iter_succ, gC, decide_eq_false (by omega), br_f, show w64' ((k : Int) + 1) = ((k + 1 : Nat) : Int) by rw [w64_id (by omega) (by omega)]; push_cast; rfl]
    exact hno hd k
  | r + 1, k, N, hk, hN, hd => by
    obtain ⟨N, rfl⟩ : ∃ k, N = k + 1 := ⟨N - 1, by omega⟩
    rw [iter_succ, gC, decide_eq_true (by omega), br_t, inB_of' (by omega) (by omega), br_t, inB_of' (by omega) (by omega), br_t, Int.toNat_natCast, Int.toNat_natCast]
    cases hx : hold.getD k 0 == hold.getD i 0 with
    | true => rw [br_t]; exact hret k
    | false =>
      rw [br_f, show w64' ((k : Int) + 1) = ((k + 1 : Nat) : Int) by rw [w64_id (by omega) (by omega)]; push_cast; rfl]
      refine lC hi hl hret hno r (k + 1) N (by omega) (by omega) fun j hj => ?_
      by_cases e : j = k
      · subst e; simpa using hx
      · exact hd j (by omega)
theorem lB {KE : SE → SS → Option (SV × SH)} {i : Nat} (hi : i < hold.length) (hl : hold.length ≤ 20) (hL : L.length ≤ 128)
    (hret : ∀ k : Int, Tru (KE .ret ⟨[(1, .d (.ints .u64 ws)), (2, .d (.ints .i64 hold)), (3, .ptr 0 0), (6, B true), (7, .ptr 5 0), (10, .d (.ints .i64 L)), (12, I i), (13, I k)], HG c ws m⟩))
    (hret2 : ∀ k : Int, Tru (KE .ret ⟨[(1, .d (.ints .u64 ws)), (2, .d (.ints .i64 hold)), (3, .ptr 0 0), (6, B true), (7, .ptr 5 0), (10, .d (.ints .i64 L)), (12, I i), (14, I k)], HG c ws m⟩))
    (hno : hold.getD i 0 ∉ L → (∀ k, k < i → hold.getD k 0 ≠ hold.getD i 0) → ∀ k : Int, Tru (KE .norm ⟨[(1, .d (.ints .u64 ws)), (2, .d (.ints .i64 hold)), (3, .ptr 0 0), (7, .ptr 5 0), (10, .d (.ints .i64 L)), (12, I ((i + 1 : Nat) : Int)), (14, I k)], HG c ws m⟩)) :
    ∀ (r k N : Nat), k + r = L.length → r < N → (∀ j, j < k → L.getD j 0 ≠ hold.getD i 0) →
    Tru (iter [1, 2, 3, 7, 10, 12, 13] 9 (sxI itB E1008 A1008 L1008_28 2) N ⟨[(1, .d (.ints .u64 ws)), (2, .d (.ints .i64 hold)), (3, .ptr 0 0), (7, .ptr 5 0), (10, .d (.ints .i64 L)), (12, I i), (13, I k)], HG c ws m⟩ (Z1008_28 itB KE))
  | 0, k, N, hk, hN, hd => by
    obtain ⟨N, rfl⟩ : ∃ k, N = k + 1 := ⟨N - 1, by omega⟩
    rw [iter_succ, gB, decide_eq_false (by omega), br_f, itB_def]
    refine lC hi hl hret2 (fun hn => hno (fun hm => ?_) hn) i 0 big (by omega) (by unfold big; omega) fun j hj => absurd hj (by omega)
    obtain ⟨j, hj, e⟩ := List.mem_iff_getElem.1 hm
    refine hd j (by omega) ?_
    rw [← e]
    simp [List.getD_eq_getElem?_getD, hj]
  | r + 1, k, N, hk, hN, hd => by
    obtain ⟨N, rfl⟩ : ∃ k, N = k + 1 := ⟨N - 1, by omega⟩
    rw [iter_succ, gB, decide_eq_true (by omega), br_t, inB_of' (by omega) (by omega), br_t, inB_of' (by omega) (by omega), br_t, Int.toNat_natCast, Int.toNat_natCast]
    cases hx : L.getD k 0 == hold.getD i 0 with
    | true => rw [br_t]; exact hret k
    | false =>
      rw [br_f, show w64' ((k : Int) + 1) = ((k + 1 : Nat) : Int) by rw [w64_id (by omega) (by omega)]; push_cast; rfl]
      refine lB hi hl hL hret hret2 hno r (k + 1) N (by omega) (by omega) fun j hj => ?_
      by_cases e : j = k
      · subst e; simpa using hx
      · exact hd j (by omega)
/-- The first loop. -/
theorem lA (hc : chkC c = 0) (hl : hold.length ≤ 20) (hL : L.length ≤ 128)
    (hE : OkG c L hold hold.length → Tru (itB [1, 2, 3, 7, 15, 16, 17, 18] 12 (sxI itB E1008 A1008 L1008_20 6) ⟨[(1, .d (.ints .u64 ws)), (2, .d (.ints .i64 hold)), (3, .ptr 0 0), (7, .ptr 5 0), (15, .d (.v (.slice none 0 0))), (16, .own 10), (17, .own 11), (18, I 0)], HG c ws m ++ [.dead, .rowi 3 .i64 L, .rowi 3 .i64 (List.replicate c.b.toNat 0)]⟩ (Z1008_20 itB KS))) :
    ∀ (r i N : Nat), i + r = hold.length → r < N → OkG c L hold i →
    Tru (iter [1, 2, 3, 7, 10, 12] 9 (sxI itB E1008 A1008 L1008_32 0) N ⟨[(1, .d (.ints .u64 ws)), (2, .d (.ints .i64 hold)), (3, .ptr 0 0), (7, .ptr 5 0), (10, .d (.ints .i64 L)), (12, I i)], HG c ws m⟩ (Z1008_32 itB KS))
  | 0, i, N, hi, hN, hO => by
    obtain ⟨N, rfl⟩ : ∃ k, N = k + 1 := ⟨N - 1, by omega⟩
    obtain ⟨⟨a1, a2⟩, ⟨b1, b2⟩, _⟩ := chk_zero hc
    rw [iter_succ, gA, decide_eq_false (by omega), br_f, fits_of (by omega), br_t, decide_eq_true (by omega), fits_of (by omega), Bool.and_self, br_t]
    refine hE ?_
    rw [show hold.length = i by omega]
    exact hO
  | r + 1, i, N, hi, hN, hO => by
    obtain ⟨N, rfl⟩ : ∃ k, N = k + 1 := ⟨N - 1, by omega⟩
    obtain ⟨⟨a1, a2⟩, ⟨b1, b2⟩, ⟨c1, c2⟩, _⟩ := chk_zero hc
    have hm4 : c.b * c.c ≤ 8 * c.c := Int.mul_le_mul_of_nonneg_right b2 (by omega)
    have hm5 : 0 ≤ c.b * c.c := Int.mul_nonneg (by omega) (by omega)
    rw [iter_succ, gA, decide_eq_true (by omega), br_t, inB_of' (by omega) (by omega), br_t, br_t, Int.toNat_natCast]
    by_cases h1 : hold.getD i 0 < 0
    · rw [decide_eq_true h1, br_t]; exact tru_ret
    rw [decide_eq_false h1, br_f, show IntKind.wrap .i64 (c.b * c.c) = c.b * c.c from w64_id (by omega) (by omega)]
    by_cases h2 : hold.getD i 0 ≥ c.b * c.c
    · rw [decide_eq_true h2, br_t]; exact tru_ret
    rw [decide_eq_false h2, br_f, itB_def]
    refine lB (by omega) hl hL (fun k => ?_) (fun k => ?_) (fun n1 n2 k => ?_) L.length 0 big (by omega) (by unfold big; omega) fun j hj => absurd hj (by omega)
    · show Tru (Z1008_32 itB KS .ret _)
      rw [zA]; exact tru_ret
    · show Tru (Z1008_32 itB KS .ret _)
      rw [zB]; exact tru_ret
    · rw [zC]
      refine lA hc hl hL hE r (i + 1) N (by omega) (by omega) fun j hj => ?_
      by_cases e : j = i
      · subst e; exact ⟨by omega, by omega, n1, n2⟩
      · exact hO j (by omega)

theorem gI_nat {l : List Int} {j : Nat} : gI l (j : Int) = l.getD j 0 := by unfold gI; rw [Int.toNat_natCast]
/-- What the second loop knows of the slabs before j. -/
structure DrG (c : Cf) (m : Mm) (ds : List Int) (n : Nat) : Prop where
  len : (ds.length : Int) = c.b
  ok : ∀ j : Nat, j < n → SlG c m (ds.getD j 0) j ∧ -1 ≤ ds.getD j 0 ∧ ds.getD j 0 ≤ 16
/-- The second loop. -/
theorem lD {ds0 : List Int} (hM : MC c m) (hm : m.ws = ws) (hws : ws.length ≤ 400)
    (hE : ∀ ds, DrG c m ds c.b.toNat → Tru (itB [2, 3, 7, 15, 16, 17, 21] 12 (sxI itB E1008 A1008 L1008_18 8) ⟨[(2, .d (.ints .i64 hold)), (3, .ptr 0 0), (7, .ptr 5 0), (15, .d (.v (.slice none 0 0))), (16, .own 10), (17, .own 11), (21, I 0)], HG c ws m ++ [.dead, .rowi 3 .i64 L, .rowi 3 .i64 ds]⟩ (Z1008_18 itB KS))) :
    ∀ (r j N : Nat) (ds : List Int), ((j + r : Nat) : Int) = c.b → r < N → DrG c m ds j →
    Tru (iter [1, 2, 3, 7, 15, 16, 17, 18] 12 (sxI itB E1008 A1008 L1008_20 6) N ⟨[(1, .d (.ints .u64 ws)), (2, .d (.ints .i64 hold)), (3, .ptr 0 0), (7, .ptr 5 0), (15, .d (.v (.slice none 0 0))), (16, .own 10), (17, .own 11), (18, I j)], HG c ws m ++ [.dead, .rowi 3 .i64 L, .rowi 3 .i64 ds]⟩ (Z1008_20 itB KS))
  | 0, j, N, ds, hj, hN, hD => by
    obtain ⟨N, rfl⟩ : ∃ k, N = k + 1 := ⟨N - 1, by omega⟩
    rw [iter_succ, gD, decide_eq_false (by omega), br_f]
    exact hE ds (by rw [show c.b.toNat = j by omega]; exact hD)
  | r + 1, j, N, ds, hj, hN, hD => by
    obtain ⟨N, rfl⟩ : ∃ k, N = k + 1 := ⟨N - 1, by omega⟩
    have hc := hM.chk
    obtain ⟨⟨a1, a2⟩, ⟨b1, b2⟩, ⟨c1, c2⟩, _⟩ := chk_zero hc
    have hlen := hD.len
    have hwd : (wordV c ws j).1 = mLoadV m (adr c 2 j) := by rw [← hm]; exact wordV_ld hM (by omega) (by omega)
    have hw := ld_u hM.mw.u (adr c 2 (j : Int))
    rw [iter_succ, gD, decide_eq_true (by omega), br_t, hwd, show w64' ((j : Int) + 1) = ((j + 1 : Nat) : Int) by rw [w64_id (by omega) (by omega)]; push_cast; rfl,
      Int.tmod_eq_emod_of_nonneg hw.1, Int.toNat_natCast, inB_of' (by omega) (by omega)]
    generalize hv : mLoadV m (adr c 2 (j : Int)) = v at hw ⊢
    have hset : ∀ x, (ds.set j x).getD j 0 = x := fun x => by rw [get_set, if_pos ⟨rfl, by omega⟩]
    have hnext : ∀ x, (SlG c m x j ∧ -1 ≤ x ∧ x ≤ 16) → DrG c m (ds.set j x) (j + 1) := fun x hx => by
      refine ⟨by rw [List.length_set]; exact hlen, fun k hk => ?_⟩
      rw [get_set]
      by_cases e : k = j
      · subst e; rw [if_pos ⟨rfl, by omega⟩]; exact hx
      · rw [if_neg (fun q => e q.1.symm)]; exact hD.ok k (by omega)
    by_cases h2 : v % 16 = 2
    · have e1 : wU (Int.tdiv v 16) = v / 16 := by rw [Int.tdiv_eq_ediv_of_nonneg hw.1, wU_id (by omega) (by omega)]
      have e2 : IntKind.wrap .i64 (Int.tmod (v / 16) 4096) = v / 16 % 4096 := by rw [Int.tmod_eq_emod_of_nonneg (by omega)]; exact w64_id (by omega) (by omega)
      have e3 : w64' (c.c - v / 16 % 4096) = c.c - v / 16 % 4096 := w64_id (by omega) (by omega)
      rw [show (v % 16 == 2) = true by rw [beq_iff_eq]; exact h2, br_t, br_t, e1, e2, e3, List.length_set, inB_of' (by omega) (by omega), br_t, hset]
      by_cases h3 : c.c - v / 16 % 4096 ≤ 0
      · rw [decide_eq_true h3, br_t]; exact tru_ret
      · rw [decide_eq_false h3, br_f]
        refine lD (ds0 := ds0) hM hm hws hE r (j + 1) N _ (by push_cast at hj ⊢; omega) (by omega) (hnext _ ⟨.inr (.inr ⟨by omega, by rw [hv]; exact h2, by rw [hv]; omega⟩), by omega, by omega⟩)
    · rw [show (v % 16 == 2) = false by rw [beq_eq_false_iff_ne]; exact h2, br_f, br_t]
      refine lD (ds0 := ds0) hM hm hws hE r (j + 1) N _ (by push_cast at hj ⊢; omega) (by omega) (hnext _ ⟨.inl ⟨rfl, by rw [hv]; exact h2⟩, by omega, by omega⟩)
end
end Go.Sx.Pr

/- A list of integers as an argument of a law. -/
namespace Go.Sx.Pr
open Go Go.Sx Go.Proofs Go.ChangeShapes Go.WideShapes Go.ChangeAt Go.RowKit
set_option maxRecDepth 100000
section
variable {H : Type} {enc : TypeId × Value → H} {w : World}
theorem ints_arg {v : Value} {d : DataW H} {p : List MemPlace} {r : Reach} {base : Nat} (hv : Value.okWide Try.prog w r base 26 v) (h : DataW.Trod enc Try.prog w 0 (fun _ => true) true 26 v d p) :
    ∃ ws : List Int, True ∧ SRep (cx0 w) w (.d (.ints .i64 ws)) v := by
  obtain ⟨n, L, hW, hR⟩ := arg_rep (kids_rows laid rowed) slicesFull (t := 26) (tlt (by omega)) (m := 2) (fun n => by simp only [suppT, Try.underlying26, Try.underlying3]) h
  rw [show n + 2 = (n + 1) + 1 from rfl] at hW
  simp only [Wt, Try.underlying26, Try.underlying3] at hW
  obtain ⟨ws, rfl, _, hws⟩ := hW
  refine ⟨ws, trivial, ?_⟩
  simp only [SRep]
  exact cell_rep hR fun c e => by
    subst e
    simp only [Value.okWide, Try.underlying26] at hv
    exact cell_not_agg hv ⟨_, Try.underlying26, .inr (.inr (.inr ⟨_, rfl⟩))⟩
end
end Go.Sx.Pr

/- GiveAlone: the release itself; the law answers true on symbolic arguments. -/
namespace Go.Sx.Pr
open Go Go.Sx Go.Sx.Md Go.Proofs
set_option maxRecDepth 100000

section
variable {c : Cf} {ws hold : List Int}
/-- The last loop: the slabs' words. -/
theorem lG {rk : Bool} {k : Nat} (hk : k ≤ 20) {m : Mm} {s : St3} {Lq wl hl : List Int} {x : Wk} (hA : GA c m s) (hws : m.ws.length ≤ 400) (hb : ∀ j : Int, 0 ≤ j → j < c.b → -1 ≤ gI s.ds j ∧ gI s.ds j ≤ 16) :
    ∀ (r j N : Nat), ((j + r : Nat) : Int) = c.b → r < N →
    Tru (iter [3, 7, 17, 31] (lnG rk k + 6) (sxI itB E1008 A1008 L1008_6 13) N ⟨tsG j, HL rk k c ws m s.ds s.R s.W Lq x wl hl⟩ (Z1008_6 itB KS))
  | 0, j, N, hj, hN => by
    obtain ⟨N, rfl⟩ : ∃ k, N = k + 1 := ⟨N - 1, by omega⟩
    rw [iter_succ, nGG rk k hk]
    unfold rG
    rw [decide_eq_false (by omega), br_f]
    exact tru_ret
  | r + 1, j, N, hj, hN => by
    obtain ⟨N, rfl⟩ : ∃ k, N = k + 1 := ⟨N - 1, by omega⟩
    have hM := hA.M
    have hc := hM.chk
    obtain ⟨⟨a1, a2⟩, ⟨b1, b2⟩, ⟨c1, c2⟩, _⟩ := chk_zero hc
    have hlen := hA.len
    have hwd : (wordV c m.ws j).1 = mLoadV m (adr c 2 j) := wordV_ld hM (by omega) (by omega)
    have hw := ld_u hM.mw.u (adr c 2 (j : Int))
    have hS := hA.dr j (by omega) (by omega)
    have hB := hb j (by omega) (by omega)
    have hin : inB (j : Int) s.ds.length = true := inB_of' (by omega) (by omega)
    have ih := lG (rk := rk) hk (s := s) (Lq := Lq) (wl := wl) (hl := hl) (x := x) hA hws hb r (j + 1) N (by push_cast at hj ⊢; omega) (by omega)
    rw [iter_succ, nGG rk k hk]
    unfold rG bG
    rw [gI_nat] at hS hB
    unfold SlG at hS
    rw [decide_eq_true (by omega), br_t, fits_of (by omega), br_t, hin, br_t, br_t, br_t, hwd, show w64' ((j : Int) + 1) = ((j + 1 : Nat) : Int) by rw [w64_id (by omega) (by omega)]; push_cast; rfl, Int.toNat_natCast,
      Int.tmod_eq_emod_of_nonneg hw.1, Int.tdiv_eq_ediv_of_nonneg hw.1]
    generalize hv : mLoadV m (adr c 2 (j : Int)) = v at hw hS ⊢
    generalize hd : s.ds.getD j 0 = d at hB hS ⊢
    have e2 : IntKind.wrap .i64 (Int.tmod (wU (v / 16)) 4096) = v / 16 % 4096 := by rw [wU_id (by omega) (by omega), Int.tmod_eq_emod_of_nonneg (by omega)]; exact w64_id (by omega) (by omega)
    have e3 : IntKind.wrap .i64 (c.c - d) = c.c - d := w64_id (by omega) (by omega)
    rcases hS with ⟨d1, _⟩ | ⟨d1, d2⟩ | ⟨d1, d2, d3⟩
    · rw [decide_eq_false (by omega), br_f, beq_false_of_ne (by omega), br_f]
      exact ih
    · rw [decide_eq_false (by omega), br_f, show (d == 0) = true by rw [beq_iff_eq]; exact d1, br_t, bang_f d2, br_f]
      exact ih
    · rw [decide_eq_true (by omega), br_t, e2, e3, bang_f d3, br_f, beq_false_of_ne (by omega), br_f]
      exact ih

/-- After the last step. -/
theorem endF {rk : Bool} {k : Nat} (hk : k ≤ 20) {m : Mm} {s : St3} {Lq : List Int} {x : Wk} (hA : GA c m s) (hws : m.ws.length ≤ 400) (hb : ∀ j : Int, 0 ≤ j → j < c.b → -1 ≤ gI s.ds j ∧ gI s.ds j ≤ 16)
    (hrk : rk = false → s.R = []) (hR : x.rack = s.R) (hh : x.hold = []) (hK : x.K = 0) : Tru (xF itB KS c ws s.ds s.R s.W Lq m rk k x 1) := by
  have hM := hA.M
  have hc := hM.chk
  obtain ⟨⟨a1, a2⟩, ⟨b1, b2⟩, ⟨c1, c2⟩, _⟩ := chk_zero hc
  obtain ⟨f1, f2, f3, f4, f5, f6⟩ := listV_some hA.ls
  have hrl : rkL s.R rk = s.R := by
    cases rk with
    | true => rfl
    | false => exact (hrk rfl).symm
  have hr4 := hA.rk
  have hs : ∀ l : List Int, sameL l l = true := fun l => decide_eq_true rfl
  unfold xF
  rw [fits_of (by omega), br_t, hM.mw.u, br_t, bang_f rfl, br_f, hA.ls, show (!(some s.W).isSome) = false from rfl, br_f, show (some s.W).getD [] = s.W from rfl, decide_eq_true (by omega), br_t, hs, Bool.not_true, br_f,
    hR, decide_eq_true (by omega), br_t, hrl, hs, Bool.not_true, br_f, hK, show ((0 : Int) == 0) = true from rfl, br_t]
  unfold tailF
  rw [hh, show fits ([] : List Int).length 8 = true from rfl, br_t, show (!(([] : List Int).length : Int) == 0) = false from rfl, br_f, itB_def]
  exact lG hk hA hws hb c.b.toNat 0 big (by omega) (by unfold big; omega)

/-- The steps. -/
theorem lF {rk : Bool} {k : Nat} (hk : k ≤ 20) (hl : hold.length ≤ 20) {ds R W Lq : List Int} {q : Nat} {m : Mm} {x : Wk} {r : SR} (hg : GoG q m x r) : ∀ {m' : Mm} {x' : Wk}, r = ⟨m', x', 1, true⟩ → ∀ (n N : Nat), n + q ≤ 4 * hold.length → q < N →
    Tru (xF itB KS c ws ds R W Lq m' rk k x' 1) →
    Tru (iter [2, 3, 7, 15, 16, 17, 23, 24, 25] (lnG rk k + 3) (sxI itB E1008 A1008 L1008_10 11) N ⟨tsF rk k hold 0 n, HF rk k c ws m ds R W Lq x⟩ (Z1008_10 itB KS)) := by
  have e4 : IntKind.wrap .i64 (4 * (hold.length : Int)) = 4 * (hold.length : Int) := w64_id (by omega) (by omega)
  induction hg with
  | one hgu hok =>
    intro m' x' hr n N hn hN hx
    obtain ⟨N, rfl⟩ : ∃ k, N = k + 2 := ⟨N - 2, by omega⟩
    rw [iter_succ, nFG rk k hk]
    unfold rF
    rw [e4, decide_eq_true (by omega), br_t, show ((0 : Int) == 0) = true from rfl, br_t]
    unfold guG at hgu
    rw [hgu, br_t, hok, Bool.not_true, br_f, hr]
    show Tru (iter [2, 3, 7, 15, 16, 17, 23, 24, 25] (lnG rk k + 3) (sxI itB E1008 A1008 L1008_10 11) (N + 1) ⟨tsF rk k hold 1 (w64' ((n : Int) + 1)), HF rk k c ws m' ds R W Lq x'⟩ (Z1008_10 itB KS))
    rw [iter_succ, nFG rk k hk]
    unfold rF
    rw [show ((1 : Int) == 0) = false from rfl, br_f]
    cases decide (w64' ((n : Int) + 1) < IntKind.wrap .i64 (4 * (hold.length : Int))) <;> exact hx
  | more hgu hok hw _ ih =>
    intro m' x' hr n N hn hN hx
    obtain ⟨N, rfl⟩ : ∃ k, N = k + 1 := ⟨N - 1, by omega⟩
    rw [iter_succ, nFG rk k hk]
    unfold rF
    rw [e4, decide_eq_true (by omega), br_t, show ((0 : Int) == 0) = true from rfl, br_t]
    unfold guG at hgu
    rw [hgu, br_t, hok, Bool.not_true, br_f, hw, show w64' ((n : Int) + 1) = ((n + 1 : Nat) : Int) by rw [w64_id (by omega) (by omega)]; push_cast; rfl]
    exact ih hr (n + 1) N (by omega) (by omega) hx

/-- From the third loop's end. -/
theorem goF {rk : Bool} {k : Nat} (hk : k ≤ 20) (hl : hold.length ≤ 20) {m : Mm} {s s' : St3} {Lq : List Int} (hA : GA c m s) (hws : m.ws.length ≤ 400) (hR : s.R = [])
    (hin : ∀ i, i ∈ hold → 0 ≤ i ∧ i < c.b * c.c ∧ i ∉ s.W) (hnd : hold.Nodup) (hp : planG c hold s = some s') (hrk : rk = false → s'.R = []) (hb : ∀ j : Int, 0 ≤ j → j < c.b → -1 ≤ gI s'.ds j ∧ gI s'.ds j ≤ 16) :
    Tru (itB [2, 3, 7, 15, 16, 17, 23, 24, 25] (lnG rk k + 3) (sxI itB E1008 A1008 L1008_10 11) ⟨tsF rk k hold (beginG { wk0 with hold := hold }).2 0, HF rk k c ws m s'.ds s'.R s'.W Lq (beginG { wk0 with hold := hold }).1⟩ (Z1008_10 itB KS)) := by
  rw [itB_def]
  rcases runAllG hA hl hR hin hnd hp with ⟨h0, hb0, rfl⟩ | ⟨q, m', x', hq, hw, hg, hA', hR', hh', hK', _⟩
  · rw [hb0]
    obtain ⟨N, hN⟩ : ∃ k, big = k + 1 := ⟨big - 1, by unfold big; omega⟩
    rw [hN, iter_succ, nFG rk k hk]
    unfold rF
    rw [show ((1 : Int) == 0) = false from rfl, br_f]
    have hx := endF (ws := ws) (rk := rk) hk (Lq := Lq) (x := wk0) hA hws hb hrk hR.symm rfl rfl
    cases decide ((0 : Int) < IntKind.wrap .i64 (4 * (hold.length : Int))) <;> exact hx
  · rw [hw]
    have hlen : m'.ws.length = m.ws.length := by
      have h1 := hA.M.sz
      have h2 := hA'.M.sz
      omega
    exact lF hk hl hg rfl 0 big (by omega) (by unfold big; omega) (endF hk hA' (by omega) hb hrk hR' hh' hK')

/-- The third loop. -/
theorem lE {m : Mm} (hc : chkC c = 0) (hl : hold.length ≤ 20) (hin : ∀ i, i ∈ hold → 0 ≤ i ∧ i < c.b * c.c) : ∀ (rest : List Int) (i N k : Nat) (rk : Bool) (s : St3) (Lq : List Int), hold.drop i = rest → i + rest.length = hold.length → rest.length < N → k ≤ i →
    (rk = false → s.R = []) → (0 < k → rk = false → c.f ≤ 0) → s.R.length ≤ i → s.W.length ≤ 128 + i → (s.ds.length : Int) = c.b → (∀ j : Int, 0 ≤ j → j < c.b → -1 ≤ gI s.ds j ∧ gI s.ds j ≤ 16) →
    (∀ (k : Nat) (rk : Bool) (s' : St3) (Lq : List Int), k ≤ 20 → (rk = false → s'.R = []) → planG c rest s = some s' → (∀ j : Int, 0 ≤ j → j < c.b → -1 ≤ gI s'.ds j ∧ gI s'.ds j ≤ 16) →
      Tru (itB [2, 3, 7, 15, 16, 17, 23, 24, 25] (lnG rk k + 3) (sxI itB E1008 A1008 L1008_10 11) ⟨tsF rk k hold (beginG { wk0 with hold := hold }).2 0, HF rk k c ws m s'.ds s'.R s'.W Lq (beginG { wk0 with hold := hold }).1⟩ (Z1008_10 itB KS))) →
    Tru (iter [2, 3, 7, 15, 16, 17, 21] 12 (sxI itB E1008 A1008 L1008_18 8) N ⟨tsE rk k hold i, HS rk k c ws m s.ds s.R s.W Lq⟩ (Z1008_18 itB KS)) := by
  intro rest
  induction rest with
  | nil =>
    intro i N k rk s Lq hdr hi hN hk hrk hf hR hW hds hb hF
    obtain ⟨N, rfl⟩ : ∃ k, N = k + 1 := ⟨N - 1, by simp at hN; omega⟩
    simp only [List.length_nil, Nat.add_zero] at hi
    rw [iter_succ, nEG rk k (by omega)]
    unfold rE
    have hsh : shW { wk0 with hold := hold } = true := by
      have h9 : decide (hold.length < 1000000) = true := decide_eq_true (by omega)
      show (true && (true && (true && (true && (decide (hold.length < 1000000) && true))))) = true
      rw [h9]; rfl
    rw [decide_eq_false (by omega), br_f, fits_of (by omega), br_t, hsh, br_t]
    exact hF k rk s Lq (by omega) hrk rfl hb
  | cons h rest ih =>
    intro i N k rk s Lq hdr hi hN hk hrk hf hR hW hds hb hF
    obtain ⟨N, rfl⟩ : ∃ k, N = k + 1 := ⟨N - 1, by simp at hN; omega⟩
    simp only [List.length_cons] at hi hN
    have hh : hold.getD i 0 = h := by
      have := congrArg (fun l => l.getD 0 0) hdr
      simpa [List.getD_eq_getElem?_getD, List.getElem?_drop] using this
    have hr : hold.drop (i + 1) = rest := by
      have := congrArg (List.drop 1) hdr
      simpa [List.drop_drop, Nat.add_comm] using this
    obtain ⟨h0, h1⟩ := hin h (by
      have : h ∈ hold.drop i := by rw [hdr]; simp
      exact List.mem_of_mem_drop this)
    obtain ⟨j0, j1, h128, _⟩ := blk_in hc h0 h1
    obtain ⟨⟨a1, a2⟩, ⟨b1, b2⟩, ⟨c1, c2⟩, _⟩ := chk_zero hc
    have eq : w64' (Int.tdiv h c.c) = h / c.c := by rw [Int.tdiv_eq_ediv_of_nonneg h0]; exact w64_id (by omega) (by omega)
    have hq : inB (h / c.c) s.ds.length = true := inB_of' j0 (by omega)
    have e1 : w64' ((i : Int) + 1) = ((i + 1 : Nat) : Int) := by rw [w64_id (by omega) (by omega)]; push_cast; rfl
    have hbq := hb (h / c.c) j0 j1
    rw [iter_succ, nEG rk k (by omega)]
    unfold rE
    rw [decide_eq_true (by omega), br_t, inB_of' (by omega) (by omega), br_t, beq_false_of_ne (show c.c ≠ 0 by omega), br_f, Int.toNat_natCast, hh, eq, hq, br_t, br_t, br_t, br_t, br_t, br_t, e1]
    have hgd : s.ds.getD (h / c.c).toNat 0 = gI s.ds (h / c.c) := rfl
    rw [hgd]
    -- the plan's next state
    have hplan : gI s.ds (h / c.c) ≠ 0 → planG c (h :: rest) s = planG c rest (nxtG c s h) := fun hne => by
      show (if gI s.ds (h / c.c) = 0 then none else planG c rest (nxtG c s h)) = _
      rw [if_neg hne]
    by_cases d0 : gI s.ds (h / c.c) = 0
    · rw [show (gI s.ds (h / c.c) == 0) = true by rw [beq_iff_eq]; exact d0, br_t]; exact tru_ret
    · rw [beq_false_of_ne d0, br_f]
      by_cases d1 : gI s.ds (h / c.c) > 0
      · rw [decide_eq_true d1, br_t, show w64' (gI s.ds (h / c.c) - 1) = gI s.ds (h / c.c) - 1 from w64_id (by omega) (by omega)]
        have hn : nxtG c s h = { s with ds := s.ds.set (h / c.c).toNat (gI s.ds (h / c.c) - 1) } := by unfold nxtG; rw [if_pos d1]
        refine ih (i + 1) N k rk { s with ds := s.ds.set (h / c.c).toNat (gI s.ds (h / c.c) - 1) } Lq hr (by omega) (by omega) (by omega) hrk hf (by show s.R.length ≤ i + 1; omega) (by show s.W.length ≤ 128 + (i + 1); omega) (by simp only [List.length_set]; exact hds)
          (fun j z0 z1 => ?_) (fun k rk s' Lq z1 z2 z3 z4 => hF k rk s' Lq z1 z2 (by rw [hplan d0, hn]; exact z3) z4)
        show -1 ≤ gI (s.ds.set (h / c.c).toNat (gI s.ds (h / c.c) - 1)) j ∧ gI (s.ds.set (h / c.c).toNat (gI s.ds (h / c.c) - 1)) j ≤ 16
        rw [gI_setG j0 z0 (by rw [hds]; exact j1)]
        by_cases e : j = h / c.c
        · rw [if_pos e]; omega
        · rw [if_neg e]; exact hb j z0 z1
      · rw [decide_eq_false d1, br_f]
        have hlR : (lenG s.R rk : Int) = s.R.length := by
          cases rk with
          | true => rfl
          | false => rw [hrk rfl]; rfl
        rw [hlR]
        by_cases d2 : (s.R.length : Int) < c.f
        · rw [decide_eq_true d2, br_t]
          have hn : nxtG c s h = { s with R := s.R ++ [h] } := by unfold nxtG; rw [if_neg d1, if_pos d2]
          have step : ∀ rk', (rk' = true) → (0 < k → rk' = false → c.f ≤ 0) → Tru (iter [2, 3, 7, 15, 16, 17, 21] 12 (sxI itB E1008 A1008 L1008_18 8) N ⟨tsE rk' k hold ((i + 1 : Nat) : Int), HS rk' k c ws m s.ds (s.R ++ [h]) s.W Lq⟩ (Z1008_18 itB KS)) := fun rk' e hf' =>
            ih (i + 1) N k rk' { s with R := s.R ++ [h] } Lq hr (by omega) (by omega) (by omega) (fun q => by rw [e] at q; cases q) hf' (by simp only [List.length_append, List.length_cons, List.length_nil]; omega) (by show s.W.length ≤ 128 + (i + 1); omega) hds hb
              (fun k rk s' Lq z1 z2 z3 z4 => hF k rk s' Lq z1 z2 (by rw [hplan d0, hn]; exact z3) z4)
          cases rk with
          | true =>
            show Tru (br (fits (s.R.length + 1) 8) _ none)
            rw [fits_of (by omega), br_t]
            exact step true rfl (fun _ q => by cases q)
          | false =>
            have hR0 := hrk rfl
            cases k with
            | zero =>
              have := step true rfl (fun q => by omega)
              rw [hR0] at this
              exact this
            | succ k =>
              have := hf (by omega) rfl
              rw [hR0] at d2
              simp only [List.length_nil] at d2
              omega
        · rw [decide_eq_false d2, br_f, fits_of (by omega), br_t]
          have hn : nxtG c s h = { s with W := h :: s.W } := by unfold nxtG; rw [if_neg d1, if_neg d2]
          refine ih (i + 1) N (k + 1) rk { s with W := h :: s.W } (wL0 s.W Lq k) hr (by omega) (by omega) (by omega) hrk (fun _ q => ?_) (by show s.R.length ≤ i + 1; omega) (by simp only [List.length_cons]; omega) hds hb
            (fun k rk s' Lq z1 z2 z3 z4 => hF k rk s' Lq z1 z2 (by rw [hplan d0, hn]; exact z3) z4)
          have := hrk q
          rw [this] at d2
          simp only [List.length_nil] at d2
          omega
end

theorem main8G {c : Cf} {ws hold : List Int} (hu : u64B ws = true) : Tru (sxFn E1008 A1008 C1008 [.agg (encC c), .d (.ints .u64 ws), .d (.ints .i64 hold)] [] KS) := by
  rw [← sxFnI_eq, pG]
  refine Tru.br (fun hv => ?_) fun _ => by rw [hu, br_t]; exact tru_ret
  obtain ⟨h0, h1, h2, h3, h4⟩ := bothV_iff.1 hv
  obtain ⟨⟨a1, a2⟩, ⟨b1, b2⟩, ⟨c1, c2⟩, _⟩ := chk_zero h0
  rw [hu, br_t]
  cases hL : listV c ws false with
  | none => exact tru_ret
  | some L =>
    rw [show (!(some L).isSome) = false from rfl, br_f, show (some L).getD [] = L from rfl]
    by_cases hl : (hold.length : Int) > 20
    · rw [decide_eq_true hl, br_t]; exact tru_ret
    · obtain ⟨f1, f2, f3, f4, f5, f6⟩ := listV_some hL
      have hM : MC c ⟨c, ac0, ws⟩ := ⟨by simp only [okM, hu, Bool.and_true, beq_iff_eq]; exact h0, rfl, h4⟩
      rw [decide_eq_false hl, br_f, itB_def]
      refine lA (m := ⟨c, ac0, ws⟩) h0 (by omega) f6 (fun hO => ?_) hold.length 0 big (by omega) (by unfold big; omega) fun j hj => absurd hj (by omega)
      rw [itB_def]
      refine lD (ds0 := []) hM rfl h3 (fun ds hD => ?_) c.b.toNat 0 big _ (by omega) (by unfold big; omega) ⟨by rw [List.length_replicate]; omega, fun j hj => absurd hj (by omega)⟩
      have hin : ∀ i, i ∈ hold → 0 ≤ i ∧ i < c.b * c.c ∧ i ∉ L := fun i hi => by
        obtain ⟨j, hj, e⟩ := List.mem_iff_getElem.1 hi
        have := hO j hj
        rw [List.getD_eq_getElem?_getD, List.getElem?_eq_getElem hj, Option.getD_some, e] at this
        exact ⟨this.1, this.2.1, this.2.2.1⟩
      have hnd : hold.Nodup := by
        rw [List.nodup_iff_pairwise_ne, List.pairwise_iff_getElem]
        intro i j hi hj hij e
        have := (hO j hj).2.2.2 i hij
        simp only [List.getD_eq_getElem?_getD, List.getElem?_eq_getElem hj, List.getElem?_eq_getElem hi, Option.getD_some] at this
        exact this e
      have hdr : ∀ j : Int, 0 ≤ j → j < c.b → SlG c ⟨c, ac0, ws⟩ (gI ds j) j ∧ -1 ≤ gI ds j ∧ gI ds j ≤ 16 := fun j z0 z1 => by
        obtain ⟨n, rfl⟩ := Int.eq_ofNat_of_zero_le z0
        rw [gI_nat]
        exact hD.ok n (by omega)
      have hA : GA c ⟨c, ac0, ws⟩ ⟨ds, [], L⟩ := ⟨hM, hL, hD.len, fun j z0 z1 => (hdr j z0 z1).1, by simp⟩
      rw [itB_def]
      exact lE (m := ⟨c, ac0, ws⟩) h0 (by omega) (fun i hi => ⟨(hin i hi).1, (hin i hi).2.1⟩) hold 0 big 0 false ⟨ds, [], L⟩ [] rfl (by omega) (by unfold big; omega) (by omega) (fun _ => rfl) (fun q => by omega) (by simp) (by show L.length ≤ _; omega) hD.len (fun j z0 z1 => (hdr j z0 z1).2)
        fun k rk s' Lq z1 z2 z3 z4 => goF z1 (by omega) hA h3 rfl hin hnd z3 z2 z4
end Go.Sx.Pr

/- A worker's state as an argument of a law. -/
namespace Go.Sx.Pr
open Go Go.Sx Go.Sx.Md Go.Proofs Go.ChangeShapes Go.WideShapes Go.ChangeAt Go.RowKit
set_option maxRecDepth 100000

section
variable {H : Type} {enc : TypeId × Value → H} {w : World}
end
end Go.Sx.Pr

/- A list of bytes as an argument of a law. -/
namespace Go.Sx.Pr
open Go Go.Sx Go.Proofs Go.ChangeShapes Go.WideShapes Go.ChangeAt Go.RowKit
set_option maxRecDepth 100000
section
variable {H : Type} {enc : TypeId × Value → H} {w : World}
end
end Go.Sx.Pr
