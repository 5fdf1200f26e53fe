/- The stack of entries under any schedule: what one pick of StackMany leaves. Plain Lean. -/
import Derived.Test.YtpnnnklahanecaaE2
import Derived.Test.YtpnnnklahanecaaE2
import Derived.Test.YtpnnnklahanecaaE2
import Derived.Test.YtpnnnklahanecaaE2
import Derived.Test.YtpnnnklahanecaaE2
import Derived.Test.YtpnnnklahanecaaRows
import Derived.KernelRfl
import Derived.Test.YtpnnnklahanecaaE2
import Derived.Test.YtpnnnklahanecaaR2
set_option linter.all false
set_option linter.unusedVariables false
set_option linter.unusedSimpArgs false
set_option linter.unnecessarySimpa false
namespace Go.Sx.Pr
open Go Go.Sx Go.Sx.Md

theorem nodup_le : ∀ {E : Nat} {L : List Int}, L.Nodup → (∀ i, i ∈ L → 0 ≤ i ∧ i < E) → L.length ≤ E
  | 0, [], _, _ => Nat.le_refl _
  | 0, i :: L, _, h => by have := h i (by simp); omega
  | E + 1, L, hn, h => by
    by_cases hm : (E : Int) ∈ L
    · have h1 := List.length_erase_of_mem hm
      have h2 := nodup_le (E := E) (L := L.erase (E : Int)) (hn.erase _) fun i hi => by
        have q1 := h i (List.mem_of_mem_erase hi)
        have q2 : i ≠ E := fun e => by
          subst e
          exact (List.Nodup.mem_erase_iff hn).mp hi |>.1 rfl
        omega
      have : 0 < L.length := List.length_pos_of_mem hm
      omega
    · have := nodup_le (E := E) hn fun i hi => by
        have q1 := h i hi
        have q2 : i ≠ E := fun e => hm (e ▸ hi)
        omega
      omega

def nxE (m : Mm) (i : Int) : Int := mLoadV m (adr m.c 4 i) % 4294967296
theorem adr4 {c : Cf} (hc : chkC c = 0) {k : Int} (h0 : 0 ≤ k) (h1 : k < c.e) : adr c 4 k = 3 + c.a + c.b + 2 * k + 1 := by
  unfold adr
  rw [at4 hc k, if_pos ⟨h0, h1⟩]
structure SW (E : Nat) (m : Mm) (L : List Int) (x : Wk) : Prop where
  ln : 20 ≤ x.line ∧ x.line ≤ 25
  noI : x.line ≤ 22 → x.I = 0
  hasI : 23 ≤ x.line → 1 ≤ x.I ∧ x.I ≤ E ∧ x.I - 1 ∉ L
  ver : x.line ≠ 20 → x.line ≠ 23 → 0 ≤ x.V ∧ x.V / 4294967296 ≤ mLoadV m 2 / 4294967296
  hv : x.line = 21 ∨ x.line = 22 → x.H = x.V % 4294967296 ∧ x.H ≠ 0
  nv : x.line = 22 → mLoadV m 2 = x.V → x.N % 4294967296 = nxE m (x.H - 1)
  lv : x.line = 25 → mLoadV m 2 = x.V → nxE m (x.I - 1) = x.V % 4294967296

structure SI (W E : Nat) (m : Mm) (a : Nat → Wk) (L : List Int) (n : Int) : Prop where
  hc : chkC m.c = 0
  e : m.c.e = E
  len : 3 + m.c.a + m.c.b + 2 * (E : Int) ≤ m.ws.length
  lo : 0 ≤ mLoadV m 2
  hi : mLoadV m 2 / 4294967296 ≤ n
  ch : Chain (nxE m) (mLoadV m 2 % 4294967296) L
  nd : L.Nodup
  rg : ∀ i, i ∈ L → 0 ≤ i ∧ i < E
  wk : ∀ k, k < W → SW E m L (a k)
  dis : ∀ j k, j < W → k < W → j ≠ k → (a j).I ≠ 0 → (a j).I ≠ (a k).I
  all : ∀ i : Int, 0 ≤ i → i < E → i ∈ L ∨ ∃ k, k < W ∧ (a k).I = i + 1

/-- The work that the law keeps. -/
def sY (wz : Wk) (r : SR) (x : Wk) : Wk :=
  if r.way = 1 ∧ x.line = 22 then { wz with line := 23, I := w64' r.x.H } else if r.way ≠ 0 then { wz with line := 20 } else r.x

/-- Memory and list stay as they are, and who holds what. -/
theorem SI.stay {W E : Nat} {m m' : Mm} {a : Nat → Wk} {L : List Int} {n : Int} {w : Nat} {y : Wk} (h : SI W E m a L n) (hw : w < W) (hm : m'.c = m.c) (hl : ∀ b, mLoadV m' b = mLoadV m b) (hz : m'.ws.length = m.ws.length)
    (hI : y.I = (a w).I) (hy : SW E m L y) : SI W E m' (upd a w y) L (n + 1) := by
  have hx : nxE m' = nxE m := by funext i; simp only [nxE, hm, hl]
  have cv : ∀ x, SW E m L x → SW E m' L x := fun x q => ⟨q.ln, q.noI, q.hasI, by rw [hl]; exact q.ver, q.hv, by rw [hl, hx]; exact q.nv, by rw [hl, hx]; exact q.lv⟩
  have hi : ∀ k, (upd a w y k).I = (a k).I := fun k => by
    by_cases e : k = w
    · subst e; rw [upd_same, hI]
    · rw [upd_ne e]
  refine ⟨by rw [hm]; exact h.hc, by rw [hm]; exact h.e, by rw [hm, hz]; exact h.len, by rw [hl]; exact h.lo, by rw [hl]; have := h.hi; omega, by rw [hl, hx]; exact h.ch, h.nd, h.rg, fun k hk => ?_, fun j k hj hk hne => by rw [hi, hi]; exact h.dis j k hj hk hne, fun i h0 h1 => ?_⟩
  · by_cases e : k = w
    · subst e; rw [upd_same]; exact cv _ hy
    · rw [upd_ne e]; exact cv _ (h.wk k hk)
  · rcases h.all i h0 h1 with q | ⟨k, hk, q⟩
    · exact .inl q
    · exact .inr ⟨k, hk, by rw [hi]; exact q⟩

variable {W E : Nat} {m : Mm} {a : Nat → Wk} {L : List Int} {n : Int} {w : Nat} {wz : Wk}

theorem SI.H_mem (h : SI W E m a L n) {x : Wk} (hx : SW E m L x) (hl : x.line = 21 ∨ x.line = 22) (hv : mLoadV m 2 = x.V) : ∃ L', L = (x.H - 1) :: L' ∧ Chain (nxE m) (nxE m (x.H - 1)) L' := by
  obtain ⟨h1, h2⟩ := hx.hv hl
  have hc := h.ch
  rw [hv, ← h1] at hc
  cases L with
  | nil => exact absurd hc h2
  | cons i L' =>
    obtain ⟨q1, q2⟩ := hc
    have : i = x.H - 1 := by omega
    subst this
    exact ⟨L', rfl, q2⟩

theorem stepS_20 (x : Wk) (h : x.line = 20) : stepS m x = bif mLoadV m 2 % 4294967296 == 0 then ⟨mLoad m 2, { x with V := mLoadV m 2, H := mLoadV m 2 % 4294967296, line := 0 }, 2, true⟩ else ⟨mLoad m 2, { x with V := mLoadV m 2, H := mLoadV m 2 % 4294967296, line := 21 }, 0, true⟩ := by
  simp [stepS, stepL, h]
theorem stepS_21 (x : Wk) (h : x.line = 21) : stepS m x = ⟨mLoad m (adr m.c 4 (w64' (w64' x.H - 1))), { x with N := mLoadV m (adr m.c 4 (w64' (w64' x.H - 1))), line := 22 }, 0, true⟩ := by
  simp [stepS, stepL, h]
theorem stepS_22 (x : Wk) (h : x.line = 22) : stepS m x = bif mCasB m 2 x.V then ⟨mCas m 2 x.V (pHead (x.N % 4294967296 - 1) (x.V / 4294967296 + 1)), { x with line := 0 }, 1, true⟩ else ⟨mCas m 2 x.V (pHead (x.N % 4294967296 - 1) (x.V / 4294967296 + 1)), { x with line := 20 }, 0, true⟩ := by
  simp [stepS, stepL, h]
theorem stepS_23 (x : Wk) (h : x.line = 23) : stepS m x = ⟨mLoad m 2, { x with V := mLoadV m 2, line := 24 }, 0, true⟩ := by
  simp [stepS, stepL, h]
theorem stepS_24 (x : Wk) (h : x.line = 24) : stepS m x = ⟨mStore m (adr m.c 4 (w64' (x.I - 1))) (x.V % 4294967296), { x with line := 25 }, 0, true⟩ := by
  simp [stepS, stepL, h]
theorem stepS_25 (x : Wk) (h : x.line = 25) : stepS m x = bif mCasB m 2 x.V then ⟨mCas m 2 x.V (pHead (w64' (x.I - 1)) (x.V / 4294967296 + 1)), { x with line := 0 }, 1, true⟩ else ⟨mCas m 2 x.V (pHead (w64' (x.I - 1)) (x.V / 4294967296 + 1)), { x with line := 23 }, 0, true⟩ := by
  simp [stepS, stepL, h]
theorem pHead_parts {p v : Int} (h0 : 0 ≤ v) (h1 : v < 4294967296) (h2 : 0 ≤ p + 1) (h3 : p + 1 < 4294967296) : pHead p v % 4294967296 = p + 1 ∧ pHead p v / 4294967296 = v ∧ 0 ≤ pHead p v := by
  unfold pHead
  omega

/-- The head has changed: the version is greater. -/
theorem SW.newer {m' : Mm} {L' : List Int} {x : Wk} (h : SW E m L x) (hv : mLoadV m' 2 / 4294967296 = mLoadV m 2 / 4294967296 + 1) (hL : 23 ≤ x.line → x.I - 1 ∉ L') : SW E m' L' x := by
  refine ⟨h.ln, h.noI, fun q => ?_, fun q1 q2 => ?_, h.hv, fun q hh => ?_, fun q hh => ?_⟩
  · obtain ⟨r1, r2, _⟩ := h.hasI q; exact ⟨r1, r2, hL q⟩
  · obtain ⟨r1, r2⟩ := h.ver q1 q2; exact ⟨r1, by omega⟩
  · obtain ⟨r1, r2⟩ := h.ver (by omega) (by omega)
    rw [hh] at hv; omega
  · obtain ⟨r1, r2⟩ := h.ver (by omega) (by omega)
    rw [hh] at hv; omega

theorem pickS (h : SI W E m a L n) (hn : n < 1000000) (hE : E ≤ 1000) (hw : w < W) (hz : wz.I = 0) :
    (stepS m (a w)).ok = true ∧ ∃ L', SI W E (stepS m (a w)).m (upd a w (sY wz (stepS m (a w)) (a w))) L' (n + 1) := by
  have hx := h.wk w hw
  have hlo := h.lo
  have hhi := h.hi
  have k2 : Mm.ok m 2 = true := okA.mpr ⟨by omega, by have := h.len; have h1 := (chk_zero h.hc).1; have h2 := (chk_zero h.hc).2.1; omega⟩
  obtain ⟨l0, l1⟩ := hx.ln
  obtain ⟨A0, A1⟩ := (chk_zero h.hc).1
  obtain ⟨B0, B1⟩ := (chk_zero h.hc).2.1
  have hcas : ∀ {x y b : Int}, b ≠ 2 → mLoadV (mCas m 2 x y) b = mLoadV m b := fun hb => by rw [ld_cas, if_neg (fun q => hb q.2.symm)]
  have hcas1 : ∀ {x y : Int}, mLoadV m 2 = x → mLoadV (mCas m 2 x y) 2 = y := fun hb => by rw [ld_cas, if_pos ⟨(casB_iff k2).mpr hb, rfl⟩]
  have hcas0 : ∀ {x y b : Int}, ¬ mLoadV m 2 = x → mLoadV (mCas m 2 x y) b = mLoadV m b := fun hb => by rw [ld_cas, if_neg (fun q => hb ((casB_iff k2).mp q.1))]
  have hnx : ∀ {x y : Int} {i : Int}, 0 ≤ i → i < E → nxE (mCas m 2 x y) i = nxE m i := fun {x y i} i0 i1 => by
    have : adr (mCas m 2 x y).c 4 i = adr m.c 4 i := rfl
    unfold nxE
    rw [this, hcas (by rw [adr4 h.hc i0 (by rw [h.e]; exact i1)]; omega)]
  have cases6 : (a w).line = 20 ∨ (a w).line = 21 ∨ (a w).line = 22 ∨ (a w).line = 23 ∨ (a w).line = 24 ∨ (a w).line = 25 := by omega
  rcases cases6 with q | q | q | q | q | q
  · have hI := hx.noI (by omega)
    rw [stepS_20 _ q]
    cases h0 : (mLoadV m 2 % 4294967296 == 0) with
    | true =>
      rw [cond_true]
      have e : sY wz (⟨mLoad m 2, { a w with V := mLoadV m 2, H := mLoadV m 2 % 4294967296, line := 0 }, 2, true⟩ : SR) (a w) = { wz with line := 20 } := by simp [sY]
      rw [e]
      exact ⟨rfl, L, h.stay hw rfl (fun _ => rfl) rfl (by rw [hI]; exact hz) ⟨by simp, fun _ => hz, fun q => by simp at q, fun q => by simp at q, fun q => by simp at q, fun q => by simp at q, fun q => by simp at q⟩⟩
    | false =>
      rw [cond_false]
      have e : sY wz (⟨mLoad m 2, { a w with V := mLoadV m 2, H := mLoadV m 2 % 4294967296, line := 21 }, 0, true⟩ : SR) (a w) = { a w with V := mLoadV m 2, H := mLoadV m 2 % 4294967296, line := 21 } := by simp [sY]
      rw [e]
      exact ⟨rfl, L, h.stay hw rfl (fun _ => rfl) rfl rfl ⟨by simp, fun _ => hI, fun q => by simp at q, fun _ _ => ⟨hlo, Int.le_refl _⟩, fun _ => ⟨rfl, by simpa using h0⟩, fun q => by simp at q, fun q => by simp at q⟩⟩
  · have hI := hx.noI (by omega)
    obtain ⟨v0, v1⟩ := hx.ver (by omega) (by omega)
    obtain ⟨H1, H2⟩ := hx.hv (.inl q)
    have eH : w64' (w64' (a w).H - 1) = (a w).H - 1 := by rw [w64_id (x := (a w).H) (by omega) (by omega), w64_id (by omega) (by omega)]
    rw [stepS_21 _ q, eH]
    have e : sY wz (⟨mLoad m (adr m.c 4 ((a w).H - 1)), { a w with N := mLoadV m (adr m.c 4 ((a w).H - 1)), line := 22 }, 0, true⟩ : SR) (a w) = { a w with N := mLoadV m (adr m.c 4 ((a w).H - 1)), line := 22 } := by simp [sY]
    rw [e]
    exact ⟨rfl, L, h.stay hw rfl (fun _ => rfl) rfl rfl ⟨by simp, fun _ => hI, fun q => by simp at q, fun _ _ => ⟨v0, v1⟩, fun _ => ⟨H1, H2⟩, fun _ _ => rfl, fun q => by simp at q⟩⟩
  · have hI := hx.noI (by omega)
    obtain ⟨v0, v1⟩ := hx.ver (by omega) (by omega)
    obtain ⟨H1, H2⟩ := hx.hv (.inr q)
    rw [stepS_22 _ q]
    by_cases hv : mLoadV m 2 = (a w).V
    · obtain ⟨L', rfl, hch⟩ := h.H_mem hx (.inr q) hv
      have hN := hx.nv q hv
      obtain ⟨g1, g2⟩ := h.rg ((a w).H - 1) (by simp)
      rw [(casB_iff k2).mpr hv, cond_true]
      obtain ⟨p1, p2, p3⟩ := pHead_parts (p := (a w).N % 4294967296 - 1) (v := (a w).V / 4294967296 + 1) (by omega) (by omega) (by omega) (by omega)
      have e : sY wz (⟨mCas m 2 (a w).V (pHead ((a w).N % 4294967296 - 1) ((a w).V / 4294967296 + 1)), { a w with line := 0 }, 1, true⟩ : SR) (a w) = { wz with line := 23, I := (a w).H } := by simp only [sY, q]; simp; exact w64_id (by omega) (by omega)
      rw [e]
      have hz2 := hcas1 (y := pHead ((a w).N % 4294967296 - 1) ((a w).V / 4294967296 + 1)) hv
      have hver : mLoadV (mCas m 2 (a w).V (pHead ((a w).N % 4294967296 - 1) ((a w).V / 4294967296 + 1))) 2 / 4294967296 = mLoadV m 2 / 4294967296 + 1 := by rw [hz2, p2, hv]
      obtain ⟨nd1, nd2⟩ := List.nodup_cons.mp h.nd
      refine ⟨rfl, L', h.hc, h.e, by rw [show (mCas m 2 (a w).V (pHead ((a w).N % 4294967296 - 1) ((a w).V / 4294967296 + 1))).ws.length = m.ws.length from len_mSet']; exact h.len, by rw [hz2]; exact p3, by rw [hver]; omega, ?_, nd2, fun i hi => h.rg i (by simp [hi]), fun k hk => ?_, fun j k hj hk hne => ?_, fun i h0 h1 => ?_⟩
      · rw [hz2, p1, show (a w).N % 4294967296 - 1 + 1 = (a w).N % 4294967296 by omega, hN]
        exact hch.congr fun i hi => by
          obtain ⟨r1, r2⟩ := h.rg i (by simp [hi])
          exact hnx r1 r2
      · by_cases ek : k = w
        · subst ek
          rw [upd_same]
          exact ⟨by simp, fun q => by simp at q, fun _ => ⟨by simp; omega, by simp; omega, nd1⟩, fun _ q => by simp at q, fun q => by simp at q, fun q => by simp at q, fun q => by simp at q⟩
        · rw [upd_ne ek]
          exact (h.wk k hk).newer hver fun q hm => ((h.wk k hk).hasI q).2.2 (by simp [hm])
      · have nb : ∀ k, k < W → k ≠ w → (a k).I ≠ (a w).H := fun k hk ek hh => by
          have hk' := h.wk k hk
          by_cases hl : 23 ≤ (a k).line
          · exact (hk'.hasI hl).2.2 (by rw [hh]; simp)
          · have := hk'.noI (by omega); omega
        by_cases ej : j = w
        · subst ej
          rw [upd_same, upd_ne (Ne.symm hne)]
          exact fun _ => (nb k hk (Ne.symm hne)).symm
        · rw [upd_ne ej]
          by_cases ek : k = w
          · subst ek; rw [upd_same]; exact fun _ => nb j hj ej
          · rw [upd_ne ek]; exact h.dis j k hj hk hne
      · rcases h.all i h0 h1 with r | ⟨k, hk, r⟩
        · rcases List.mem_cons.mp r with r | r
          · exact .inr ⟨w, hw, by rw [upd_same]; simp; omega⟩
          · exact .inl r
        · exact .inr ⟨k, hk, by rw [upd_ne (fun e => by subst e; omega)]; exact r⟩
    · have hB : mCasB m 2 (a w).V = false := by
        cases hb : mCasB m 2 (a w).V with
        | false => rfl
        | true => exact absurd ((casB_iff k2).mp hb) hv
      rw [hB, cond_false]
      have e : sY wz (⟨mCas m 2 (a w).V (pHead ((a w).N % 4294967296 - 1) ((a w).V / 4294967296 + 1)), { a w with line := 20 }, 0, true⟩ : SR) (a w) = { a w with line := 20 } := by simp [sY]
      rw [e]
      exact ⟨rfl, L, h.stay hw rfl (fun _ => hcas0 hv) len_mSet' rfl ⟨by simp, fun _ => hI, fun q => by simp at q, fun q => by simp at q, fun q => by simp at q, fun q => by simp at q, fun q => by simp at q⟩⟩
  · have hI := hx.hasI (by omega)
    rw [stepS_23 _ q]
    have e : sY wz (⟨mLoad m 2, { a w with V := mLoadV m 2, line := 24 }, 0, true⟩ : SR) (a w) = { a w with V := mLoadV m 2, line := 24 } := by simp [sY]
    rw [e]
    exact ⟨rfl, L, h.stay hw rfl (fun _ => rfl) rfl rfl ⟨by simp, fun q => by simp at q, fun _ => hI, fun _ _ => ⟨hlo, Int.le_refl _⟩, fun q => by simp at q, fun q => by simp at q, fun q => by simp at q⟩⟩
  · obtain ⟨I1, I2, I3⟩ := hx.hasI (by omega)
    obtain ⟨v0, v1⟩ := hx.ver (by omega) (by omega)
    have eI : w64' ((a w).I - 1) = (a w).I - 1 := w64_id (by omega) (by omega)
    have hA := adr4 h.hc (k := (a w).I - 1) (by omega) (by rw [h.e]; omega)
    rw [stepS_24 _ q, eI, hA]
    generalize hm' : mStore m (3 + m.c.a + m.c.b + 2 * ((a w).I - 1) + 1) ((a w).V % 4294967296) = m'
    have hl : ∀ b, b ≠ 3 + m.c.a + m.c.b + 2 * ((a w).I - 1) + 1 → mLoadV m' b = mLoadV m b := fun b hb => by rw [← hm', ld_store, if_neg (fun q => hb q.2.symm)]
    have hlen : m'.ws.length = m.ws.length := by rw [← hm']; exact len_mSet'
    have hcc : m'.c = m.c := by rw [← hm']; rfl
    have hk := okA.mpr (show 0 ≤ 3 + m.c.a + m.c.b + 2 * ((a w).I - 1) + 1 ∧ 3 + m.c.a + m.c.b + 2 * ((a w).I - 1) + 1 < (m.ws.length : Int) from ⟨by omega, by have := h.len; omega⟩)
    have hme : nxE m' ((a w).I - 1) = (a w).V % 4294967296 := by
      unfold nxE
      rw [hcc, hA, ← hm', ld_store, if_pos ⟨hk, rfl⟩]; omega
    have h2 := hl 2 (by omega)
    have hnx' : ∀ i : Int, 0 ≤ i → i < E → i ≠ (a w).I - 1 → nxE m' i = nxE m i := fun i i0 i1 ne => by
      have hB := adr4 h.hc (k := i) i0 (by rw [h.e]; omega)
      unfold nxE
      rw [hcc, hB, hl _ (by omega)]
    have e : sY wz (⟨m', { a w with line := 25 }, 0, true⟩ : SR) (a w) = { a w with line := 25 } := by simp [sY]
    rw [e]
    have hIs : ∀ k, (upd a w ({ a w with line := 25 } : Wk) k).I = (a k).I := fun k => by
      by_cases e : k = w
      · subst e; rw [upd_same]
      · rw [upd_ne e]
    refine ⟨rfl, L, by rw [hcc]; exact h.hc, by rw [hcc]; exact h.e, by rw [hcc, hlen]; exact h.len, by rw [h2]; exact hlo, by rw [h2]; omega, ?_, h.nd, h.rg, fun k hk => ?_, fun j k hj hk hne => by rw [hIs, hIs]; exact h.dis j k hj hk hne, fun i h0 h1 => ?_⟩
    · rw [h2]
      exact h.ch.congr fun i hi => by
        obtain ⟨r1, r2⟩ := h.rg i hi
        exact hnx' i r1 r2 fun e => I3 (e ▸ hi)
    · by_cases ek : k = w
      · subst ek
        rw [upd_same]
        exact ⟨by simp, fun q => by simp at q, fun _ => ⟨I1, I2, I3⟩, fun _ _ => ⟨v0, by rw [h2]; exact v1⟩, fun q => by simp at q, fun q => by simp at q, fun _ _ => hme⟩
      · rw [upd_ne ek]
        have hk' := h.wk k hk
        refine ⟨hk'.ln, hk'.noI, hk'.hasI, by rw [h2]; exact hk'.ver, hk'.hv, fun r hh => ?_, fun r hh => ?_⟩
        · rw [h2] at hh
          obtain ⟨L', rfl, _⟩ := h.H_mem hk' (.inr r) hh
          obtain ⟨r1, r2⟩ := h.rg ((a k).H - 1) (by simp)
          rw [hnx' _ r1 r2 fun e => I3 (by rw [← e]; simp)]
          exact hk'.nv r hh
        · rw [h2] at hh
          obtain ⟨J1, J2, _⟩ := hk'.hasI (by omega)
          rw [hnx' _ (by omega) (by omega) fun e => h.dis k w hk hw ek (by omega) (by omega)]
          exact hk'.lv r hh
    · rcases h.all i h0 h1 with r | ⟨k, hk, r⟩
      · exact .inl r
      · exact .inr ⟨k, hk, by rw [hIs]; exact r⟩
  · obtain ⟨I1, I2, I3⟩ := hx.hasI (by omega)
    obtain ⟨v0, v1⟩ := hx.ver (by omega) (by omega)
    have eI : w64' ((a w).I - 1) = (a w).I - 1 := w64_id (by omega) (by omega)
    rw [stepS_25 _ q, eI]
    by_cases hv : mLoadV m 2 = (a w).V
    · have hN := hx.lv q hv
      rw [(casB_iff k2).mpr hv, cond_true]
      obtain ⟨p1, p2, p3⟩ := pHead_parts (p := (a w).I - 1) (v := (a w).V / 4294967296 + 1) (by omega) (by omega) (by omega) (by omega)
      have e : sY wz (⟨mCas m 2 (a w).V (pHead ((a w).I - 1) ((a w).V / 4294967296 + 1)), { a w with line := 0 }, 1, true⟩ : SR) (a w) = { wz with line := 20 } := by simp [sY, q]
      rw [e]
      have hz2 := hcas1 (y := pHead ((a w).I - 1) ((a w).V / 4294967296 + 1)) hv
      have hver : mLoadV (mCas m 2 (a w).V (pHead ((a w).I - 1) ((a w).V / 4294967296 + 1))) 2 / 4294967296 = mLoadV m 2 / 4294967296 + 1 := by rw [hz2, p2, hv]
      refine ⟨rfl, ((a w).I - 1) :: L, h.hc, h.e, by rw [show (mCas m 2 (a w).V (pHead ((a w).I - 1) ((a w).V / 4294967296 + 1))).ws.length = m.ws.length from len_mSet']; exact h.len, by rw [hz2]; exact p3, by rw [hver]; omega, ?_, List.nodup_cons.mpr ⟨I3, h.nd⟩, fun i hi => ?_, fun k hk => ?_, fun j k hj hk hne => ?_, fun i h0 h1 => ?_⟩
      · rw [hz2, p1]
        refine ⟨rfl, ?_⟩
        rw [hnx (by omega) (by omega), hN, ← hv]
        exact h.ch.congr fun i hi => by
          obtain ⟨r1, r2⟩ := h.rg i hi
          exact hnx r1 r2
      · rcases List.mem_cons.mp hi with r | r
        · omega
        · exact h.rg i r
      · by_cases ek : k = w
        · subst ek
          rw [upd_same]
          exact ⟨by simp, fun _ => hz, fun q => by simp at q, fun q => by simp at q, fun q => by simp at q, fun q => by simp at q, fun q => by simp at q⟩
        · rw [upd_ne ek]
          refine (h.wk k hk).newer hver fun q hm => ?_
          obtain ⟨J1, J2, J3⟩ := (h.wk k hk).hasI q
          rcases List.mem_cons.mp hm with r | r
          · exact h.dis k w hk hw ek (by omega) (by omega)
          · exact J3 r
      · by_cases ej : j = w
        · subst ej
          rw [upd_same]
          exact fun r => absurd hz r
        · rw [upd_ne ej]
          by_cases ek : k = w
          · subst ek; rw [upd_same]; intro r; simp only [hz]; exact r
          · rw [upd_ne ek]; exact h.dis j k hj hk hne
      · rcases h.all i h0 h1 with r | ⟨k, hk, r⟩
        · exact .inl (by simp [r])
        · by_cases ek : k = w
          · subst ek; exact .inl (by simp; omega)
          · exact .inr ⟨k, hk, by rw [upd_ne ek]; exact r⟩
    · have hB : mCasB m 2 (a w).V = false := by
        cases hb : mCasB m 2 (a w).V with
        | false => rfl
        | true => exact absurd ((casB_iff k2).mp hb) hv
      rw [hB, cond_false]
      have e : sY wz (⟨mCas m 2 (a w).V (pHead ((a w).I - 1) ((a w).V / 4294967296 + 1)), { a w with line := 23 }, 0, true⟩ : SR) (a w) = { a w with line := 23 } := by simp [sY]
      rw [e]
      exact ⟨rfl, L, h.stay hw rfl (fun _ => hcas0 hv) len_mSet' rfl ⟨by simp, fun q => by simp at q, fun _ => ⟨I1, I2, I3⟩, fun _ q => by simp at q, fun q => by simp at q, fun q => by simp at q, fun q => by simp at q⟩⟩
end Go.Sx.Pr

/- EpochHolds: the law answers true on symbolic arguments. -/
namespace Go.Sx.Pr
open Go Go.Sx Go.Sx.Md Go.Proofs
set_option maxRecDepth 100000

theorem lkD_out {l : List DV} {j : Nat} (h : l.length ≤ j) : lkD l j = .v undef := by
  unfold lkD
  rw [List.getD_eq_getElem?_getD, List.getElem?_eq_none h]; rfl
theorem rowW_upd {a : Nat → Wk} {w : Nat} {x : Wk} : updRow (rowW a) w 0 (List.map dv (encW x)) = rowW (upd a w x) := by
  funext i j
  have hl : ∀ y : Wk, (List.map dv (encW y)).length = 33 := fun _ => rfl
  unfold updRow
  rw [hl]
  by_cases e : i = w
  · subst e
    rw [show Nat.beq i i = true from Nat.beq_refl i, show Nat.ble 0 j = true from Nat.ble_eq_true_of_le (Nat.zero_le j)]
    simp only [rowW, upd_same, Bool.true_and]
    by_cases hj : j < 33
    · rw [show Nat.blt j (0 + 33) = true from Nat.ble_eq_true_of_le (by omega)]; rfl
    · rw [show Nat.blt j (0 + 33) = false by
        cases h : Nat.blt j (0 + 33) with
        | false => rfl
        | true => exact absurd (Nat.le_of_ble_eq_true h) (by omega)]
      rw [cond_false, lkD_out (by rw [hl]; omega), lkD_out (by rw [hl]; omega)]
  · rw [show Nat.beq i w = false by
      cases h : Nat.beq i w with
      | false => rfl
      | true => exact absurd (Nat.eq_of_beq_eq_true h) e]
    simp only [Bool.false_and, cond_false, rowW, upd_ne e]
theorem rowB_upd {s : Nat → Bool} {w : Nat} {b : Bool} : updRow (rowB s) w 0 [.v (.bool b)] = rowB (upd s w b) := by
  funext i j
  unfold updRow
  by_cases e : i = w
  · subst e
    rw [show Nat.beq i i = true from Nat.beq_refl i, show Nat.ble 0 j = true from Nat.ble_eq_true_of_le (Nat.zero_le j)]
    simp only [rowB, upd_same, Bool.true_and]
    cases j with
    | zero => rfl
    | succ j =>
      rw [show Nat.blt (j + 1) (0 + [DV.v (Value.bool b)].length) = false by
        cases h : Nat.blt (j + 1) (0 + [DV.v (Value.bool b)].length) with
        | false => rfl
        | true => exact absurd (Nat.le_of_ble_eq_true h) (by simp)]
      rw [cond_false, lkD_out (by simp), lkD_out (by simp)]
  · rw [show Nat.beq i w = false by
      cases h : Nat.beq i w with
      | false => rfl
      | true => exact absurd (Nat.eq_of_beq_eq_true h) e]
    simp only [Bool.false_and, cond_false, rowB, upd_ne e]

section
variable {c : Cf} {n : Nat} {m : Mm} {ps : List Int} {a : Nat → Wk} {s : Nat → Bool} {i now : Int} {x0 y0 : Wk}
end

/-- What the round keeps. -/
structure I11 (n : Nat) (m : Mm) (a : Nat → Wk) (s : Nat → Bool) (z : Int) : Prop where
  e : EI n m a s z
  m : okM m = true
  w : ∀ k, k < n → okW (a k) = true

end Go.Sx.Pr

/- Helpers: results with some heap, sizes, addresses. Plain Lean. -/
namespace Go.Sx.Pr
open Go Go.Sx Go.Sx.Md Go.Proofs
set_option maxRecDepth 100000

/-- A run's result, with some heap. -/
def GivesV (o : Option (SV × SH)) (r : SV) : Prop := ∃ H, o = some (r, H)
theorem GivesV.br {b : Bool} {x y : Option (SV × SH)} {r : SV} (h1 : b = true → GivesV x r) (h2 : b = false → GivesV y r) : GivesV (br b x y) r := by
  cases b with
  | true => exact h1 rfl
  | false => exact h2 rfl
theorem bang_t {x y : Int} (h : ¬ x = y) : (!x == y) = true := by simp [h]
theorem bang_f {x y : Int} (h : x = y) : (!x == y) = false := by simp [h]

theorem szC_eq {c : Cf} (h : chkC c = 0) : szC c = ((sizeN c.a.toNat c.b.toNat c.c.toNat c.d.toNat c.e.toNat : Nat) : Int) := by
  have h' : chk c.a c.b c.c c.d c.e c.f c.g c.l = 0 := h
  simp [szC, szZ, h']
theorem u64B_at {ws : List Int} (h : u64B ws = true) {i : Nat} (hi : i < ws.length) : 0 ≤ ws.getD i 0 ∧ ws.getD i 0 ≤ 18446744073709551615 := by
  rw [List.getD_eq_getElem?_getD, List.getElem?_eq_getElem hi]
  have := List.all_eq_true.1 h _ (List.getElem_mem hi)
  simpa using this
theorem u64B_all {ws : List Int} (h : u64B ws = true) (i : Nat) : uB (ws.getD i 0) = true := by
  rw [uB_iff]
  by_cases hi : i < ws.length
  · exact u64B_at h hi
  · rw [List.getD_eq_getElem?_getD, List.getElem?_eq_none (by omega)]; simp
theorem inB_of' {i : Int} {n : Nat} (h0 : 0 ≤ i) (h1 : i < n) : inB i n = true := by simp only [inB, Bool.and_eq_true, decide_eq_true_eq]; exact ⟨h0, h1⟩
end Go.Sx.Pr

/- The contract of the document's List: what the walk along the links gives. -/
namespace Go.Sx.Pr
open Go Go.Sx Go.Sx.Md Go.Proofs
set_option maxRecDepth 100000

theorem nL24 {Ω : Type} (it : Itr Ω) (K : SV → SH → Option Ω) (c : Cf) (ws : List Int) (en : Bool) :
    sxFnI it E50 A50 C50 [.agg (encC c), .d (.ints .u64 ws), B en] [] K =
    br (!chkC c == 0) (K (.tup [.d (DV.v (Value.slice none 0 0)), B false]) [.cells 24 (encC c)]) (br (chkC c == 0) (br (! (↑ (List.length ws) : Int) == (↑ (sizeN (Int.toNat (Cf.a c)) (Int.toNat (Cf.b c)) (Int.toNat (Cf.c c)) (Int.toNat (Cf.d c)) (Int.toNat (Cf.e c))) : Int)) (K (.tup [.d (DV.v (Value.slice none 0 0)), B false]) [.cells 24 (encC c)]) (br en (br (decide (0 ≤ Cf.e c) && fits (Int.toNat (Cf.e c)) 1) (br (inB 2 (List.length ws)) (br (decide (0 ≤ List.getD ws (Int.toNat 2) 0) && true) (it [1, 3, 9, 10, 11, 12, 13] 2 (sxI it E50 A50 L50_5 0) (SS.mk [(1, .d (DV.ints .u64 ws)), (3, .ptr 0 0), (9, I 4), (10, I (Cf.e c)), (11, .d (DV.v (Value.slice none 0 0))), (12, .own 1), (13, U (List.getD ws 2 0 % 4294967296))] [.cells 24 (encC c), .row 4 1 (Int.toNat (Cf.e c)) fun x j => lkD [DV.v (Value.bool false)] j]) (Z50_5 it K)) none) none) none) (br (decide (0 ≤ IntKind.wrap .i64 (Cf.b c * Cf.c c)) && fits (Int.toNat (w64' (Cf.b c * Cf.c c))) 1) (br (inB 1 (List.length ws)) (br (decide (0 ≤ List.getD ws (Int.toNat 1) 0) && true) (it [1, 3, 9, 10, 11, 12, 13] 2 (sxI it E50 A50 L50_5 0) (SS.mk [(1, .d (DV.ints .u64 ws)), (3, .ptr 0 0), (9, I 5), (10, I (w64' (Cf.b c * Cf.c c))), (11, .d (DV.v (Value.slice none 0 0))), (12, .own 1), (13, U (List.getD ws 1 0 % 4294967296))] [.cells 24 (encC c), .row 4 1 (Int.toNat (w64' (Cf.b c * Cf.c c))) fun x j => lkD [DV.v (Value.bool false)] j]) (Z50_5 it K)) none) none) none))) none) := by kernel_rfl
theorem nL25 {Ω : Type} (it : Itr Ω) (IT : SS → Option Ω) (K : SV → SH → Option Ω) (c : Cf) (ws : List Int) (kd many v : Int) (n : Nat) (s : Nat → Bool) :
    sxI it E50 A50 L50_5 0 ⟨[(1, .d (.ints .u64 ws)), (3, .ptr 0 0), (9, I kd), (10, I many), (11, .d (.v (.slice none 0 0))), (12, .own 1), (13, U v)], [.cells 24 (encC c), .row 4 1 n (rowB s)]⟩ (kitV [1, 3, 9, 10, 11, 12, 13] 2 IT (Z50_5 it K)) =
    br (!v == 0) (br (decide (v > wU many)) (K (.tup [.d (DV.v (Value.slice none 0 0)), B false]) [.cells 24 (encC c), .row 4 1 n (rowB s)]) (br (inB (w64' (w64' v - 1)) n) (br (s (Int.toNat (w64' (w64' v - 1)))) (K (.tup [.d (DV.v (Value.slice none 0 0)), B false]) [.cells 24 (encC c), .row 4 1 n (rowB s)]) (br (inB (w64' (w64' v - 1)) n) (br (inB (adr c kd (w64' (w64' v - 1))) (List.length ws)) (br (decide (0 ≤ List.getD ws (Int.toNat (adr c kd (w64' (w64' v - 1)))) 0) && true) (IT (SS.mk [(1, .d (DV.ints .u64 ws)), (3, .ptr 0 0), (9, I kd), (10, I many), (11, .own 3), (12, .own 1), (13, U (List.getD ws (Int.toNat (adr c kd (w64' (w64' v - 1)))) 0 % 4294967296))] [.cells 24 (encC c), .row 4 1 n (updRow (rowB s) (Int.toNat (w64' (w64' v - 1))) 0 [DV.v (Value.bool true)]), .dead, .rowi 3 .i64 [IntKind.wrap .i64 (w64' v - 1)]])) none) none) none)) none)) (K (.tup [.d (DV.v (Value.slice none 0 0)), B true]) [.cells 24 (encC c), .row 4 1 n (rowB s)]) := by kernel_rfl
theorem nL26 {Ω : Type} (it : Itr Ω) (IT : SS → Option Ω) (K : SV → SH → Option Ω) (c : Cf) (ws xs : List Int) (kd many v : Int) (n : Nat) (s : Nat → Bool) :
    sxI it E50 A50 L50_5 0 ⟨[(1, .d (.ints .u64 ws)), (3, .ptr 0 0), (9, I kd), (10, I many), (11, .own 3), (12, .own 1), (13, U v)], [.cells 24 (encC c), .row 4 1 n (rowB s), .dead, .rowi 3 .i64 xs]⟩ (kitV [1, 3, 9, 10, 11, 12, 13] 2 IT (Z50_5 it K)) =
    br (!v == 0) (br (decide (v > wU many)) (K (.tup [.d (DV.v (Value.slice none 0 0)), B false]) [.cells 24 (encC c), .row 4 1 n (rowB s), .dead, .rowi 3 .i64 xs]) (br (inB (w64' (w64' v - 1)) n) (br (s (Int.toNat (w64' (w64' v - 1)))) (K (.tup [.d (DV.v (Value.slice none 0 0)), B false]) [.cells 24 (encC c), .row 4 1 n (rowB s), .dead, .rowi 3 .i64 xs]) (br (inB (w64' (w64' v - 1)) n) (br (fits (List.length xs + 1) 8) (br (inB (adr c kd (w64' (w64' v - 1))) (List.length ws)) (br (decide (0 ≤ List.getD ws (Int.toNat (adr c kd (w64' (w64' v - 1)))) 0) && true) (IT (SS.mk [(1, .d (DV.ints .u64 ws)), (3, .ptr 0 0), (9, I kd), (10, I many), (11, .own 3), (12, .own 1), (13, U (List.getD ws (Int.toNat (adr c kd (w64' (w64' v - 1)))) 0 % 4294967296))] [.cells 24 (encC c), .row 4 1 n (updRow (rowB s) (Int.toNat (w64' (w64' v - 1))) 0 [DV.v (Value.bool true)]), .dead, .rowi 3 .i64 (xs ++ [IntKind.wrap .i64 (w64' v - 1)])])) none) none) none) none)) none)) (K (.tup [.own 3, B true]) [.cells 24 (encC c), .row 4 1 n (rowB s), .dead, .rowi 3 .i64 xs]) := by kernel_rfl

def nxtV (c : Cf) (ws : List Int) (kd i : Int) : Int := ws.getD (adr c kd i).toNat 0 % 4294967296
def kindL (en : Bool) : Int := bif en then 4 else 5
def manyV (c : Cf) (en : Bool) : Int := bif en then c.e else c.b * c.c
def topV (ws : List Int) (en : Bool) : Int := ws.getD (bif en then 2 else 1) 0 % 4294967296
/-- The elements of a free list. -/
def listV (c : Cf) (ws : List Int) (en : Bool) : Option (List Int) :=
  bif (chkC c == 0) && ((ws.length : Int) == szC c) then chase (nxtV c ws (kindL en)) (manyV c en) ((manyV c en).toNat + 1) (topV ws en) [] else none

theorem inBL {c : Cf} {ws : List Int} {en : Bool} (h0 : chkC c = 0) (h1 : (ws.length : Int) = szC c) {i : Int} (hi0 : 0 ≤ i) (hi : i < manyV c en) : inB (adr c (kindL en) i) ws.length = true := by
  have hs := szC_eq h0
  obtain ⟨⟨a1, a2⟩, ⟨b1, b2⟩, ⟨c1, c2⟩, ⟨d1, d2⟩, ⟨e1, e2⟩, _⟩ := chk_zero h0
  have h0' : chk c.a c.b c.c c.d c.e c.f c.g c.l = 0 := h0
  have hz : (sizeN c.a.toNat c.b.toNat c.c.toNat c.d.toNat c.e.toNat : Int) = 3 + c.a + c.b + 2 * c.e + (1 + c.d) * (c.b * c.c) := by
    unfold sizeN
    push_cast
    rw [Int.toNat_of_nonneg (by omega), Int.toNat_of_nonneg (by omega), Int.toNat_of_nonneg (by omega), Int.toNat_of_nonneg (by omega), Int.toNat_of_nonneg (by omega)]
    omega
  cases en with
  | true =>
    have hi' : i < c.e := hi
    show inB (atV c.a c.b c.c c.d c.e c.f c.g c.l 4 i 0) ws.length = true
    rw [at4 h0', if_pos ⟨hi0, hi'⟩]
    refine inB_of' (by omega) ?_
    have : 0 ≤ (1 + c.d) * (c.b * c.c) := Int.mul_nonneg (by omega) (Int.mul_nonneg (by omega) (by omega))
    omega
  | false =>
    have hi' : i < c.b * c.c := hi
    show inB (atV c.a c.b c.c c.d c.e c.f c.g c.l 5 i 0) ws.length = true
    rw [at5 h0', if_pos ⟨hi0, hi'⟩]
    have h2 : 0 ≤ (1 + c.d) * i := Int.mul_nonneg (by omega) hi0
    have h3 : (1 + c.d) * (i + 1) ≤ (1 + c.d) * (c.b * c.c) := Int.mul_le_mul_of_nonneg_left (by omega) (by omega)
    rw [Int.mul_add] at h3
    exact inB_of' (by omega) (by omega)

theorem many_le {c : Cf} {en : Bool} (h0 : chkC c = 0) : 1 ≤ manyV c en ∧ manyV c en ≤ 128 := by
  obtain ⟨⟨a1, a2⟩, ⟨b1, b2⟩, ⟨c1, c2⟩, ⟨d1, d2⟩, ⟨e1, e2⟩, _⟩ := chk_zero h0
  cases en with
  | true => show 1 ≤ c.e ∧ c.e ≤ 128; omega
  | false =>
    show 1 ≤ c.b * c.c ∧ c.b * c.c ≤ 128
    have h1 : c.b * c.c ≤ 8 * c.c := Int.mul_le_mul_of_nonneg_right b2 (by omega)
    have h2 : 1 * c.c ≤ c.b * c.c := Int.mul_le_mul_of_nonneg_right b1 (by omega)
    omega

abbrev SL (c : Cf) (ws : List Int) (kd many v : Int) (n : Nat) (s : Nat → Bool) (xs : List Int) : SS := ⟨[(1, .d (.ints .u64 ws)), (3, .ptr 0 0), (9, I kd), (10, I many), (11, .own 3), (12, .own 1), (13, U v)], [.cells 24 (encC c), .row 4 1 n (rowB s), .dead, .rowi 3 .i64 xs]⟩
abbrev SL0 (c : Cf) (ws : List Int) (kd many v : Int) (n : Nat) (s : Nat → Bool) : SS := ⟨[(1, .d (.ints .u64 ws)), (3, .ptr 0 0), (9, I kd), (10, I many), (11, .d (.v (.slice none 0 0))), (12, .own 1), (13, U v)], [.cells 24 (encC c), .row 4 1 n (rowB s)]⟩
abbrev lvL : List Nat := [1, 3, 9, 10, 11, 12, 13]

/-- What the walk answers. -/
def LRes (R : Option (List Int)) (o : Option (SV × SH)) : Prop := match R with
  | none => ∃ H, o = some (.tup [.d (.v (.slice none 0 0)), B false], H)
  | some [] => ∃ H, o = some (.tup [.d (.v (.slice none 0 0)), B true], H)
  | some (x :: r) => ∃ c n s, o = some (.tup [.own 3, B true], [.cells 24 (encC c), .row 4 1 n (rowB s), .dead, .rowi 3 .i64 (x :: r)])

theorem chase_zero {nx : Int → Int} {many : Int} {f : Nat} {out : List Int} : chase nx many (f + 1) 0 out = some out := by unfold chase; simp
theorem chase_no {nx : Int → Int} {many : Int} {f : Nat} {v : Int} {out : List Int} (h0 : v ≠ 0) (h : v > many ∨ out.contains (v - 1) = true) : chase nx many (f + 1) v out = none := by
  unfold chase
  rw [show (v == 0) = false by simpa using h0, cond_false]
  have : (decide (v > many) || out.contains (v - 1)) = true := by
    rw [Bool.or_eq_true, decide_eq_true_eq]; exact h
  rw [this, cond_true]
theorem chase_go {nx : Int → Int} {many : Int} {f : Nat} {v : Int} {out : List Int} (h0 : v ≠ 0) (h : ¬ v > many) (h2 : out.contains (v - 1) = false) : chase nx many (f + 1) v out = chase nx many f (nx (v - 1)) (out ++ [v - 1]) := by
  conv => lhs; unfold chase
  rw [show (v == 0) = false by simpa using h0, cond_false, decide_eq_false h, h2, Bool.or_false, cond_false]

section
variable {c : Cf} {ws : List Int} {kd many : Int} {n : Nat}
theorem nxt_lt {i : Int} : 0 ≤ nxtV c ws kd i ∧ nxtV c ws kd i < 4294967296 := by unfold nxtV; omega
theorem contains_snoc {xs : List Int} {s : Nat → Bool} {v : Int} (hs : ∀ i, i < n → s i = xs.contains (i : Int)) (h1 : 1 ≤ v) : ∀ i, i < n → upd s (v - 1).toNat true i = (xs ++ [v - 1]).contains (i : Int) := fun i hi => by
  by_cases e : i = (v - 1).toNat
  · subst e
    rw [upd_same]
    simp only [List.contains_eq_mem, List.mem_append, List.mem_singleton]
    symm
    rw [decide_eq_true_eq]
    right; omega
  · rw [upd_ne e, hs i hi]
    simp only [List.contains_eq_mem, List.mem_append, List.mem_singleton]
    have : ¬ (i : Int) = v - 1 := by omega
    simp [this]
theorem nodup_snoc {xs : List Int} {v : Int} (hd : xs.Nodup) (h : xs.contains v = false) : (xs ++ [v]).Nodup := by
  rw [List.nodup_append]
  refine ⟨hd, by simp, fun a ha b hb => ?_⟩
  simp only [List.mem_singleton] at hb
  subst hb
  intro e; subst e
  simp [List.contains_eq_mem, ha] at h

theorem l50 (hw : u64B ws = true) (hm : many = n) (hn : n ≤ 1000) (hA : ∀ i, 0 ≤ i → i < many → inB (adr c kd i) ws.length = true) : ∀ (f N : Nat) (v : Int) (xs : List Int) (s : Nat → Bool), f < N → 0 ≤ v → v < 4294967296 → xs.length + f = n + 1 → xs ≠ [] → xs.Nodup → (∀ i, i ∈ xs → 0 ≤ i ∧ i < (n : Int)) → (∀ i, i < n → s i = xs.contains (i : Int)) →
    LRes (chase (nxtV c ws kd) many f v xs) (iter lvL 2 (sxI itB E50 A50 L50_5 0) N (SL c ws kd many v n s xs) (Z50_5 itB KS))
  | 0, N, v, xs, s, _, _, _, hl, _, hd, hr, _ => by
    have := nodup_le hd hr
    omega
  | f + 1, N, v, xs, s, hN, v0, v1, hl, hx, hd, hr, hs => by
    obtain ⟨N, rfl⟩ : ∃ k, N = k + 1 := ⟨N - 1, by omega⟩
    rw [iter_succ, nL26]
    by_cases h0 : v = 0
    · subst h0
      rw [chase_zero]
      match xs, hx with
      | x :: r, _ => exact ⟨_, _, _, rfl⟩
    · rw [bang_t h0, br_t, show wU many = many from wU_id (by omega) (by omega)]
      by_cases h1 : v > many
      · rw [chase_no h0 (.inl h1), decide_eq_true h1, br_t]
        exact ⟨_, rfl⟩
      · rw [decide_eq_false h1, br_f, w64_id (x := v) (by omega) (by omega), w64_id (x := v - 1) (by omega) (by omega), inB_of' (by omega) (by omega), br_t, hs _ (by omega), Int.toNat_of_nonneg (show 0 ≤ v - 1 by omega)]
        cases h2 : xs.contains (v - 1) with
        | true => rw [chase_no h0 (.inr h2), br_t]; exact ⟨_, rfl⟩
        | false =>
          rw [chase_go h0 h1 h2, br_f, br_t, fits_of (by omega), br_t, hA _ (by omega) (by omega), br_t, decide_eq_true (uB_iff.1 (u64B_all hw _)).1, Bool.and_self, br_t, show IntKind.wrap .i64 (v - 1) = v - 1 from w64_id (by omega) (by omega), rowB_upd]
          have q := @nxt_lt c ws kd (v - 1)
          exact l50 hw hm hn hA f N _ (xs ++ [v - 1]) (upd s (v - 1).toNat true) (by omega) q.1 q.2 (by simp; omega) (by simp) (nodup_snoc hd h2) (fun i hi => by
            rcases List.mem_append.1 hi with h | h
            · exact hr i h
            · simp only [List.mem_singleton] at h; omega) (contains_snoc hs (by omega))

theorem l50' (hw : u64B ws = true) (hm : many = n) (hn0 : 1 ≤ n) (hn : n ≤ 1000) (hA : ∀ i, 0 ≤ i → i < many → inB (adr c kd i) ws.length = true) {v : Int} {s : Nat → Bool} {N : Nat} (hN : n + 1 < N) (v0 : 0 ≤ v) (v1 : v < 4294967296) (hs : ∀ i, s i = false) :
    LRes (chase (nxtV c ws kd) many (n + 1) v []) (iter lvL 2 (sxI itB E50 A50 L50_5 0) N (SL0 c ws kd many v n s) (Z50_5 itB KS)) := by
  obtain ⟨N, rfl⟩ : ∃ k, N = k + 1 := ⟨N - 1, by omega⟩
  rw [iter_succ, nL25]
  by_cases h0 : v = 0
  · subst h0
    rw [chase_zero]
    exact ⟨_, rfl⟩
  · rw [bang_t h0, br_t, show wU many = many from wU_id (by omega) (by omega)]
    by_cases h1 : v > many
    · rw [chase_no h0 (.inl h1), decide_eq_true h1, br_t]
      exact ⟨_, rfl⟩
    · rw [decide_eq_false h1, br_f, w64_id (x := v) (by omega) (by omega), w64_id (x := v - 1) (by omega) (by omega), inB_of' (by omega) (by omega), br_t, hs, br_f, br_t, hA _ (by omega) (by omega), br_t, decide_eq_true (uB_iff.1 (u64B_all hw _)).1, Bool.and_self, br_t, show IntKind.wrap .i64 (v - 1) = v - 1 from w64_id (by omega) (by omega), rowB_upd]
      have q := @nxt_lt c ws kd (v - 1)
      rw [chase_go h0 h1 (by simp)]
      exact l50 hw hm hn hA n N _ [v - 1] (upd s (v - 1).toNat true) (by omega) q.1 q.2 (by simp; omega) (by simp) (by simp) (fun i hi => by simp only [List.mem_singleton] at hi; omega) (contains_snoc (xs := []) (fun i _ => by rw [hs]; rfl) (by omega))
end

theorem v50 {c : Cf} {ws : List Int} {en : Bool} (hw : u64B ws = true) : LRes (listV c ws en) (sxFn E50 A50 C50 [.agg (encC c), .d (.ints .u64 ws), B en] [] KS) := by
  rw [← sxFnI_eq, nL24]
  unfold listV
  by_cases h0 : chkC c = 0
  · rw [bang_f h0, br_f, h0, show ((0 : Int) == 0) = true from rfl, br_t, ← szC_eq h0]
    by_cases h1 : (ws.length : Int) = szC c
    · have hs := szC_eq h0
      obtain ⟨⟨a1, a2⟩, ⟨b1, b2⟩, _, _, ⟨e1, e2⟩, _⟩ := chk_zero h0
      obtain ⟨m1, m2⟩ := many_le (en := en) h0
      have hlen : (3 : Int) ≤ ws.length := by unfold sizeN at hs; omega
      obtain ⟨n, hn⟩ : ∃ n : Nat, manyV c en = n := ⟨(manyV c en).toNat, by omega⟩
      have hA := fun i (p : 0 ≤ i) (q : i < manyV c en) => inBL h0 h1 p q
      rw [bang_f h1, br_f, beq_iff_eq.2 h1, Bool.and_self, cond_true]
      have ht : 0 ≤ topV ws en ∧ topV ws en < 4294967296 := by unfold topV; omega
      have rw0 : (fun x j => lkD [DV.v (Value.bool false)] j) = rowB (fun _ => false) := rfl
      have hfit : (decide (0 ≤ manyV c en) && fits (manyV c en).toNat 1) = true := by
        rw [decide_eq_true (by omega), fits_of (by omega)]; rfl
      cases en with
      | true =>
        have key := l50' (c := c) (ws := ws) (kd := 4) (many := manyV c true) (n := n) hw hn (by omega) (by omega) hA (v := topV ws true) (s := fun _ => false) (N := big) (by unfold big; omega) ht.1 ht.2 (fun _ => rfl)
        have hfit' : (decide (0 ≤ c.e) && fits c.e.toNat 1) = true := hfit
        have hce : c.e = n := hn
        rw [br_t, hfit', br_t, inB_of' (by omega) (by omega), br_t, decide_eq_true (uB_iff.1 (u64B_all hw _)).1, Bool.and_self, br_t, itB_def]
        rw [show (manyV c true).toNat = n by omega]
        have e : c.e.toNat = n := by omega
        rw [e]
        exact key
      | false =>
        have key := l50' (c := c) (ws := ws) (kd := 5) (many := manyV c false) (n := n) hw hn (by omega) (by omega) hA (v := topV ws false) (s := fun _ => false) (N := big) (by unfold big; omega) ht.1 ht.2 (fun _ => rfl)
        have hb : w64' (c.b * c.c) = c.b * c.c := by
          have m2' : c.b * c.c ≤ 128 := m2
          have m1' : 1 ≤ c.b * c.c := m1
          exact w64_id (by omega) (by omega)
        have hfit' : (decide (0 ≤ c.b * c.c) && fits (c.b * c.c).toNat 1) = true := hfit
        rw [br_f, show IntKind.wrap .i64 (c.b * c.c) = c.b * c.c from hb, hb, hfit', br_t, inB_of' (by omega) (by omega), br_t, decide_eq_true (uB_iff.1 (u64B_all hw _)).1, Bool.and_self, br_t, itB_def]
        rw [show (manyV c false).toNat = n by omega]
        have e : (c.b * c.c).toNat = n := by have : c.b * c.c = n := hn; omega
        rw [e]
        exact key
    · have : ((ws.length : Int) == szC c) = false := by simpa using h1
      rw [bang_t h1, br_t, this, Bool.and_false, cond_false]
      exact ⟨_, rfl⟩
  · have : (chkC c == 0) = false := by simpa using h0
    rw [bang_t h0, br_t, this, Bool.false_and, cond_false]
    exact ⟨_, rfl⟩

end Go.Sx.Pr

namespace Go.Sx.Pr
open Go Go.Sx Go.Proofs
set_option maxRecDepth 100000
end Go.Sx.Pr

/- The contract of slices.Index on integers. -/
namespace Go.Sx.Pr
open Go Go.Sx Go.Sx.Md Go.Proofs
set_option maxRecDepth 100000

end Go.Sx.Pr

/- The contract of memory.From. -/
namespace Go.Sx.Pr
open Go Go.Sx Go.Sx.Md Go.Proofs
set_option maxRecDepth 100000

end Go.Sx.Pr

namespace Go.Sx.Pr
open Go Go.Sx Go.Proofs
set_option maxRecDepth 100000
end Go.Sx.Pr

/- The contract of the program's List. -/
namespace Go.Sx.Pr
open Go Go.Sx Go.Sx.Md Go.Proofs
set_option maxRecDepth 100000

end Go.Sx.Pr

/- Pure contracts: functions of data, known by their results as data; nothing of the caller's memory changes. -/
namespace Go.Sx

/-! ### results as data -/
 mutual
/-- A result as data: rows that the callee made become data; a: data of the arguments may stand in it. -/
def dat (a : Bool) (h : SH) : SV → Option SV
  | .d (.v x) => some (.d (.v x))
  | .d x => bif a then some (.d x) else none
  | .own l => match hget h l with
    | .rowi _ k xs => some (.d (.ints k xs))
    | .row _ sz n f => bif a then some (.d (.sl sz n f)) else none
    | _ => none
  | .fn g x y => match datL a h x, datL a h y with
    | some x', some y' => some (.fn g x' y')
    | _, _ => none
  | .agg c => match datL a h c with | some c' => some (.agg c') | none => none
  | .tup c => match datL a h c with | some c' => some (.tup c') | none => none
  | .top => some .top
  | _ => none
def datL (a : Bool) (h : SH) : List SV → Option (List SV)
  | [] => some []
  | x :: r => match dat a h x, datL a h r with
    | some y, some s => some (y :: s)
    | _, _ => none
end

section
variable {a : Bool} {cxq cx' : Cx} {H : SH} {w : World}
 mutual
theorem dat_rep (hG : Gam cxq H w) (hA : a = true → ∀ b, cxq.fz b → cx'.fz b) (hO : ∀ l, liv cxq H l → cx'.fz (cxq.th l)) : ∀ (x y : SV) (u : Value), dat a H x = some y → SRep cxq w x u → SRep cx' w y u
  | .d (.v x), y, u, e, h => by simp only [dat, Option.some.injEq] at e; subst e; simp only [SRep, DRep] at h ⊢; exact h
  | .d (.ints k l), y, u, e, h => by
      simp only [dat] at e
      cases ha : a with
      | false => rw [ha] at e; cases e
      | true =>
        rw [ha] at e; simp only [cond_true, Option.some.injEq] at e; subst e
        simp only [SRep] at h ⊢
        exact DRep.mono (hA ha) (fun _ _ => rfl) _ _ h
  | .d (.sl sz n f), y, u, e, h => by
      simp only [dat] at e
      cases ha : a with
      | false => rw [ha] at e; cases e
      | true =>
        rw [ha] at e; simp only [cond_true, Option.some.injEq] at e; subst e
        simp only [SRep] at h ⊢
        exact DRep.mono (hA ha) (fun _ _ => rfl) _ _ h
  | .own l, y, u, e, h => by
      simp only [dat] at e
      have hobj := hG.obj l
      simp only [SRep] at h
      split at e
      · rename_i t k xs hl
        simp only [Option.some.injEq] at e; subst e
        rw [hl] at hobj
        obtain ⟨hln, hrs, hcp, hz, hh⟩ := hobj
        simp only [SRep, DRep]
        refine ⟨_, _, by rw [← hln]; exact h.2, hcp, fun hn => ?_⟩
        have hpos : 0 < xs.length := List.length_pos_iff.2 hn
        cases hnl : cxq.nl l with
        | true => have := hz hnl; omega
        | false =>
          obtain ⟨t', c', hb, hs, hc⟩ := hh hnl
          refine ⟨cxq.th l, 0, by simp, hO l (by simp [liv, hl, hnl]), fun i hi => ?_⟩
          simp only [World.cell?, ad, hb, Nat.zero_add]
          exact hc i hi
      · rename_i t sz n f hl
        cases ha : a with
        | false => rw [ha] at e; cases e
        | true =>
          rw [ha] at e; simp only [cond_true, Option.some.injEq] at e; subst e
          rw [hl] at hobj
          obtain ⟨hln, hrs, hcp, hz, hh⟩ := hobj
          simp only [SRep, DRep]
          refine ⟨_, _, by rw [← hln]; exact h.2, hcp, fun hn => ?_⟩
          cases hnl : cxq.nl l with
          | true => have := hz hnl; omega
          | false =>
            obtain ⟨t', c', hb, hs, hc⟩ := hh hnl
            refine ⟨cxq.th l, 0, by simp, hO l (by simp [liv, hl, hnl]), fun i hi j hj => ?_⟩
            obtain ⟨x, hx, hd⟩ := hc i hi j hj
            exact ⟨x, by simp [World.cell?, ad, hb, hx], DRep.mono (hA ha) (fun _ _ => rfl) _ _ hd⟩
      · cases e
  | .fn g p q, y, u, e, h => by
      simp only [dat] at e
      split at e
      · rename_i p' q' hp hq
        simp only [Option.some.injEq] at e; subst e
        simp only [SRep] at h ⊢
        obtain ⟨a', b', e1, h1, h2⟩ := h
        exact ⟨a', b', e1, datL_rep hG hA hO p p' a' hp h1, datL_rep hG hA hO q q' b' hq h2⟩
      · cases e
  | .agg c, y, u, e, h => by
      simp only [dat] at e
      split at e
      · rename_i c' hc
        simp only [Option.some.injEq] at e; subst e
        simp only [SRep] at h ⊢
        obtain ⟨v, e1, h1⟩ := h
        exact ⟨v, e1, datL_rep hG hA hO c c' v hc h1⟩
      · cases e
  | .tup c, y, u, e, h => by
      simp only [dat] at e
      split at e
      · rename_i c' hc
        simp only [Option.some.injEq] at e; subst e
        simp only [SRep] at h ⊢
        obtain ⟨v, e1, h1⟩ := h
        exact ⟨v, e1, datL_rep hG hA hO c c' v hc h1⟩
      · cases e
  | .top, y, u, e, h => by simp only [dat, Option.some.injEq] at e; subst e; simp only [SRep]
  | .ptr _ _, y, u, e, h | .pe _ _ _, y, u, e, h | .rp _ _ _, y, u, e, h | .cs _ _ _ _ _, y, u, e, h | .mp _, y, u, e, h => by simp [dat] at e
theorem datL_rep (hG : Gam cxq H w) (hA : a = true → ∀ b, cxq.fz b → cx'.fz b) (hO : ∀ l, liv cxq H l → cx'.fz (cxq.th l)) : ∀ (x y : List SV) (u : List Value), datL a H x = some y → SRepL cxq w x u → SRepL cx' w y u
  | [], y, u, e, h => by simp only [datL, Option.some.injEq] at e; subst e; cases u with
    | nil => simp only [SRepL]
    | cons => simp [SRepL] at h
  | x :: r, y, u, e, h => by
      simp only [datL] at e
      split at e
      · rename_i y' s' h1 h2
        simp only [Option.some.injEq] at e; subst e
        cases u with
        | nil => simp [SRepL] at h
        | cons v vs =>
          simp only [SRepL] at h ⊢
          exact ⟨dat_rep hG hA hO x y' v h1 h.1, datL_rep hG hA hO r s' vs h2 h.2⟩
      · cases e
end
end

/-- What is new is data from now on. -/
def cxN (cx : Cx) (w w' : World) : Cx := { cx with fz := fun b => cx.fz b ∨ (w.heap.size ≤ b ∧ b < w'.heap.size) }

theorem fresh_data {cx : Cx} {h : SH} {w w' : World} (hg : Gam cx h w) (hsame : ∀ b, b < w.heap.size → w'.heap[b]? = w.heap[b]?) (hsz : w.heap.size ≤ w'.heap.size) (hio : Io w w') : Grow0 cx w (cxN cx w w') w' ∧ Gam (cxN cx w w') h w' := by
  have gr2 : Grow0 cx w (cxN cx w w') w' := ⟨fun _ hb => .inl hb, fun b hb => hsame b (hg.fzlt b hb), hsz, fun l hl _ => ⟨hl, rfl, rfl, rfl, rfl, rfl⟩, rfl, hio⟩
  have hlv : ∀ l, liv (cxN cx w w') h l → liv cx h l := fun l hl => hl
  refine ⟨gr2, ⟨hg.n, fun m => ?_, fun m hm => Nat.lt_of_lt_of_le (hg.lt m (hlv m hm)) hsz, fun m hm hhd => ?_, fun a b ha hb => hg.inj a b (hlv a ha) (hlv b hb), fun b hb => ?_, fun b hb hfr => ?_⟩⟩
  · rcases Nat.lt_or_ge m h.length with hm | hm
    · exact ORep.keep (h := h) gr2 (hg.n ▸ hm) _ rfl (fun hv => hsame _ (hg.lt m hv)) (hg.obj m)
    · rw [hget_ge hm]; trivial
  · have h1 := hg.lt m (hlv m hm)
    rcases hhd with (h2 | ⟨h2, h3⟩) | h2
    · exact hg.own m (hlv m hm) (.inl h2)
    · simp only [cxN] at h2; omega
    · exact hg.own m (hlv m hm) (.inr h2)
  · rcases hb with (h2 | ⟨h2, h3⟩) | h2
    · exact Nat.lt_of_lt_of_le (hg.fzlt b (.inl h2)) hsz
    · exact h3
    · exact Nat.lt_of_lt_of_le (hg.fzlt b (.inr h2)) hsz
  · rcases hb with h2 | ⟨h2, h3⟩
    · exact hg.dj b h2 hfr
    · have := hg.fzlt b (.inr hfr); omega

/-! ### arguments: data -/
inductive PT where
  | any
  | g (cts : List CT)
  | s (k : IntKind)

section
variable {cx cx' : Cx} {w : World}
end

/-! ### the contracts -/
def altsP {Ω : Type} (k : SV → List Nat → List Nat → SH → Option Ω) (h : SH) : List (Bool × SV) → Option Ω
  | [] => none
  | (g, r) :: rest => br g (k r [] [] h) (altsP k h rest)
def firstP : List (Bool × SV) → Option SV
  | [] => none
  | (g, r) :: rest => bif g then some r else firstP rest
theorem altsP_first {Ω : Type} {k : SV → List Nat → List Nat → SH → Option Ω} {h : SH} {out : Ω} : ∀ {L : List (Bool × SV)}, altsP k h L = some out → ∃ r, firstP L = some r ∧ k r [] [] h = some out
  | [], e => by cases e
  | (g, r) :: rest, e => by
    simp only [altsP] at e
    rcases br_some e with ⟨rfl, e⟩ | ⟨rfl, e⟩
    · exact ⟨r, rfl, e⟩
    · obtain ⟨r', h1, h2⟩ := altsP_first e
      exact ⟨r', h1, h2⟩
theorem altsP_of {Ω : Type} {k : SV → List Nat → List Nat → SH → Option Ω} {h : SH} : ∀ {L : List (Bool × SV)} {r : SV}, firstP L = some r → altsP k h L = k r [] [] h
  | [], r, e => by cases e
  | (g, r') :: rest, r, e => by
    simp only [firstP] at e
    cases g with
    | true => simp only [cond_true, Option.some.injEq] at e; subst e; rfl
    | false => exact altsP_of (L := rest) e

/-- A function of what is lent to it, whose result is new. -/
def conSpecF (ts : List AT) (F : List (List Int) → List (Bool × SV)) {Ω : Type} : Spec Ω := fun args h k =>
  match lendAs h ts args with
  | some l => altsP k h (F l)
  | none => none

theorem conF_par {ts : List AT} {F : List (List Int) → List (Bool × SV)} {Ω Ω' : Type} : SpecPar (conSpecF ts F (Ω := Ω)) (conSpecF ts F (Ω := Ω')) := by
  intro args h k out hs
  unfold conSpecF at hs ⊢
  split at hs
  · obtain ⟨r, h1, h2⟩ := altsP_first hs
    exact ⟨_, _, _, _, h2, fun k' => altsP_of h1⟩
  · cases hs

theorem enter_fn {P : Program} {g : Nat} {fn : Func} (hf : P.funcs[g]? = some fn) (hname : (fn.name == "runtime.NumGoroutine") = false) {C : CF} (hC : coF P fn = some C) : ∀ (args : Array Value) (w : World), (callFunc g args).run P w = .ok (.enter g args) w := by
  have hbody : ∃ c, fn.body = some c := by
    unfold coF at hC
    split at hC
    · rename_i c hb; exact ⟨c, hb⟩
    · cases hC
  obtain ⟨c, hb⟩ := hbody
  intro args w
  have h1 : fn.name ≠ "runtime.NumGoroutine" := by simpa using hname
  simp [callFunc, hf, h1, hb]

theorem conGoodF {P : Program} {g : Nat} {fn : Func} (hf : P.funcs[g]? = some fn) (hname : (fn.name == "runtime.NumGoroutine") = false) {C : CF} (hC : coF P fn = some C) {A : Ann} {e : {Ω : Type} → Env Ω} (he : GoodE P e) (hmix : P.follows .mixedOrders = true)
    {ts : List AT} {F : List (List Int) → List (Bool × SV)}
    (hrun : ∀ l r, lenAs ts l → firstP (F l) = some r → ∃ r0 y H, sxFn (e (Ω := SV × SH)) A C (encAs ts l) [] (fun r h => some (r, h)) = some (r0, H) ∧ dat false H r0 = some y ∧ ∀ cx w u, SRep cx w y u → SRep cx w r u) :
    Good1 P g (fun {Ω} => conSpecF ts F (Ω := Ω)) := by
  refine ⟨fun Ω => ⟨enter_fn hf hname hC, fun args h k out hs => ?_⟩, fun Ω Ω' => conF_par⟩
  unfold conSpecF at hs
  split at hs
  · rename_i l hl
    obtain ⟨r, hF, hk⟩ := altsP_first hs
    obtain ⟨r0, y, H, hrun, hdat, hle⟩ := hrun l r (lendAs_len hl) hF
    refine ⟨_, [], [], _, hk, ⟨Nat.le_refl _, fun _ _ _ => rfl⟩, fun cx w vals hg ha => ?_⟩
    refine (fn_calls (he.ok _) hmix hf hC hrun (cxA w) w vals (gamL w _) (lendAs_ok hg hl ha)).mono fun e w' ⟨v, cxq, e1, gr, hr, hG⟩ => ?_
    have hsame : ∀ b, b < w.heap.size → w'.heap[b]? = w.heap[b]? := fun b hb => gr.same b (cxL_all hb)
    obtain ⟨k1, k2⟩ := fresh_data hg hsame gr.size gr.io
    have nm : (fun l => nmem l []) = fun _ => false := funext fun l => by simp [nmem]
    rw [nm]
    refine ⟨v, cxN cx w w', e1, k1, hle _ _ _ (dat_rep hG (fun ha => by cases ha) (fun l hl => ?_) _ _ _ hdat hr), k2⟩
    refine .inr ⟨?_, hG.lt l hl⟩
    rcases Nat.lt_or_ge (cxq.th l) w.heap.size with h1 | h1
    · exact absurd (gr.hd _ (cxL_all h1)) (hG.own l hl)
    · exact h1
  · cases hs

/-! ### results that say less: nil lists as empty lists -/
theorem rep_nil {cx : Cx} {w : World} {k : IntKind} {u : Value} (h : SRep cx w (.d (.v (.slice none 0 0))) u) : SRep cx w (.d (.ints k [])) u := by
  simp only [SRep, DRep] at h ⊢
  exact ⟨none, 0, h.1, Nat.le_refl _, fun hn => absurd rfl hn⟩
end Go.Sx

/- The contracts of both layers' List: the elements as data. -/
namespace Go.Sx.Pr
open Go Go.Sx Go.Sx.Md Go.Proofs
set_option maxRecDepth 100000
theorem rep_nilT {b : Bool} : ∀ cx w u, SRep cx w (.tup [.d (.v (.slice none 0 0)), B b]) u → SRep cx w (.tup [.d (.ints .i64 []), B b]) u := fun cx w u h => by
  simp only [SRep] at h ⊢
  obtain ⟨c', rfl, h⟩ := h
  match c', h with
  | [a, b'], h =>
    simp only [SRepL] at h ⊢
    exact ⟨_, rfl, rep_nil h.1, h.2⟩
  | [], h => simp [SRepL] at h
  | [_], h => simp [SRepL] at h
  | _ :: _ :: _ :: _, h => simp [SRepL] at h
/-- A list's elements, and whether it is one. -/
abbrev listR (c : Cf) (ws : List Int) (en : Bool) : SV := .tup [.d (.ints .i64 ((listV c ws en).getD [])), B (listV c ws en).isSome]
def F50f : List (List Int) → List (Bool × SV)
  | [[a, b, c, d, e, f, g, l], ws, [en]] => [(u64B ws, listR ⟨a, b, c, d, e, f, g, l⟩ ws (en == 1))]
  | _ => []
def S50f {Ω : Type} : Spec Ω := conSpecF [.g cfgK, .s .u64, .b] F50f
theorem g50f : Good1 Try.prog 50 S50f := conGoodF Try.func50 (by kernel_rfl) c50 e50 mix (A := A50) fun L r hl hF => by
  obtain ⟨q0, l0, rfl, z0, hl1⟩ := lenAs_cons hl
  obtain ⟨a, b, c, d, e, f, g, l, rfl⟩ := eight z0
  obtain ⟨ws, l1, rfl, z1, hl2⟩ := lenAs_cons hl1
  obtain ⟨q2, l2, rfl, z2, hl3⟩ := lenAs_cons hl2
  obtain ⟨en, rfl⟩ := one_of' z2
  have hz := lenAs_nil hl3
  subst hz
  simp only [F50f, firstP] at hF
  obtain ⟨hw, hF⟩ := cond_some hF
  simp only [Option.some.injEq] at hF
  subst hF
  have hv := v50 (c := ⟨a, b, c, d, e, f, g, l⟩) (en := (en == 1)) hw
  unfold listR
  generalize hR : listV ⟨a, b, c, d, e, f, g, l⟩ ws (en == 1) = R at hv
  match R, hv with
  | none, ⟨H, hH⟩ => exact ⟨_, _, _, hH, rfl, rep_nilT⟩
  | some [], ⟨H, hH⟩ => exact ⟨_, _, _, hH, rfl, rep_nilT⟩
  | some (x :: r'), ⟨c', n', s', hH⟩ => exact ⟨_, _, _, hH, by kernel_rfl, fun _ _ _ h => h⟩
end Go.Sx.Pr
