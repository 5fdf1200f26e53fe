/- HallNone: what the law answers with n workers, and on a configuration that fails its check. -/
import Derived.Test.YtaejdljgfmclpaaGreatH7
import Derived.Test.YtaejdljgfmclpaaGreatM4
import Derived.Test.YtaejdljgfmclpaaGreatR12c
set_option linter.all false
set_option linter.unusedVariables false
set_option linter.unusedSimpArgs false
set_option linter.unnecessarySimpa false
namespace Go.Sx.Pr
open Go Go.Sx Go.Sx.Md Go.Proofs
set_option maxRecDepth 100000
def rhsN (c : Cf) : Option SV :=
  br (!chkC c == 0) (br (!chkC c == 0) (br (!chkC c == 0) (some (B !chk c.a c.b c.c c.d c.e c.f c.g c.l == 0)) (some (B !chk c.a c.b c.c c.d c.e c.f c.g c.l == 0))) none)
   (br (fits (flC c).length 8)
     (br (!chk c.a c.b c.c c.d c.e c.f c.g c.l == 0) (br (decide ((flC c).length < 1000000000)) (some (B (decide (flC c = [])))) none)
       (br (decide ((flC c).length < 1000000000)) (some (B (decide (flC c = fl (sizeN c.a.toNat c.b.toNat c.c.toNat c.d.toNat c.e.toNat) (3 + c.a.toNat + c.b.toNat) c.e.toNat c.e.toNat)))) none)) none)
def KV : SV → SH → Option SV := fun r _ => some r
theorem rhsN_of {c : Cf} (h : chkC c = 0) : rhsN c = some (B true) := by
  have h1 := flC_len h
  have h2 := szC_le h
  unfold rhsN
  rw [bang_f h, br_f, fits_of (by omega), br_t, bang_f (show chk c.a c.b c.c c.d c.e c.f c.g c.l = 0 from h), br_f, decide_eq_true (show (flC c).length < 1000000000 by omega), br_t, decide_eq_true (show flC c = fl _ _ _ _ from rfl)]
theorem ks_of {E : {Ω : Type} → Env Ω} (he : GoodE Tryz.prog E) {A : Ann} {C : CF} {args : List SV} (h : sxFn (E (Ω := SV)) A C args [] KV = some (B true)) : ∃ H, sxFn (E (Ω := SV × SH)) A C args [] KS = some (B true, H) := by
  obtain ⟨r, h', h1, h2⟩ := sxFn_par (he.par SV (SV × SH)) h
  simp only [KV, Option.some.injEq] at h1
  subst h1
  exact ⟨h', h2 _⟩

/-! ### a configuration that fails its check -/
def F34n (v : Int) : List (List Int) → List (Bool × SV × SH)
  | [[a, b, c, d, e, f, g, l]] => [(chkC ⟨a, b, c, d, e, f, g, l⟩ == v, .tup [.d (.v (.pointer none)), I v], [])]
  | _ => []
def S34n (v : Int) {Ω : Type} : Spec Ω := conSpecL [.g cfgK] (F34n v)
theorem g34n {v : Int} (h : v ≠ 0) : Good1 Tryz.prog 25 (S34n v) := conGoodL Tryz.func25 (by kernel_rfl) c34 e34 mix (A := A34) fun L r hr hl hF => by
  obtain ⟨q0, l0, rfl, z0, hl1⟩ := lenAs_cons hl
  obtain ⟨a, b, c, d, e, f, g, l, rfl⟩ := eight z0
  have hz := lenAs_nil hl1
  subst hz
  simp only [F34n, firstAlt] at hF
  by_cases h0 : chkC ⟨a, b, c, d, e, f, g, l⟩ = v
  · rw [beq_iff_eq.2 h0, cond_true] at hF
    simp only [Option.some.injEq, Prod.mk.injEq] at hF
    obtain ⟨rfl, rfl⟩ := hF
    have hv := bad34 (c := ⟨a, b, c, d, e, f, g, l⟩) (by rw [h0]; exact h)
    rw [h0] at hv
    exact ⟨⟨trivial, trivial, trivial⟩, trivial, [], [.cells 24 (encC ⟨a, b, c, d, e, f, g, l⟩)], RowEq.refl _, trim_none rfl _, hv⟩
  · rw [beq_false_of_ne h0, cond_false] at hF
    cases hF
def E1182n (v : Int) {Ω : Type} : Env Ω := econs 25 (S34n v) (econs 26 S1194 (econs 27 S1195 (econs 29 S1197 (econs 30 S1198 (enil)))))
theorem e1182n {v : Int} (h : v ≠ 0) : GoodE Tryz.prog (E1182n v) := GoodE.cons (g34n h) (GoodE.cons g1194 (GoodE.cons g1195 (GoodE.cons g1197 (GoodE.cons g1198 (GoodE.nil)))))
def S1182n (v : Int) {Ω : Type} : Spec Ω := inl (E1182n v) { A1182 with mc := true } C1182 false
theorem g1182n {v : Int} (h : v ≠ 0) : Good1 Tryz.prog 7 (S1182n v) := Good1.inl (e1182n h) mix Tryz.func7 (by kernel_rfl) c1182 { A1182 with mc := true } false
def E1170n (v : Int) {Ω : Type} : Env Ω := econs 7 (S1182n v) E1170
theorem e1170n {v : Int} (h : v ≠ 0) : GoodE Tryz.prog (E1170n v) := GoodE.cons (g1182n h) e1170
theorem hnP (j : Nat) (c : Cf) (w : Int) : sxFn (E1170n (Int.ofNat (Nat.succ j))) A1170 C1170 [.agg (encC c), I w] [] KV =
    br (chkC c == Int.ofNat (Nat.succ j)) (some (B !chk c.a c.b c.c c.d c.e c.f c.g c.l == 0)) none := by kernel_rfl
theorem hnM (j : Nat) (c : Cf) (w : Int) : sxFn (E1170n (Int.negSucc j)) A1170 C1170 [.agg (encC c), I w] [] KV =
    br (chkC c == Int.negSucc j) (some (B !chk c.a c.b c.c c.d c.e c.f c.g c.l == 0)) none := by kernel_rfl
theorem mainBad {c : Cf} {w : Int} (h : ¬ chkC c = 0) : ∃ H, sxFn (E1170n (chkC c)) A1170 C1170 [.agg (encC c), I w] [] KS = some (B true, H) := by
  refine ks_of (e1170n h) ?_
  have hb : (!chk c.a c.b c.c c.d c.e c.f c.g c.l == 0) = true := bang_t h
  cases e : chkC c with
  | ofNat k => cases k with
    | zero => exact absurd e h
    | succ j => rw [hnP, e, beq_self_eq_true, br_t, hb]
  | negSucc j => rw [hnM, e, beq_self_eq_true, br_t, hb]
end Go.Sx.Pr

/- HallNone with 1 workers: the run on each worker, and on none. -/
namespace Go.Sx.Pr
open Go Go.Sx Go.Sx.Md Go.Proofs
set_option maxRecDepth 100000
theorem hn1_0 (c : Cf) : sxFn E1170 A1170 C1170 [.agg (encC { c with a := 1 }), I 0] [] KV = rhsN { c with a := 1 } := by kernel_rfl
theorem hn1_n (c : Cf) (k : Nat) : sxFn E1170 A1170 C1170 [.agg (encC { c with a := 1 }), I (Int.negSucc k)] [] KV = rhsN { c with a := 1 } := by kernel_rfl
theorem hn1_p (c : Cf) (k : Nat) : sxFn E1170 A1170 C1170 [.agg (encC { c with a := 1 }), I (Int.ofNat (k + 1))] [] KV = rhsN { c with a := 1 } := by kernel_rfl
theorem hn1 (c : Cf) (w : Int) : sxFn E1170 A1170 C1170 [.agg (encC { c with a := 1 }), I w] [] KV = rhsN { c with a := 1 } := by
  cases w with
  | negSucc k => exact hn1_n c k
  | ofNat m =>
    rcases Nat.lt_or_ge m 1 with h | h
    · have hm : m = 0 := by omega
      rcases hm with rfl
      · exact hn1_0 c
    · obtain ⟨k, rfl⟩ := Nat.exists_eq_add_of_le' h
      exact hn1_p c k
end Go.Sx.Pr

/- HallNone with 2 workers: the run on each worker, and on none. -/
namespace Go.Sx.Pr
open Go Go.Sx Go.Sx.Md Go.Proofs
set_option maxRecDepth 100000
theorem hn2_0 (c : Cf) : sxFn E1170 A1170 C1170 [.agg (encC { c with a := 2 }), I 0] [] KV = rhsN { c with a := 2 } := by kernel_rfl
theorem hn2_1 (c : Cf) : sxFn E1170 A1170 C1170 [.agg (encC { c with a := 2 }), I 1] [] KV = rhsN { c with a := 2 } := by kernel_rfl
theorem hn2_n (c : Cf) (k : Nat) : sxFn E1170 A1170 C1170 [.agg (encC { c with a := 2 }), I (Int.negSucc k)] [] KV = rhsN { c with a := 2 } := by kernel_rfl
theorem hn2_p (c : Cf) (k : Nat) : sxFn E1170 A1170 C1170 [.agg (encC { c with a := 2 }), I (Int.ofNat (k + 2))] [] KV = rhsN { c with a := 2 } := by kernel_rfl
theorem hn2 (c : Cf) (w : Int) : sxFn E1170 A1170 C1170 [.agg (encC { c with a := 2 }), I w] [] KV = rhsN { c with a := 2 } := by
  cases w with
  | negSucc k => exact hn2_n c k
  | ofNat m =>
    rcases Nat.lt_or_ge m 2 with h | h
    · have hm : m = 0 ∨ m = 1 := by omega
      rcases hm with rfl | rfl
      · exact hn2_0 c
      · exact hn2_1 c
    · obtain ⟨k, rfl⟩ := Nat.exists_eq_add_of_le' h
      exact hn2_p c k
end Go.Sx.Pr

/- HallNone with 3 workers: the run on each worker, and on none. -/
namespace Go.Sx.Pr
open Go Go.Sx Go.Sx.Md Go.Proofs
set_option maxRecDepth 100000
theorem hn3_0 (c : Cf) : sxFn E1170 A1170 C1170 [.agg (encC { c with a := 3 }), I 0] [] KV = rhsN { c with a := 3 } := by kernel_rfl
theorem hn3_1 (c : Cf) : sxFn E1170 A1170 C1170 [.agg (encC { c with a := 3 }), I 1] [] KV = rhsN { c with a := 3 } := by kernel_rfl
theorem hn3_2 (c : Cf) : sxFn E1170 A1170 C1170 [.agg (encC { c with a := 3 }), I 2] [] KV = rhsN { c with a := 3 } := by kernel_rfl
theorem hn3_n (c : Cf) (k : Nat) : sxFn E1170 A1170 C1170 [.agg (encC { c with a := 3 }), I (Int.negSucc k)] [] KV = rhsN { c with a := 3 } := by kernel_rfl
theorem hn3_p (c : Cf) (k : Nat) : sxFn E1170 A1170 C1170 [.agg (encC { c with a := 3 }), I (Int.ofNat (k + 3))] [] KV = rhsN { c with a := 3 } := by kernel_rfl
theorem hn3 (c : Cf) (w : Int) : sxFn E1170 A1170 C1170 [.agg (encC { c with a := 3 }), I w] [] KV = rhsN { c with a := 3 } := by
  cases w with
  | negSucc k => exact hn3_n c k
  | ofNat m =>
    rcases Nat.lt_or_ge m 3 with h | h
    · have hm : m = 0 ∨ m = 1 ∨ m = 2 := by omega
      rcases hm with rfl | rfl | rfl
      · exact hn3_0 c
      · exact hn3_1 c
      · exact hn3_2 c
    · obtain ⟨k, rfl⟩ := Nat.exists_eq_add_of_le' h
      exact hn3_p c k
end Go.Sx.Pr

/- HallNone with 4 workers: the run on each worker, and on none. -/
namespace Go.Sx.Pr
open Go Go.Sx Go.Sx.Md Go.Proofs
set_option maxRecDepth 100000
theorem hn4_0 (c : Cf) : sxFn E1170 A1170 C1170 [.agg (encC { c with a := 4 }), I 0] [] KV = rhsN { c with a := 4 } := by kernel_rfl
theorem hn4_1 (c : Cf) : sxFn E1170 A1170 C1170 [.agg (encC { c with a := 4 }), I 1] [] KV = rhsN { c with a := 4 } := by kernel_rfl
theorem hn4_2 (c : Cf) : sxFn E1170 A1170 C1170 [.agg (encC { c with a := 4 }), I 2] [] KV = rhsN { c with a := 4 } := by kernel_rfl
theorem hn4_3 (c : Cf) : sxFn E1170 A1170 C1170 [.agg (encC { c with a := 4 }), I 3] [] KV = rhsN { c with a := 4 } := by kernel_rfl
theorem hn4_n (c : Cf) (k : Nat) : sxFn E1170 A1170 C1170 [.agg (encC { c with a := 4 }), I (Int.negSucc k)] [] KV = rhsN { c with a := 4 } := by kernel_rfl
theorem hn4_p (c : Cf) (k : Nat) : sxFn E1170 A1170 C1170 [.agg (encC { c with a := 4 }), I (Int.ofNat (k + 4))] [] KV = rhsN { c with a := 4 } := by kernel_rfl
theorem hn4 (c : Cf) (w : Int) : sxFn E1170 A1170 C1170 [.agg (encC { c with a := 4 }), I w] [] KV = rhsN { c with a := 4 } := by
  cases w with
  | negSucc k => exact hn4_n c k
  | ofNat m =>
    rcases Nat.lt_or_ge m 4 with h | h
    · have hm : m = 0 ∨ m = 1 ∨ m = 2 ∨ m = 3 := by omega
      rcases hm with rfl | rfl | rfl | rfl
      · exact hn4_0 c
      · exact hn4_1 c
      · exact hn4_2 c
      · exact hn4_3 c
    · obtain ⟨k, rfl⟩ := Nat.exists_eq_add_of_le' h
      exact hn4_p c k
end Go.Sx.Pr

/- HallNone with 5 workers: the run on each worker, and on none. -/
namespace Go.Sx.Pr
open Go Go.Sx Go.Sx.Md Go.Proofs
set_option maxRecDepth 100000
theorem hn5_0 (c : Cf) : sxFn E1170 A1170 C1170 [.agg (encC { c with a := 5 }), I 0] [] KV = rhsN { c with a := 5 } := by kernel_rfl
theorem hn5_1 (c : Cf) : sxFn E1170 A1170 C1170 [.agg (encC { c with a := 5 }), I 1] [] KV = rhsN { c with a := 5 } := by kernel_rfl
theorem hn5_2 (c : Cf) : sxFn E1170 A1170 C1170 [.agg (encC { c with a := 5 }), I 2] [] KV = rhsN { c with a := 5 } := by kernel_rfl
theorem hn5_3 (c : Cf) : sxFn E1170 A1170 C1170 [.agg (encC { c with a := 5 }), I 3] [] KV = rhsN { c with a := 5 } := by kernel_rfl
theorem hn5_4 (c : Cf) : sxFn E1170 A1170 C1170 [.agg (encC { c with a := 5 }), I 4] [] KV = rhsN { c with a := 5 } := by kernel_rfl
theorem hn5_n (c : Cf) (k : Nat) : sxFn E1170 A1170 C1170 [.agg (encC { c with a := 5 }), I (Int.negSucc k)] [] KV = rhsN { c with a := 5 } := by kernel_rfl
theorem hn5_p (c : Cf) (k : Nat) : sxFn E1170 A1170 C1170 [.agg (encC { c with a := 5 }), I (Int.ofNat (k + 5))] [] KV = rhsN { c with a := 5 } := by kernel_rfl
theorem hn5 (c : Cf) (w : Int) : sxFn E1170 A1170 C1170 [.agg (encC { c with a := 5 }), I w] [] KV = rhsN { c with a := 5 } := by
  cases w with
  | negSucc k => exact hn5_n c k
  | ofNat m =>
    rcases Nat.lt_or_ge m 5 with h | h
    · have hm : m = 0 ∨ m = 1 ∨ m = 2 ∨ m = 3 ∨ m = 4 := by omega
      rcases hm with rfl | rfl | rfl | rfl | rfl
      · exact hn5_0 c
      · exact hn5_1 c
      · exact hn5_2 c
      · exact hn5_3 c
      · exact hn5_4 c
    · obtain ⟨k, rfl⟩ := Nat.exists_eq_add_of_le' h
      exact hn5_p c k
end Go.Sx.Pr

/- HallNone with 6 workers: the run on each worker, and on none. -/
namespace Go.Sx.Pr
open Go Go.Sx Go.Sx.Md Go.Proofs
set_option maxRecDepth 100000
theorem hn6_0 (c : Cf) : sxFn E1170 A1170 C1170 [.agg (encC { c with a := 6 }), I 0] [] KV = rhsN { c with a := 6 } := by kernel_rfl
theorem hn6_1 (c : Cf) : sxFn E1170 A1170 C1170 [.agg (encC { c with a := 6 }), I 1] [] KV = rhsN { c with a := 6 } := by kernel_rfl
theorem hn6_2 (c : Cf) : sxFn E1170 A1170 C1170 [.agg (encC { c with a := 6 }), I 2] [] KV = rhsN { c with a := 6 } := by kernel_rfl
theorem hn6_3 (c : Cf) : sxFn E1170 A1170 C1170 [.agg (encC { c with a := 6 }), I 3] [] KV = rhsN { c with a := 6 } := by kernel_rfl
theorem hn6_4 (c : Cf) : sxFn E1170 A1170 C1170 [.agg (encC { c with a := 6 }), I 4] [] KV = rhsN { c with a := 6 } := by kernel_rfl
theorem hn6_5 (c : Cf) : sxFn E1170 A1170 C1170 [.agg (encC { c with a := 6 }), I 5] [] KV = rhsN { c with a := 6 } := by kernel_rfl
theorem hn6_n (c : Cf) (k : Nat) : sxFn E1170 A1170 C1170 [.agg (encC { c with a := 6 }), I (Int.negSucc k)] [] KV = rhsN { c with a := 6 } := by kernel_rfl
theorem hn6_p (c : Cf) (k : Nat) : sxFn E1170 A1170 C1170 [.agg (encC { c with a := 6 }), I (Int.ofNat (k + 6))] [] KV = rhsN { c with a := 6 } := by kernel_rfl
theorem hn6 (c : Cf) (w : Int) : sxFn E1170 A1170 C1170 [.agg (encC { c with a := 6 }), I w] [] KV = rhsN { c with a := 6 } := by
  cases w with
  | negSucc k => exact hn6_n c k
  | ofNat m =>
    rcases Nat.lt_or_ge m 6 with h | h
    · have hm : m = 0 ∨ m = 1 ∨ m = 2 ∨ m = 3 ∨ m = 4 ∨ m = 5 := by omega
      rcases hm with rfl | rfl | rfl | rfl | rfl | rfl
      · exact hn6_0 c
      · exact hn6_1 c
      · exact hn6_2 c
      · exact hn6_3 c
      · exact hn6_4 c
      · exact hn6_5 c
    · obtain ⟨k, rfl⟩ := Nat.exists_eq_add_of_le' h
      exact hn6_p c k
end Go.Sx.Pr

/- HallNone with 7 workers: the run on each worker, and on none. -/
namespace Go.Sx.Pr
open Go Go.Sx Go.Sx.Md Go.Proofs
set_option maxRecDepth 100000
theorem hn7_0 (c : Cf) : sxFn E1170 A1170 C1170 [.agg (encC { c with a := 7 }), I 0] [] KV = rhsN { c with a := 7 } := by kernel_rfl
theorem hn7_1 (c : Cf) : sxFn E1170 A1170 C1170 [.agg (encC { c with a := 7 }), I 1] [] KV = rhsN { c with a := 7 } := by kernel_rfl
theorem hn7_2 (c : Cf) : sxFn E1170 A1170 C1170 [.agg (encC { c with a := 7 }), I 2] [] KV = rhsN { c with a := 7 } := by kernel_rfl
theorem hn7_3 (c : Cf) : sxFn E1170 A1170 C1170 [.agg (encC { c with a := 7 }), I 3] [] KV = rhsN { c with a := 7 } := by kernel_rfl
theorem hn7_4 (c : Cf) : sxFn E1170 A1170 C1170 [.agg (encC { c with a := 7 }), I 4] [] KV = rhsN { c with a := 7 } := by kernel_rfl
theorem hn7_5 (c : Cf) : sxFn E1170 A1170 C1170 [.agg (encC { c with a := 7 }), I 5] [] KV = rhsN { c with a := 7 } := by kernel_rfl
theorem hn7_6 (c : Cf) : sxFn E1170 A1170 C1170 [.agg (encC { c with a := 7 }), I 6] [] KV = rhsN { c with a := 7 } := by kernel_rfl
theorem hn7_n (c : Cf) (k : Nat) : sxFn E1170 A1170 C1170 [.agg (encC { c with a := 7 }), I (Int.negSucc k)] [] KV = rhsN { c with a := 7 } := by kernel_rfl
theorem hn7_p (c : Cf) (k : Nat) : sxFn E1170 A1170 C1170 [.agg (encC { c with a := 7 }), I (Int.ofNat (k + 7))] [] KV = rhsN { c with a := 7 } := by kernel_rfl
theorem hn7 (c : Cf) (w : Int) : sxFn E1170 A1170 C1170 [.agg (encC { c with a := 7 }), I w] [] KV = rhsN { c with a := 7 } := by
  cases w with
  | negSucc k => exact hn7_n c k
  | ofNat m =>
    rcases Nat.lt_or_ge m 7 with h | h
    · have hm : m = 0 ∨ m = 1 ∨ m = 2 ∨ m = 3 ∨ m = 4 ∨ m = 5 ∨ m = 6 := by omega
      rcases hm with rfl | rfl | rfl | rfl | rfl | rfl | rfl
      · exact hn7_0 c
      · exact hn7_1 c
      · exact hn7_2 c
      · exact hn7_3 c
      · exact hn7_4 c
      · exact hn7_5 c
      · exact hn7_6 c
    · obtain ⟨k, rfl⟩ := Nat.exists_eq_add_of_le' h
      exact hn7_p c k
end Go.Sx.Pr

/- HallNone with 8 workers: the run on each worker, and on none. -/
namespace Go.Sx.Pr
open Go Go.Sx Go.Sx.Md Go.Proofs
set_option maxRecDepth 100000
theorem hn8_0 (c : Cf) : sxFn E1170 A1170 C1170 [.agg (encC { c with a := 8 }), I 0] [] KV = rhsN { c with a := 8 } := by kernel_rfl
theorem hn8_1 (c : Cf) : sxFn E1170 A1170 C1170 [.agg (encC { c with a := 8 }), I 1] [] KV = rhsN { c with a := 8 } := by kernel_rfl
theorem hn8_2 (c : Cf) : sxFn E1170 A1170 C1170 [.agg (encC { c with a := 8 }), I 2] [] KV = rhsN { c with a := 8 } := by kernel_rfl
theorem hn8_3 (c : Cf) : sxFn E1170 A1170 C1170 [.agg (encC { c with a := 8 }), I 3] [] KV = rhsN { c with a := 8 } := by kernel_rfl
theorem hn8_4 (c : Cf) : sxFn E1170 A1170 C1170 [.agg (encC { c with a := 8 }), I 4] [] KV = rhsN { c with a := 8 } := by kernel_rfl
theorem hn8_5 (c : Cf) : sxFn E1170 A1170 C1170 [.agg (encC { c with a := 8 }), I 5] [] KV = rhsN { c with a := 8 } := by kernel_rfl
theorem hn8_6 (c : Cf) : sxFn E1170 A1170 C1170 [.agg (encC { c with a := 8 }), I 6] [] KV = rhsN { c with a := 8 } := by kernel_rfl
theorem hn8_7 (c : Cf) : sxFn E1170 A1170 C1170 [.agg (encC { c with a := 8 }), I 7] [] KV = rhsN { c with a := 8 } := by kernel_rfl
theorem hn8_n (c : Cf) (k : Nat) : sxFn E1170 A1170 C1170 [.agg (encC { c with a := 8 }), I (Int.negSucc k)] [] KV = rhsN { c with a := 8 } := by kernel_rfl
theorem hn8_p (c : Cf) (k : Nat) : sxFn E1170 A1170 C1170 [.agg (encC { c with a := 8 }), I (Int.ofNat (k + 8))] [] KV = rhsN { c with a := 8 } := by kernel_rfl
theorem hn8 (c : Cf) (w : Int) : sxFn E1170 A1170 C1170 [.agg (encC { c with a := 8 }), I w] [] KV = rhsN { c with a := 8 } := by
  cases w with
  | negSucc k => exact hn8_n c k
  | ofNat m =>
    rcases Nat.lt_or_ge m 8 with h | h
    · have hm : m = 0 ∨ m = 1 ∨ m = 2 ∨ m = 3 ∨ m = 4 ∨ m = 5 ∨ m = 6 ∨ m = 7 := by omega
      rcases hm with rfl | rfl | rfl | rfl | rfl | rfl | rfl | rfl
      · exact hn8_0 c
      · exact hn8_1 c
      · exact hn8_2 c
      · exact hn8_3 c
      · exact hn8_4 c
      · exact hn8_5 c
      · exact hn8_6 c
      · exact hn8_7 c
    · obtain ⟨k, rfl⟩ := Nat.exists_eq_add_of_le' h
      exact hn8_p c k
end Go.Sx.Pr

/- HallNone: the law answers true on symbolic arguments. -/
namespace Go.Sx.Pr
open Go Go.Sx Go.Sx.Md Go.Proofs
set_option maxRecDepth 100000
theorem mainGood {c : Cf} {w : Int} (h : chkC c = 0) : ∃ H, sxFn E1170 A1170 C1170 [.agg (encC c), I w] [] KS = some (B true, H) := by
  obtain ⟨⟨a1, a2⟩, _⟩ := chk_zero h
  refine ks_of e1170 ?_
  have hm : c.a = 1 ∨ c.a = 2 ∨ c.a = 3 ∨ c.a = 4 ∨ c.a = 5 ∨ c.a = 6 ∨ c.a = 7 ∨ c.a = 8 := by omega
  obtain ⟨a, b, c, d, e, f, g, l⟩ := c
  rcases hm with h0 | h0 | h0 | h0 | h0 | h0 | h0 | h0 <;> (simp only at h0; subst h0)
  · exact (hn1 ⟨1, b, c, d, e, f, g, l⟩ w).trans (rhsN_of h)
  · exact (hn2 ⟨2, b, c, d, e, f, g, l⟩ w).trans (rhsN_of h)
  · exact (hn3 ⟨3, b, c, d, e, f, g, l⟩ w).trans (rhsN_of h)
  · exact (hn4 ⟨4, b, c, d, e, f, g, l⟩ w).trans (rhsN_of h)
  · exact (hn5 ⟨5, b, c, d, e, f, g, l⟩ w).trans (rhsN_of h)
  · exact (hn6 ⟨6, b, c, d, e, f, g, l⟩ w).trans (rhsN_of h)
  · exact (hn7 ⟨7, b, c, d, e, f, g, l⟩ w).trans (rhsN_of h)
  · exact (hn8 ⟨8, b, c, d, e, f, g, l⟩ w).trans (rhsN_of h)
theorem mainH (c : Cf) (w : Int) : ∃ E : {Ω : Type} → Env Ω, GoodE Tryz.prog E ∧ ∃ H, sxFn E A1170 C1170 [.agg (encC c), I w] [] KS = some (B true, H) := by
  by_cases h : chkC c = 0
  · exact ⟨E1170, e1170, mainGood h⟩
  · exact ⟨E1170n (chkC c), e1170n h, mainBad h⟩
end Go.Sx.Pr

/- A worker's state as an argument of a law. -/
namespace Go.Sx.Pr
open Go Go.Sx Go.Sx.Md Go.Proofs Go.ChangeShapes Go.WideShapes Go.ChangeAt Go.RowKit
set_option maxRecDepth 100000

section
variable {H : Type} {enc : TypeId × Value → H} {w : World}
end
end Go.Sx.Pr

/- A list of bytes as an argument of a law. -/
namespace Go.Sx.Pr
open Go Go.Sx Go.Proofs Go.ChangeShapes Go.WideShapes Go.ChangeAt Go.RowKit
set_option maxRecDepth 100000
section
variable {H : Type} {enc : TypeId × Value → H} {w : World}
end
end Go.Sx.Pr
