/- coatchecklaw08.SlabClaims returns true for every input, and its arguments read afterwards as before. -/
import Derived.Test.YtljmncdlehinnaaPC
import Derived.Test.YtljmncdlehinnaaPC
import Derived.Test.YtljmncdlehinnaaPC
set_option linter.all false
set_option linter.unusedVariables false
set_option linter.unusedSimpArgs false
set_option linter.unnecessarySimpa false
namespace Go.Sx.Pr
open Go Go.Sx Go.Sx.Md Go.Proofs
theorem walk1001 {w : World} {v0 v1 v2 v3 : Value} {n0 : Int} (u0 : 0 ≤ n0 ∧ n0 ≤ 255) {n1 : Int} (u1 : 0 ≤ n1 ∧ n1 ≤ 255) {n2 : Int} (u2 : 0 ≤ n2 ∧ n2 ≤ 255) {w3 : List Int} (u3 : ∀ x, x ∈ w3 → 0 ≤ x ∧ x ≤ 255)
    (s0 : SRep (cx0 w) w (.d (.v (.int .u8 n0))) v0) (s1 : SRep (cx0 w) w (.d (.v (.int .u8 n1))) v1) (s2 : SRep (cx0 w) w (.d (.v (.int .u8 n2))) v2) (s3 : SRep (cx0 w) w (.d (.ints .u8 w3)) v3) :
    Calls Try.prog 3 #[v0, v1, v2, v3] w fun e w' => e = .returned (.bool true) ∧ RowKit.Grown w w' ∧ ∀ b, b < w.heap.size → w'.heap[b]? = w.heap[b]? := by
  obtain ⟨H, hrun⟩ := mainS u0 u1 u2 u3
  exact law_calls (e1001.ok _) mix Try.func3 c1001 hrun (vals := [v0, v1, v2, v3]) (by simp only [SRepL, and_true]; exact ⟨s0, s1, s2, s3⟩)
end Go.Sx.Pr
namespace Go.Proofs.Ytljmncdlehinnaa.slabClaims
open Go.Sx Go.Sx.Pr Go.Sx.Md
open Go.ChangeShapes Go.WideShapes Go.ChangeAt Go.RowKit

theorem own : ownKnob Try.prog.godebug = none := by kernel_rfl

set_option maxRecDepth 100000 in
theorem lifted (os : Os) (started : os.Started) (H : Type) (enc : TypeId × Value → H) :
    ReturnsInHanded {} Try.checked os 3 .any (Rows.slabClaimsSpec.pre6 enc Try.prog Try.f3 Rows.slabClaimsRow.domain false) (Rows.slabClaimsSpec.post enc Try.prog Try.f3 false true false false) := by
  refine returnsInHanded_of_change (C := Try.checked) own started (by kernel_rfl) Try.func3
    (ChangeSpec.witness6 (enc := enc) (C := Try.checked) false ⟨#[], #[.int .u8 0, .int .u8 0, .int .u8 0, .slice none 0 0], []⟩ 8 (by kernel_rfl) (by kernel_rfl) (by kernel_rfl) (by kernel_rfl)) ?_
  intro W base args ds gs before hval0 hW hcnd _
  have hval : ∀ (j : Nat) t v, Try.f3.params[j]? = some t → args[j]? = some v → Value.okWide Try.prog W .any base t v := hval0
  have hW' := hW
  obtain ⟨p, q, hA0, hV, rfl, hfz, hnd⟩ := hW
  have hA : DataW.TrodAll enc Try.prog W 0 (fun _ => true) true Try.f3.params.toList args.toList ds p := hA0
  rw [Try.params3] at hA hval
  have hAll := hA
  obtain ⟨v0, vs0, d0, ds0, p0, q0, hargs, rfl, rfl, h0, r0⟩ := trodAll_cons hA
  obtain ⟨v1, vs1, d1, ds1, p1, q1, rfl, rfl, rfl, h1, r1⟩ := trodAll_cons r0
  obtain ⟨v2, vs2, d2, ds2, p2, q2, rfl, rfl, rfl, h2, r2⟩ := trodAll_cons r1
  obtain ⟨v3, vs3, d3, ds3, p3, q3, rfl, rfl, rfl, h3, r3⟩ := trodAll_cons r2
  obtain ⟨rfl, rfl, rfl⟩ := trodAll_nil r3
  obtain rfl : args = #[v0, v1, v2, v3] := by cases args; simp_all
  obtain ⟨rfl, rfl⟩ := trodVars_none hV
  obtain ⟨n0, rfl, rfl, rfl, f0⟩ := open_int Try.underlying5 (hval 0 5 v0 rfl rfl) h0
  have s0 : SRep (cx0 W) W (.d (.v (.int .u8 n0))) (.int .u8 n0) := by simp [SRep, DRep, cellV]
  have u0 : 0 ≤ n0 ∧ n0 ≤ 255 := u8_wf f0
  obtain ⟨n1, rfl, rfl, rfl, f1⟩ := open_int Try.underlying5 (hval 1 5 v1 rfl rfl) h1
  have s1 : SRep (cx0 W) W (.d (.v (.int .u8 n1))) (.int .u8 n1) := by simp [SRep, DRep, cellV]
  have u1 : 0 ≤ n1 ∧ n1 ≤ 255 := u8_wf f1
  obtain ⟨n2, rfl, rfl, rfl, f2⟩ := open_int Try.underlying5 (hval 2 5 v2 rfl rfl) h2
  have s2 : SRep (cx0 W) W (.d (.v (.int .u8 n2))) (.int .u8 n2) := by simp [SRep, DRep, cellV]
  have u2 : 0 ≤ n2 ∧ n2 ≤ 255 := u8_wf f2
  obtain ⟨w3, u3, s3⟩ := bytes_arg (hval 3 22 v3 rfl rfl) h3
  clear hA0 hval0
  simp only [List.append_nil] at hW'
  refine (walk1001 u0 u1 u2 u3 s0 s1 s2 s3).mono fun e W' ⟨he, hg, hsame⟩ => ?_
  subst he
  exact ⟨_, rfl, post_of_same (pv := []) hW' (fun _ _ _ => (trodAll_cons_mk (shut_bool Try.underlying4 _) trodAll_mk0)) (fun sp hsp => Go.Sx.args_again laid rowed slicesFull (by intro t ht; simp at ht; rcases ht with rfl | rfl | rfl | rfl <;> exact tlt (by omega)) hAll hsame (by simpa using hsp)) (fun _ _ => rfl) (by simp)
    (hg.frame _) hg.2.1 (ok_one (by kernel_rfl) rfl (okWide_bool_mk Try.underlying4 _))⟩

theorem over : Rows.slabClaimsRow.holds Try.pinned (OpenSpec.ofChange Rows.slabClaimsSpec) :=
  OpenClaim.holds_of_wide 3 Try.f3 rfl rfl rfl rfl rfl rfl rfl ⟨rfl, rfl, rfl, rfl, rfl⟩ rfl rfl rfl rfl rfl (by kernel_rfl) Try.func3 (by kernel_rfl)
    (of_decide_eq_true (by kernel_rfl)) (by unfold Func.isWrapper; first | (rw [if_pos (by decide +kernel)]; kernel_rfl) | (rw [if_neg (by decide +kernel)]; exact ⟨rfl, rfl⟩))
    (fun os started H enc _ => lifted os started H enc)

theorem proved : Rows.SlabClaimsSaid := over
#print axioms proved
end Go.Proofs.Ytljmncdlehinnaa.slabClaims
