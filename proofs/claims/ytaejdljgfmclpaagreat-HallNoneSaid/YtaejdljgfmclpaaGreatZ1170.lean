/- coatchecklaw15.HallNone returns true for every input, and its arguments read afterwards as before. -/
import Derived.Test.YtaejdljgfmclpaaGreatPC
import Derived.Test.YtaejdljgfmclpaaGreatPC
import Derived.Test.YtaejdljgfmclpaaGreatPC
set_option linter.all false
set_option linter.unusedVariables false
set_option linter.unusedSimpArgs false
set_option linter.unnecessarySimpa false
namespace Go.Sx.Pr
open Go Go.Sx Go.Sx.Md Go.Proofs
theorem walk1170 {w : World} {v0 v1 : Value} {c0 : Md.Cf} {n1 : Int}
    (s0 : SRep (cx0 w) w (.agg (encC c0)) v0) (s1 : SRep (cx0 w) w (.d (.v (.int .i64 n1))) v1) :
    Calls Tryz.prog 4 #[v0, v1] w fun e w' => e = .returned (.bool true) ∧ GrownL w w' ∧ ∀ b, b < w.heap.size → w'.heap[b]? = w.heap[b]? := by
  obtain ⟨E, hE, H, hrun⟩ := mainH c0 n1
  exact law_calls (hE.ok _) mix Tryz.func4 c1170 hrun (vals := [v0, v1]) (by simp only [SRepL, and_true]; exact ⟨s0, s1⟩)
end Go.Sx.Pr
namespace Go.Proofs.YtaejdljgfmclpaaGreat.hallNone
open Go.Sx Go.Sx.Pr Go.Sx.Md
open Go.ChangeShapes Go.WideShapes Go.ChangeAt Go.RowKit

theorem own : ownKnob Tryz.prog.godebug = none := by kernel_rfl

set_option maxRecDepth 100000 in
theorem lifted (os : Os) (started : os.Started) (H : Type) (enc : TypeId × Value → H) :
    ReturnsInHanded {} Tryz.checked os 4 .any (Rows.hallNoneSpec.pre6 enc Tryz.prog Tryz.f4 Rows.hallNoneRow.domain false) (Rows.hallNoneSpec.post enc Tryz.prog Tryz.f4 false true false false) := by
  refine returnsInHanded_of_change (C := Tryz.checked) own started (by kernel_rfl) Tryz.func4
    (ChangeSpec.witness6 (enc := enc) (C := Tryz.checked) false ⟨#[], #[.agg #[.int .i64 0, .int .i64 0, .int .i64 0, .int .i64 0, .int .i64 0, .int .i64 0, .int .i64 0, .int .u64 0], .int .i64 0], []⟩ 8 (by kernel_rfl) (by kernel_rfl) (by kernel_rfl) (by kernel_rfl)) ?_
  intro W base args ds gs before hval0 hW hcnd _
  have hval : ∀ (j : Nat) t v, Tryz.f4.params[j]? = some t → args[j]? = some v → Value.okWide Tryz.prog W .any base t v := hval0
  have hW' := hW
  obtain ⟨p, q, hA0, hV, rfl, hfz, hnd⟩ := hW
  have hA : DataW.TrodAll enc Tryz.prog W 0 (fun _ => true) true Tryz.f4.params.toList args.toList ds p := hA0
  rw [Tryz.params4] at hA hval
  have hAll := hA
  obtain ⟨v0, vs0, d0, ds0, p0, q0, hargs, rfl, rfl, h0, r0⟩ := trodAll_cons hA
  obtain ⟨v1, vs1, d1, ds1, p1, q1, rfl, rfl, rfl, h1, r1⟩ := trodAll_cons r0
  obtain ⟨rfl, rfl, rfl⟩ := trodAll_nil r1
  obtain rfl : args = #[v0, v1] := by cases args; simp_all
  obtain ⟨rfl, rfl⟩ := trodVars_none hV
  obtain ⟨a, b, c, d, e, f, g, l, s0⟩ := cfg_arg h0
  obtain ⟨n1, rfl, rfl, rfl, f1⟩ := open_int Tryz.underlying3 (hval 1 3 v1 rfl rfl) h1
  have s1 : SRep (cx0 W) W (.d (.v (.int .i64 n1))) (.int .i64 n1) := by simp [SRep, DRep, cellV]
  clear hA0 hval0
  simp only [List.append_nil] at hW' hAll
  refine (walk1170 (c0 := ⟨a, b, c, d, e, f, g, l⟩) (n1 := n1) s0 s1).mono fun e W' ⟨he, hg, hsame⟩ => ?_
  subst he
  exact ⟨_, rfl, post_of_old hW' (fun _ _ _ => (trodAll_cons_mk (shut_bool Tryz.underlying4 _) trodAll_mk0)) (fun sp hsp => Go.Sx.args_again laid rowed slicesFull (by intro t ht; simp at ht; rcases ht with rfl | rfl <;> exact tlt (by omega)) hAll hsame (by simpa using hsp)) (fun _ _ => rfl)
    hg (ok_one (by kernel_rfl) rfl (okWide_bool_mk Tryz.underlying4 _))⟩

theorem over : Rows.hallNoneRow.holds Tryz.pinned (OpenSpec.ofChange Rows.hallNoneSpec) :=
  OpenClaim.holds_of_wide 4 Tryz.f4 rfl rfl rfl rfl rfl rfl rfl ⟨rfl, rfl, rfl, rfl, rfl⟩ rfl rfl rfl rfl rfl (by kernel_rfl) Tryz.func4 (by kernel_rfl)
    (of_decide_eq_true (by kernel_rfl)) (by unfold Func.isWrapper; first | (rw [if_pos (by decide +kernel)]; kernel_rfl) | (rw [if_neg (by decide +kernel)]; exact ⟨rfl, rfl⟩))
    (fun os started H enc _ => lifted os started H enc)

theorem proved : Rows.HallNoneSaid := over
#print axioms proved
end Go.Proofs.YtaejdljgfmclpaaGreat.hallNone
