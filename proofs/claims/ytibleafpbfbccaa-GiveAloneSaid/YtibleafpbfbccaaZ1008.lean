/- coatchecklaw10.GiveAlone returns true for every input, and its arguments read afterwards as before. -/
import Derived.Test.YtibleafpbfbccaaPC
import Derived.Test.YtibleafpbfbccaaPC
import Derived.Test.YtibleafpbfbccaaPC
set_option linter.all false
set_option linter.unusedVariables false
set_option linter.unusedSimpArgs false
set_option linter.unnecessarySimpa false
namespace Go.Sx.Pr
open Go Go.Sx Go.Sx.Md Go.Proofs
theorem walk1008 {w : World} {v0 v1 v2 : Value} {c0 : Md.Cf} {w1 : List Int} (u1 : u64B w1 = true) {w2 : List Int}
    (s0 : SRep (cx0 w) w (.agg (encC c0)) v0) (s1 : SRep (cx0 w) w (.d (.ints .u64 w1)) v1) (s2 : SRep (cx0 w) w (.d (.ints .i64 w2)) v2) :
    Calls Try.prog 3 #[v0, v1, v2] w fun e w' => e = .returned (.bool true) ∧ GrownL w w' ∧ ∀ b, b < w.heap.size → w'.heap[b]? = w.heap[b]? := by
  obtain ⟨H, hrun⟩ := main8G u1
  exact law_calls (e1008.ok _) mix Try.func3 c1008 hrun (vals := [v0, v1, v2]) (by simp only [SRepL, and_true]; exact ⟨s0, s1, s2⟩)
end Go.Sx.Pr
namespace Go.Proofs.Ytibleafpbfbccaa.giveAlone
open Go.Sx Go.Sx.Pr Go.Sx.Md
open Go.ChangeShapes Go.WideShapes Go.ChangeAt Go.RowKit

theorem own : ownKnob Try.prog.godebug = none := by kernel_rfl

set_option maxRecDepth 100000 in
theorem lifted (os : Os) (started : os.Started) (H : Type) (enc : TypeId × Value → H) :
    ReturnsInHanded {} Try.checked os 3 .any (Rows.giveAloneSpec.pre6 enc Try.prog Try.f3 Rows.giveAloneRow.domain false) (Rows.giveAloneSpec.post enc Try.prog Try.f3 false true false false) := by
  refine returnsInHanded_of_change (C := Try.checked) own started (by kernel_rfl) Try.func3
    (ChangeSpec.witness6 (enc := enc) (C := Try.checked) false ⟨#[], #[.agg #[.int .i64 0, .int .i64 0, .int .i64 0, .int .i64 0, .int .i64 0, .int .i64 0, .int .i64 0, .int .u64 0], .slice none 0 0, .slice none 0 0], []⟩ 8 (by kernel_rfl) (by kernel_rfl) (by kernel_rfl) (by kernel_rfl)) ?_
  intro W base args ds gs before hval0 hW hcnd _
  have hval : ∀ (j : Nat) t v, Try.f3.params[j]? = some t → args[j]? = some v → Value.okWide Try.prog W .any base t v := hval0
  have hW' := hW
  obtain ⟨p, q, hA0, hV, rfl, hfz, hnd⟩ := hW
  have hA : DataW.TrodAll enc Try.prog W 0 (fun _ => true) true Try.f3.params.toList args.toList ds p := hA0
  rw [Try.params3] at hA hval
  have hAll := hA
  obtain ⟨v0, vs0, d0, ds0, p0, q0, hargs, rfl, rfl, h0, r0⟩ := trodAll_cons hA
  obtain ⟨v1, vs1, d1, ds1, p1, q1, rfl, rfl, rfl, h1, r1⟩ := trodAll_cons r0
  obtain ⟨v2, vs2, d2, ds2, p2, q2, rfl, rfl, rfl, h2, r2⟩ := trodAll_cons r1
  obtain ⟨rfl, rfl, rfl⟩ := trodAll_nil r2
  obtain rfl : args = #[v0, v1, v2] := by cases args; simp_all
  obtain ⟨rfl, rfl⟩ := trodVars_none hV
  obtain ⟨a, b, c, d, e, f, g, l, s0⟩ := cfg_arg h0
  obtain ⟨w1, u1, s1⟩ := words_arg (hval 1 25 v1 rfl rfl) h1
  obtain ⟨w2, u2, s2⟩ := ints_arg (hval 2 26 v2 rfl rfl) h2
  clear hA0 hval0
  simp only [List.append_nil] at hW' hAll
  refine (walk1008 (c0 := ⟨a, b, c, d, e, f, g, l⟩) u1 (w2 := w2) s0 s1 s2).mono fun e W' ⟨he, hg, hsame⟩ => ?_
  subst he
  exact ⟨_, rfl, post_of_old hW' (fun _ _ _ => (trodAll_cons_mk (shut_bool Try.underlying4 _) trodAll_mk0)) (fun sp hsp => Go.Sx.args_again laid rowed slicesFull (by intro t ht; simp at ht; rcases ht with rfl | rfl | rfl <;> exact tlt (by omega)) hAll hsame (by simpa using hsp)) (fun _ _ => rfl)
    hg (ok_one (by kernel_rfl) rfl (okWide_bool_mk Try.underlying4 _))⟩

theorem over : Rows.giveAloneRow.holds Try.pinned (OpenSpec.ofChange Rows.giveAloneSpec) :=
  OpenClaim.holds_of_wide 3 Try.f3 rfl rfl rfl rfl rfl rfl rfl ⟨rfl, rfl, rfl, rfl, rfl⟩ rfl rfl rfl rfl rfl (by kernel_rfl) Try.func3 (by kernel_rfl)
    (of_decide_eq_true (by kernel_rfl)) (by unfold Func.isWrapper; first | (rw [if_pos (by decide +kernel)]; kernel_rfl) | (rw [if_neg (by decide +kernel)]; exact ⟨rfl, rfl⟩))
    (fun os started H enc _ => lifted os started H enc)

theorem proved : Rows.GiveAloneSaid := over
#print axioms proved
end Go.Proofs.Ytibleafpbfbccaa.giveAlone
