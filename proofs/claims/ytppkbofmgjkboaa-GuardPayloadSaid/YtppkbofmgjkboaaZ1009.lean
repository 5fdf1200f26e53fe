/- coatchecklaw18.GuardPayload returns true for every input, and its arguments read afterwards as before. -/
import Derived.Test.YtppkbofmgjkboaaG8
import Derived.Test.YtppkbofmgjkboaaMd
set_option linter.all false
set_option linter.unusedVariables false
set_option linter.unusedSimpArgs false
set_option linter.unnecessarySimpa false
namespace Go.Sx.Pr
open Go Go.Sx Go.Sx.Md Go.Proofs
theorem walk1009 {w : World} {v0 v1 : Value} {n0 : Int} {w1 : List Int} (u1 : u64B w1 = true)
    (s0 : SRep (cx0 w) w (.d (.v (.int .i64 n0))) v0) (s1 : SRep (cx0 w) w (.d (.ints .u64 w1)) v1) :
    Calls Try.prog 6 #[v0, v1] w fun e w' => e = .returned (.bool true) ∧ RowKit.Grown w w' ∧ ∀ b, b < w.heap.size → w'.heap[b]? = w.heap[b]? := by
  obtain ⟨H, hrun⟩ := Gd.mainG (n := n0) u1
  exact law_calls (e1009.ok _) mix Try.func6 c1009 hrun (vals := [v0, v1]) (by simp only [SRepL, and_true]; exact ⟨s0, s1⟩)
end Go.Sx.Pr
namespace Go.Proofs.Ytppkbofmgjkboaa.guardPayload
open Go.Sx Go.Sx.Pr Go.Sx.Md
open Go.ChangeShapes Go.WideShapes Go.ChangeAt Go.RowKit

theorem own : ownKnob Try.prog.godebug = none := by kernel_rfl

set_option maxRecDepth 100000 in
theorem lifted (os : Os) (started : os.Started) (H : Type) (enc : TypeId × Value → H) :
    ReturnsInHanded {} Try.checked os 6 .any (Rows.guardPayloadSpec.pre6 enc Try.prog Try.f6 Rows.guardPayloadRow.domain false) (Rows.guardPayloadSpec.post enc Try.prog Try.f6 false true false false) := by
  refine returnsInHanded_of_change (C := Try.checked) own started (by kernel_rfl) Try.func6
    (ChangeSpec.witness6 (enc := enc) (C := Try.checked) false ⟨#[], #[.int .i64 0, .slice none 0 0], []⟩ 8 (by kernel_rfl) (by kernel_rfl) (by kernel_rfl) (by kernel_rfl)) ?_
  intro W base args ds gs before hval0 hW hcnd _
  have hval : ∀ (j : Nat) t v, Try.f6.params[j]? = some t → args[j]? = some v → Value.okWide Try.prog W .any base t v := hval0
  have hW' := hW
  obtain ⟨p, q, hA0, hV, rfl, hfz, hnd⟩ := hW
  have hA : DataW.TrodAll enc Try.prog W 0 (fun _ => true) true Try.f6.params.toList args.toList ds p := hA0
  rw [Try.params6] at hA hval
  have hAll := hA
  obtain ⟨v0, vs0, d0, ds0, p0, q0, hargs, rfl, rfl, h0, r0⟩ := trodAll_cons hA
  obtain ⟨v1, vs1, d1, ds1, p1, q1, rfl, rfl, rfl, h1, r1⟩ := trodAll_cons r0
  obtain ⟨rfl, rfl, rfl⟩ := trodAll_nil r1
  obtain rfl : args = #[v0, v1] := by cases args; simp_all
  obtain ⟨rfl, rfl⟩ := trodVars_none hV
  obtain ⟨n0, rfl, rfl, rfl, f0⟩ := open_int Try.underlying3 (hval 0 3 v0 rfl rfl) h0
  have s0 : SRep (cx0 W) W (.d (.v (.int .i64 n0))) (.int .i64 n0) := by simp [SRep, DRep, cellV]
  obtain ⟨w1, u1, s1⟩ := words_arg (hval 1 31 v1 rfl rfl) h1
  clear hA0 hval0
  simp only [List.append_nil] at hW'
  refine (walk1009 (n0 := n0) u1 s0 s1).mono fun e W' ⟨he, hg, hsame⟩ => ?_
  subst he
  exact ⟨_, rfl, post_of_same (pv := []) hW' (fun _ _ _ => (trodAll_cons_mk (shut_bool Try.underlying4 _) trodAll_mk0)) (fun sp hsp => Go.Sx.args_again laid rowed slicesFull (by intro t ht; simp at ht; rcases ht with rfl | rfl <;> exact tlt (by omega)) hAll hsame (by simpa using hsp)) (fun _ _ => rfl) (by simp)
    (hg.frame _) hg.2.1 (ok_one (by kernel_rfl) rfl (okWide_bool_mk Try.underlying4 _))⟩

theorem over : Rows.guardPayloadRow.holds Try.pinned (OpenSpec.ofChange Rows.guardPayloadSpec) :=
  OpenClaim.holds_of_wide 6 Try.f6 rfl rfl rfl rfl rfl rfl rfl ⟨rfl, rfl, rfl, rfl, rfl⟩ rfl rfl rfl rfl rfl (by kernel_rfl) Try.func6 (by kernel_rfl)
    (of_decide_eq_true (by kernel_rfl)) (by unfold Func.isWrapper; first | (rw [if_pos (by decide +kernel)]; kernel_rfl) | (rw [if_neg (by decide +kernel)]; exact ⟨rfl, rfl⟩))
    (fun os started H enc _ => lifted os started H enc)

theorem proved : Rows.GuardPayloadSaid := over
#print axioms proved
end Go.Proofs.Ytppkbofmgjkboaa.guardPayload
