/- coatchecklaw13.WorkBegins returns true for every input, and its arguments read afterwards as before. -/
import Derived.Test.YthbknbmfcklebaaGreatPC
import Derived.Test.YthbknbmfcklebaaGreatPC
import Derived.Test.YthbknbmfcklebaaGreatPC
set_option linter.all false
set_option linter.unusedVariables false
set_option linter.unusedSimpArgs false
set_option linter.unnecessarySimpa false
namespace Go.Sx.Pr
open Go Go.Sx Go.Sx.Md Go.Proofs
theorem walk1115 {w : World} {v0 v1 v2 v3 : Value} {c0 : Md.Cf} {x1 : Md.Wk} (k1 : okW x1 = true) {ok2 oT2 oX2 os2 ob2 on2 : Int} {ou2 : Bool} {n3 : Int} (u3 : uB n3 = true)
    (s0 : SRep (cx0 w) w (.agg (encC c0)) v0) (s1 : SRep (cx0 w) w (.agg (Md.encW x1)) v1) (s2 : SRep (cx0 w) w (.agg (encO ok2 oT2 oX2 os2 ou2 ob2 on2)) v2) (s3 : SRep (cx0 w) w (.d (.v (.int .u64 n3))) v3) :
    Calls Tryz.prog 3 #[v0, v1, v2, v3] w fun e w' => e = .returned (.bool true) ∧ RowKit.Grown w w' ∧ ∀ b, b < w.heap.size → w'.heap[b]? = w.heap[b]? := by
  obtain ⟨H, hrun⟩ := mainB u3
  exact law_calls (e1115.ok _) mix Tryz.func3 c1115 hrun (vals := [v0, v1, v2, v3]) (by simp only [SRepL, and_true]; exact ⟨s0, s1, s2, s3⟩)
end Go.Sx.Pr
namespace Go.Proofs.YthbknbmfcklebaaGreat.workBegins
open Go.Sx Go.Sx.Pr Go.Sx.Md
open Go.ChangeShapes Go.WideShapes Go.ChangeAt Go.RowKit

theorem own : ownKnob Tryz.prog.godebug = none := by kernel_rfl

set_option maxRecDepth 100000 in
theorem lifted (os : Os) (started : os.Started) (H : Type) (enc : TypeId × Value → H) :
    ReturnsInHanded {} Tryz.checked os 3 .any (Rows.workBeginsSpec.pre6 enc Tryz.prog Tryz.f3 Rows.workBeginsRow.domain false) (Rows.workBeginsSpec.post enc Tryz.prog Tryz.f3 false true false false) := by
  refine returnsInHanded_of_change (C := Tryz.checked) own started (by kernel_rfl) Tryz.func3
    (ChangeSpec.witness6 (enc := enc) (C := Tryz.checked) false ⟨#[], #[.agg #[.int .i64 0, .int .i64 0, .int .i64 0, .int .i64 0, .int .i64 0, .int .i64 0, .int .i64 0, .int .u64 0], .agg #[.int .i64 0, .int .i64 0, .int .u64 0, .int .u64 0, .int .i64 0, .bool false, .int .i64 0, .int .i64 0, .bool false, .int .u64 0, .slice none 0 0, .int .u64 0, .slice none 0 0, .int .u64 0, .slice none 0 0, .int .u64 0, .slice none 0 0, .slice none 0 0, .int .i64 0, .int .i64 0, .int .i64 0, .int .i64 0, .int .i64 0, .int .u64 0, .int .u64 0, .int .u64 0, .int .u64 0, .int .u64 0, .int .i64 0, .slice none 0 0, .int .u64 0, .int .i64 0, .bool false], .agg #[.int .i64 0, .int .u64 0, .int .u64 0, .int .i64 0, .bool false, .int .i64 0, .int .i64 0], .int .u64 0], []⟩ 8 (by kernel_rfl) (by kernel_rfl) (by kernel_rfl) (by kernel_rfl)) ?_
  intro W base args ds gs before hval0 hW hcnd _
  have hval : ∀ (j : Nat) t v, Tryz.f3.params[j]? = some t → args[j]? = some v → Value.okWide Tryz.prog W .any base t v := hval0
  have hW' := hW
  obtain ⟨p, q, hA0, hV, rfl, hfz, hnd⟩ := hW
  have hA : DataW.TrodAll enc Tryz.prog W 0 (fun _ => true) true Tryz.f3.params.toList args.toList ds p := hA0
  rw [Tryz.params3] at hA hval
  have hAll := hA
  obtain ⟨v0, vs0, d0, ds0, p0, q0, hargs, rfl, rfl, h0, r0⟩ := trodAll_cons hA
  obtain ⟨v1, vs1, d1, ds1, p1, q1, rfl, rfl, rfl, h1, r1⟩ := trodAll_cons r0
  obtain ⟨v2, vs2, d2, ds2, p2, q2, rfl, rfl, rfl, h2, r2⟩ := trodAll_cons r1
  obtain ⟨v3, vs3, d3, ds3, p3, q3, rfl, rfl, rfl, h3, r3⟩ := trodAll_cons r2
  obtain ⟨rfl, rfl, rfl⟩ := trodAll_nil r3
  obtain rfl : args = #[v0, v1, v2, v3] := by cases args; simp_all
  obtain ⟨rfl, rfl⟩ := trodVars_none hV
  obtain ⟨a, b, c, d, e, f, g, l, s0⟩ := cfg_arg h0
  obtain ⟨x1, k1, s1⟩ := work_arg h1
  obtain ⟨ok2, oT2, oX2, os2, ob2, on2, ou2, s2⟩ := op_arg h2
  obtain ⟨n3, rfl, rfl, rfl, f3⟩ := open_int Tryz.underlying22 (hval 3 22 v3 rfl rfl) h3
  have s3 : SRep (cx0 W) W (.d (.v (.int .u64 n3))) (.int .u64 n3) := by simp [SRep, DRep, cellV]
  have u3 : uB n3 = true := uB_wf f3
  clear hA0 hval0
  simp only [List.append_nil] at hW'
  refine (walk1115 (c0 := ⟨a, b, c, d, e, f, g, l⟩) k1 (ok2 := ok2) u3 s0 s1 s2 s3).mono fun e W' ⟨he, hg, hsame⟩ => ?_
  subst he
  exact ⟨_, rfl, post_of_same (pv := []) hW' (fun _ _ _ => (trodAll_cons_mk (shut_bool Tryz.underlying4 _) trodAll_mk0)) (fun sp hsp => Go.Sx.args_again laid rowed slicesFull (by intro t ht; simp at ht; rcases ht with rfl | rfl | rfl | rfl <;> exact tlt (by omega)) hAll hsame (by simpa using hsp)) (fun _ _ => rfl) (by simp)
    (hg.frame _) hg.2.1 (ok_one (by kernel_rfl) rfl (okWide_bool_mk Tryz.underlying4 _))⟩

theorem over : Rows.workBeginsRow.holds Tryz.pinned (OpenSpec.ofChange Rows.workBeginsSpec) :=
  OpenClaim.holds_of_wide 3 Tryz.f3 rfl rfl rfl rfl rfl rfl rfl ⟨rfl, rfl, rfl, rfl, rfl⟩ rfl rfl rfl rfl rfl (by kernel_rfl) Tryz.func3 (by kernel_rfl)
    (of_decide_eq_true (by kernel_rfl)) (by unfold Func.isWrapper; first | (rw [if_pos (by decide +kernel)]; kernel_rfl) | (rw [if_neg (by decide +kernel)]; exact ⟨rfl, rfl⟩))
    (fun os started H enc _ => lifted os started H enc)

theorem proved : Rows.WorkBeginsSaid := over
#print axioms proved
end Go.Proofs.YthbknbmfcklebaaGreat.workBegins
