/- All operations together. -/
import Derived.Test.YtaejdljgfmclpaaGreatSxOps16
import Derived.Tactics
set_option linter.all false
set_option linter.unusedVariables false
set_option linter.unusedSimpArgs false
set_option linter.unnecessarySimpa false
namespace Go.Sx

section
variable {P : Program} {A : Ann} {o : Oper} {s : SS} {Ω : Type} {k : SV → List Nat → SS → Option Ω} {out : Ω}

def Sound (P : Program) (A : Ann) (o : Oper) (c : CO) (s : SS) (k : SV → List Nat → SS → Option Ω) (out : Ω) : Prop :=
  (cls c ≤ 1 ∧ PlainV P o s k out) ∨ (cls c = 2 ∧ PlainE P o s k out) ∨ (cls c = 3 ∧ Plain P A o s k out)

theorem and_some {α : Type} {b : Bool} {x : Option α} {r : α} (h : (bif b then none else x) = some r) : b = false ∧ x = some r := by
  cases b <;> simp_all

theorem ne_of_beq {a b : Nat} (h : (!(Nat.beq a b)) = true) : a ≠ b := by
  intro e; subst e; simp at h

theorem infoAll_mem : ∀ {fs : List Field}, infoAll P fs = true → ∀ f ∈ fs, ∃ i, P.info? f.type = some i
  | [], _, f, hf => by simp at hf
  | g :: r, h, f, hf => by
    simp only [infoAll, Bool.and_eq_true] at h
    rcases List.mem_cons.1 hf with rfl | hf
    · exact Option.isSome_iff_exists.1 h.1
    · exact infoAll_mem h.2 f hf

theorem Keeps.refl (m : List Nat) (h : SH) : Keeps m h h := ⟨Nat.le_refl _, fun _ _ _ => rfl⟩
theorem Keeps.trans {m : List Nat} {h1 h2 h3 : SH} (a : Keeps m h1 h2) (b : Keeps m h2 h3) : Keeps m h1 h3 :=
  ⟨Nat.le_trans a.1 b.1, fun l hl hm => by rw [b.2 l (by have := a.1; omega) hm, a.2 l hl hm]⟩

theorem frz_keeps {h h' : SH} {x y : SV} {m : List Nat} (hf : frz h x = some (y, h')) (hm : ∀ l ∈ locsOf x, l ∈ m) : Keeps m h h' := by
  unfold frz at hf
  split at hf
  · split at hf <;> simp only [Option.some.injEq, Prod.mk.injEq, reduceCtorEq] at hf
    · rw [← hf.2]; exact .set (hm _ (by simp [locsOf]))
    · rw [← hf.2]; exact .set (hm _ (by simp [locsOf]))
  · simp only [Option.some.injEq, Prod.mk.injEq] at hf
    rw [← hf.2]; exact .refl _ _

theorem frzL_keeps : ∀ {c ys : List SV} {h h' : SH} {m : List Nat}, frzL h c = some (ys, h') → (∀ l ∈ c.flatMap locsOf, l ∈ m) → Keeps m h h'
  | [], ys, h, h', m, hf, _ => by simp only [frzL, Option.some.injEq, Prod.mk.injEq] at hf; rw [← hf.2]; exact .refl _ _
  | x :: r, ys, h, h', m, hf, hm => by
    simp only [frzL] at hf
    split at hf
    · rename_i y h1 h2
      split at hf
      · rename_i ys' h3 h4
        simp only [Option.some.injEq, Prod.mk.injEq] at hf
        rw [← hf.2]
        exact (frz_keeps h2 fun l hl => hm l (by simp [hl])).trans (frzL_keeps h4 fun l hl => hm l (by
          simp only [List.flatMap_cons, List.mem_append]; exact .inr hl))
      · simp at hf
    · simp at hf

theorem sto_keeps {h h' : SH} {p : SV} {c : List SV} (hs : sto h p c = some h') : Keeps (locsOf p ++ c.flatMap locsOf) h h' := by
  unfold sto at hs
  split at hs
  · split at hs
    · have := (cond_some hs).2
      simp only [Option.some.injEq] at this
      rw [← this]; exact .set (by simp [locsOf])
    · simp at hs
  · rename_i l i o
    split at hs
    · simp at hs
    · rename_i ys h1 hf
      refine (frzL_keeps hf fun l hl => by simp [hl]).trans ?_
      split at hs
      · have hA := (cond_some hs).2
        split at hA
        · simp only [Option.some.injEq] at hA; rw [← hA]; exact .set (by simp [locsOf])
        · simp at hA
      · split at hs
        · have hA := (cond_some hs).2
          simp only [Option.some.injEq] at hA; rw [← hA]; exact .set (by simp [locsOf])
        · simp at hs
      · simp at hs
  · simp at hs

theorem allOk_no : ∀ {sc : List Nat} {l : Nat}, allOk A sc = true → A.p l = false → nmem l sc = false
  | [], _, _, _ => rfl
  | m :: r, l, h, hl => by
    simp only [allOk, Bool.and_eq_true] at h
    simp only [nmem]
    cases hb : Nat.beq m l with
    | true => rw [Nat.eq_of_beq_eq_true hb] at h; simp [Ann.p, h.1] at hl
    | false => exact allOk_no h.2 hl

theorem coL_one {xs : List Operand} {a : CA} (h : coL xs = some [a]) : ∃ x, xs = [x] ∧ coA x = some a := by
  match xs with
  | [] => simp [coL] at h
  | x :: r =>
    simp only [coL] at h
    split at h
    · rename_i y l hy hl
      simp only [Option.some.injEq, List.cons.injEq] at h
      obtain ⟨rfl, rfl⟩ := h
      match r with
      | [] => exact ⟨x, rfl, hy⟩
      | z :: r' => simp only [coL] at hl; split at hl <;> simp at hl
    · simp at h

theorem coL_two {xs : List Operand} {a b : CA} (h : coL xs = some [a, b]) : ∃ x y, xs = [x, y] ∧ coA x = some a ∧ coA y = some b := by
  match xs with
  | [] => simp [coL] at h
  | x :: r =>
    simp only [coL] at h
    split at h
    · rename_i y l hy hl
      simp only [Option.some.injEq, List.cons.injEq] at h
      obtain ⟨rfl, rfl⟩ := h
      obtain ⟨z, rfl, hz⟩ := coL_one hl
      exact ⟨x, z, rfl, hy, hz⟩
    · simp at h

theorem sound_b {b : Builtin} {args : Array Operand} {ats : Array TypeId} {args' : List CA} {c : CO} (ho : o.op = .call { callee := .builtin b, args := args, argTypes := ats }) (ha : coL args.toList = some args')
    (hc : coB P b ats.toList args' = some c) {env : Env Ω} (h : sop env A c s k = some out) : Sound P A o c s k out := by
  unfold coB at hc
  split at hc
  · -- len
    rename_i x' t e2
    obtain ⟨x, hx, hy⟩ := coL_one ha
    obtain rfl : args = #[x] := Array.ext' (by simpa using hx)
    obtain rfl : ats = #[t] := Array.ext' (by simpa using e2)
    split at hc
    · rename_i e hu
      simp only [Option.some.injEq] at hc; subst hc
      exact .inl ⟨by simp [cls], snd_len ho hy hu h⟩
    · rename_i hu
      simp only [Option.some.injEq] at hc; subst hc
      exact .inl ⟨by simp [cls], snd_lens ho hy hu h⟩
    · rename_i q e hu
      simp only [Option.some.injEq] at hc; subst hc
      exact .inl ⟨by simp [cls], snd_lenm ho hy hu h⟩
    · rename_i n e hu
      simp only [Option.some.injEq] at hc; subst hc
      exact .inl ⟨by simp [cls], snd_lenc ho hu h⟩
    · simp at hc
  · rename_i x' y' t u e2
    obtain ⟨x, y, hxy, hx, hy⟩ := coL_two ha
    obtain rfl : args = #[x, y] := Array.ext' (by simpa using hxy)
    obtain rfl : ats = #[t, u] := Array.ext' (by simpa using e2)
    split at hc
    · rename_i e e' ht hu
      obtain ⟨hb, hc⟩ := cond_some hc
      simp only [Bool.and_eq_true] at hb
      simp only [Option.some.injEq] at hc; subst hc
      exact .inr (.inr ⟨by simp [cls], snd_app ho hx hy ht hu (ne_of_beq hb.2.1) (ne_of_beq hb.2.2.2.1) hb.2.2.2.2 hb.2.2.1 h⟩)
    · simp at hc
  · -- delete
    rename_i x' y' t u e2
    obtain ⟨x, y, hxy, hx, hy⟩ := coL_two ha
    obtain rfl : args = #[x, y] := Array.ext' (by simpa using hxy)
    obtain rfl : ats = #[t, u] := Array.ext' (by simpa using e2)
    split at hc
    · rename_i kk e hm
      simp only [Option.some.injEq] at hc; subst hc
      exact .inr (.inl ⟨by simp [cls], snd_del ho hm hx hy h⟩)
    · simp at hc
  · rename_i x' y' e1
    obtain ⟨x, y, hxy, hx, hy⟩ := coL_two ha
    obtain rfl : args = #[x, y] := Array.ext' (by simpa using hxy)
    simp only [Option.some.injEq] at hc; subst hc
    exact .inl ⟨by simp [cls], snd_mn ho hx hy h⟩
  · rename_i x' y' e1
    obtain ⟨x, y, hxy, hx, hy⟩ := coL_two ha
    obtain rfl : args = #[x, y] := Array.ext' (by simpa using hxy)
    simp only [Option.some.injEq] at hc; subst hc
    exact .inl ⟨by simp [cls], snd_mx ho hx hy h⟩
  · simp at hc

theorem sop_sound1 {env : Env Ω} (he : EnvOK P env) {c : CO} (hc : coOp1 P o.op = some c) (h : sop env A c s k = some out) : Sound P A o c s k out := by
  unfold coOp1 at hc
  split at hc
  · -- move
    rename_i x ho
    obtain ⟨y, hy, rfl⟩ := Option.map_eq_some_iff.1 hc
    exact .inl ⟨by simp [cls], _, h, snd_mv (.inl ho) hy⟩
  · rename_i x ho
    obtain ⟨y, hy, rfl⟩ := Option.map_eq_some_iff.1 hc
    exact .inl ⟨by simp [cls], _, h, snd_mv (.inr ho) hy⟩
  · rename_i ho
    split at hc
    · rename_i h1 h2 h3
      simp only [Option.some.injEq] at hc; subst hc
      exact .inl ⟨by simp [cls], snd_pick ho h1 h2 h3 h⟩
    · simp at hc
  · rename_i t ho
    obtain ⟨z, hz, rfl⟩ := Option.map_eq_some_iff.1 hc
    exact .inr (.inl ⟨by simp [cls], _, _, _, h, snd_newc ho hz, .new _ _⟩)
  · rename_i t x ho
    obtain ⟨_, hc⟩ := and_some hc
    obtain ⟨y, hy, rfl⟩ := Option.map_eq_some_iff.1 hc
    simp only [sop] at h
    split at h
    · rename_i z hz
      exact .inr (.inl ⟨by simp [cls], _, _, _, (cond_some h).2, snd_box ho hy hz, .new _ _⟩)
    · simp at h
  · -- build
    rename_i t ps ho
    split at hc
    · rename_i fs z hu hz
      obtain ⟨hi, hc⟩ := cond_some hc
      obtain ⟨qs, hq, rfl⟩ := Option.map_eq_some_iff.1 hc
      exact .inl ⟨by simp [cls], snd_bld_struct ho hu hz hq (infoAll_mem hi) h⟩
    · rename_i n e z hu hz
      obtain ⟨hi, hc⟩ := cond_some hc
      obtain ⟨qs, hq, rfl⟩ := Option.map_eq_some_iff.1 hc
      exact .inl ⟨by simp [cls], snd_bld_array ho hu hz hq (Option.isSome_iff_exists.1 hi) h⟩
    · simp at hc
  · -- buildSlice
    rename_i t n ps ho
    split at hc
    · rename_i e hu
      split at hc
      · rename_i z hz
        obtain ⟨hb, hc⟩ := cond_some hc
        simp only [Bool.and_eq_true] at hb
        obtain ⟨qs, hq, rfl⟩ := Option.map_eq_some_iff.1 hc
        exact .inr (.inl ⟨by simp [cls], snd_bsl ho hu hz hq (Nat.le_of_ble_eq_true hb.1) (ne_of_beq hb.2) h⟩)
      · simp at hc
    · simp at hc
  · -- load
    rename_i t x ho
    obtain ⟨hok, hc⟩ := cond_some hc
    obtain ⟨y, hy, rfl⟩ := Option.map_eq_some_iff.1 hc
    simp only [sop] at h
    split at h
    · rename_i c hl
      cases ha : aggT P t with
      | true =>
        rw [ha] at h
        exact .inl ⟨by simp [cls], _, h, snd_ld ho hy (okT_ne hok) hl _ (.inl ⟨ha, rfl⟩)⟩
      | false =>
        rw [ha] at h
        simp only [cond_false] at h
        split at h
        · exact .inl ⟨by simp [cls], _, h, snd_ld ho hy (okT_ne hok) hl _ (.inr ⟨ha, rfl⟩)⟩
        · simp at h
    · simp at h
  · -- store
    rename_i t a x ho
    split at hc
    · rename_i a' x' ha hx
      obtain ⟨hb, hc⟩ := and_some hc
      simp only [Option.some.injEq] at hc; subst hc
      simp only [sop] at h
      split at h
      · rename_i c hcc
        obtain ⟨hl, h⟩ := cond_some h
        split at h
        · rename_i h' hs
          exact .inr (.inl ⟨by simp [cls], _, _, _, h, snd_st ho ha hx (by intro e; simp [e] at hb) hcc (Nat.eq_of_beq_eq_true hl) hs, sto_keeps hs⟩)
        · simp at h
      · simp at h
    · simp at hc
  · -- nilCheck
    rename_i x ho
    obtain ⟨y, hy, rfl⟩ := Option.map_eq_some_iff.1 hc
    exact .inl ⟨by simp [cls], snd_nilc ho hy h⟩
  · -- binOp
    rename_i op t x y u ho
    split at hc
    · rename_i x' y' hx hy
      split at hc
      · obtain ⟨hg, hc⟩ := and_some hc
        obtain ⟨e, hq, rfl⟩ := Option.map_eq_some_iff.1 hc
        exact .inl ⟨by simp [cls], snd_eq (neg := false) (by simpa using ho) hx hy hq hg h⟩
      · obtain ⟨hg, hc⟩ := and_some hc
        obtain ⟨e, hq, rfl⟩ := Option.map_eq_some_iff.1 hc
        exact .inl ⟨by simp [cls], snd_eq (neg := true) (by simpa using ho) hx hy hq hg h⟩
      · rename_i h1 h2
        simp only [Option.some.injEq] at hc; subst hc
        exact .inl ⟨by simp [cls], snd_bin ho hx hy ⟨fun e => h1 e, fun e => h2 e⟩ h⟩
    · simp at hc
  · rename_i op t x ho
    obtain ⟨y, hy, rfl⟩ := Option.map_eq_some_iff.1 hc
    exact .inl ⟨by simp [cls], snd_un ho hy h⟩
  · rename_i t u x ho
    split at hc
    · rename_i h1 h2
      obtain ⟨y, hy, rfl⟩ := Option.map_eq_some_iff.1 hc
      exact .inl ⟨by simp [cls], snd_conv ho h1 h2 hy h⟩
    · rename_i h1 h2
      obtain ⟨y, hy, rfl⟩ := Option.map_eq_some_iff.1 hc
      exact .inl ⟨by simp [cls], snd_convs ho h1 h2 hy h⟩
    · simp at hc
  · rename_i g f c' ho
    split at hc
    · rename_i h1 h2
      simp only [Option.some.injEq] at hc; subst hc
      exact .inl ⟨by simp [cls], snd_mkf ho h1 h2 h⟩
    · simp at hc
  · -- makeSlice
    rename_i t l c' ho
    split at hc
    · rename_i e hu
      split at hc
      · rename_i z hz
        have hA := cond_some hc
        clear hc
        obtain ⟨hb, hc⟩ := hA
        simp only [Bool.and_eq_true] at hb
        simp only [Option.some.injEq] at hc; subst hc
        have hl := Nat.eq_of_beq_eq_true hb.1
        subst hl
        exact .inr (.inl ⟨by simp [cls], snd_mks ho hu hz (ne_of_beq hb.2.1) (ne_of_beq hb.2.2.1) hb.2.2.2 h⟩)
      · simp at hc
    · simp at hc
  · -- slice
    rename_i t x lo hi mx ho
    split at hc
    · rename_i z x' lo' hi' mx' hz hx hlo hhi hmx
      obtain ⟨hb, hc⟩ := cond_some hc
      simp only [Option.some.injEq] at hc; subst hc
      exact .inl ⟨by simp [cls], snd_slc ho hz hx hlo hhi hmx (by
        intro h1 h2
        subst h2
        simp only [coO, Option.some.injEq] at hhi
        subst hhi
        cases mx with
        | none => exact h1 rfl
        | some m =>
          simp only [coO, Option.map_eq_some_iff] at hmx
          obtain ⟨m', _, rfl⟩ := hmx
          simp at hb) h⟩
    · simp at hc
  · -- fieldAddr
    rename_i t x f ho
    split at hc
    · rename_i fd hf
      obtain ⟨hb, hc⟩ := and_some hc
      obtain ⟨y, hy, rfl⟩ := Option.map_eq_some_iff.1 hc
      exact .inl ⟨by simp [cls], snd_fa ho hy hf (by intro e; simp [e] at hb) h⟩
    · simp at hc
  · rename_i t x f ho
    split at hc
    · rename_i fd hf
      obtain ⟨hb, hc⟩ := cond_some hc
      obtain ⟨y, hy, rfl⟩ := Option.map_eq_some_iff.1 hc
      exact .inl ⟨by simp [cls], snd_fld ho hy hf hb h⟩
    · simp at hc
  · -- indexAddr
    rename_i t x i ho
    split at hc
    · rename_i x' i' hx hi
      split at hc
      · rename_i n e hu
        obtain ⟨hb, hc⟩ := and_some hc
        simp only [Option.some.injEq] at hc; subst hc
        simp only [Bool.or_eq_false_iff] at hb
        exact .inl ⟨by simp [cls], snd_ixa ho hx hi hu (by intro e; simp [e] at hb) h⟩
      · rename_i e hu
        obtain ⟨hb, hc⟩ := and_some hc
        simp only [Option.some.injEq] at hc; subst hc
        exact .inl ⟨by simp [cls], snd_ixs ho hx hi hu (by intro e; simp [e] at hb) h⟩
      · simp at hc
    · simp at hc
  · rename_i t x i ho
    split at hc
    · rename_i x' i' hx hi
      split at hc
      · rename_i n e hu
        obtain ⟨hb, hc⟩ := and_some hc
        simp only [Option.some.injEq] at hc; subst hc
        simp only [Bool.or_eq_false_iff, Bool.not_eq_false'] at hb
        exact .inl ⟨by simp [cls], snd_ixg ho hx hi hu (by intro e; simp [e] at hb) hb.2 h⟩
      · rename_i hu
        simp only [Option.some.injEq] at hc; subst hc
        exact .inl ⟨by simp [cls], snd_ixc ho hx hi hu h⟩
      · simp at hc
    · simp at hc
  · rename_i x i ho
    obtain ⟨y, hy, rfl⟩ := Option.map_eq_some_iff.1 hc
    exact .inl ⟨by simp [cls], snd_ext ho hy h⟩
  · -- makeMap
    rename_i t ho
    split at hc
    · rename_i kk e hm
      simp only [Option.some.injEq] at hc; subst hc
      exact .inr (.inl ⟨by unfold mkO; split <;> simp [cls], snd_mkO ho h⟩)
    · simp at hc
  · -- mapUpdate
    rename_i t m q x ho
    split at hc
    · rename_i kk e m' q' x' hmt hm hq hx
      simp only [Option.some.injEq] at hc; subst hc
      exact .inr (.inl ⟨by simp [cls], snd_upd (.inl ho) hmt hm hq hx h⟩)
    · simp at hc
  · -- insert
    rename_i t m q x ho
    split at hc
    · rename_i kk e m' q' x' hmt hm hq hx
      simp only [Option.some.injEq] at hc; subst hc
      exact .inr (.inl ⟨by simp [cls], snd_upd (.inr ho) hmt hm hq hx h⟩)
    · simp at hc
  · -- lookup
    rename_i t m q ok ho
    split at hc
    · rename_i kk e m' q' hmt hm hq
      split at hc
      · rename_i z hz
        simp only [Option.some.injEq] at hc; subst hc
        exact .inl ⟨by simp [cls], snd_lku ho hmt hm hq hz h⟩
      · simp at hc
    · simp at hc
  · -- call
    rename_i c' ho
    obtain ⟨callee, args, ats⟩ := c'
    split at hc
    · rename_i f args' hf ha
      try simp only at hf
      try simp only at ha
      subst hf
      obtain ⟨f', hf', rfl⟩ := Option.map_eq_some_iff.1 hc
      simp only [sop] at h
      split at h
      · rename_i g a b hv
        split at h
        · rename_i sp hg
          obtain ⟨r, m, sc, h', h1, h2, _⟩ := snd_call ho hf' ha he hv hg h
          obtain ⟨hall, h1⟩ := cond_some h1
          exact .inr (.inr ⟨by simp [cls], _, _, _, h1, scrubTs_sub, h2.weak fun l hl => allOk_no hall hl⟩)
        · simp at h
      · simp at h
    · rename_i b args' hb ha
      try simp only at hb
      try simp only at ha
      try simp only at hc
      subst hb
      exact sound_b ho ha hc h
    · simp at hc
  · simp at hc
theorem sop_sound {env : Env Ω} (he : EnvOK P env) {c : CO} (hc : coOp P o.op = some c) (h : sop env A c s k = some out) : Sound P A o c s k out := by
  unfold coOp at hc
  simp only [Option.some.injEq] at hc
  cases e : coOp1 P o.op with
  | some c' => rw [e] at hc; simp only at hc; subst hc; exact sop_sound1 he e h
  | none => rw [e] at hc; simp only at hc; subst hc; simp [sop] at h
end
end Go.Sx

/- Regions whose operations run in the text's order. -/
namespace Go.Sx

/-- No temporary stands twice. -/
def Uniq (t : List (Nat × SV)) : Prop := t.Pairwise fun a b => a.1 < b.1

theorem Uniq.sub {t t' : List (Nat × SV)} (h : Uniq t) (hs : t'.Sublist t) : Uniq t' := List.Pairwise.sublist hs h

theorem nlt {a b : Nat} (h : Nat.blt a b = true) : a < b := Nat.le_of_ble_eq_true h
theorem nge {a b : Nat} (h : Nat.blt a b = false) : b ≤ a := by
  rcases Nat.lt_or_ge a b with h' | h'
  · have : Nat.blt a b = true := Nat.ble_eq_true_of_le h'
    simp [this] at h
  · exact h'
theorem nbeq {a b : Nat} : Nat.beq a b = true ↔ a = b := ⟨Nat.eq_of_beq_eq_true, fun e => by subst e; exact Nat.beq_refl a⟩
theorem nbne {a b : Nat} : Nat.beq a b = false ↔ a ≠ b := by
  rw [← Bool.not_eq_true, nbeq]

theorem stt_uniq {d : Nat} {x : SV} : ∀ {t : List (Nat × SV)}, Uniq t → Uniq (stt t d x) ∧ ∀ p, p ∈ stt t d x → p = (d, x) ∨ (p.1 ≠ d ∧ p ∈ t)
  | [], _ => ⟨by simp [stt, Uniq], by simp [stt]⟩
  | (k, v) :: r, h => by
    have hr : Uniq r := (List.pairwise_cons.1 h).2
    have hk := (List.pairwise_cons.1 h).1
    simp only [stt]
    cases h1 : Nat.beq k d with
    | true =>
      have := nbeq.1 h1; subst this
      simp only [cond_true]
      refine ⟨List.pairwise_cons.2 ⟨hk, hr⟩, fun p hp => ?_⟩
      rcases List.mem_cons.1 hp with rfl | hp
      · exact .inl rfl
      · exact .inr ⟨by have := hk p hp; simp at this; omega, by simp [hp]⟩
    | false =>
      have hne := nbne.1 h1
      cases h2 : Nat.blt d k with
      | true =>
        have hlt := nlt h2
        simp only [cond_true, cond_false]
        refine ⟨List.pairwise_cons.2 ⟨fun p hp => ?_, h⟩, fun p hp => ?_⟩
        · rcases List.mem_cons.1 hp with rfl | hp
          · exact hlt
          · have := hk p hp; simp at this ⊢; omega
        · rcases List.mem_cons.1 hp with rfl | hp
          · exact .inl rfl
          · refine .inr ⟨?_, hp⟩
            rcases List.mem_cons.1 hp with rfl | hp
            · exact hne
            · have := hk p hp; simp at this; omega
      | false =>
        have hge := nge h2
        obtain ⟨i1, i2⟩ := stt_uniq (d := d) (x := x) hr
        simp only [cond_false]
        refine ⟨List.pairwise_cons.2 ⟨fun p hp => ?_, i1⟩, fun p hp => ?_⟩
        · rcases i2 p hp with rfl | ⟨_, hp⟩
          · simp; omega
          · exact hk p hp
        · rcases List.mem_cons.1 hp with rfl | hp
          · exact .inr ⟨hne, by simp⟩
          · rcases i2 p hp with rfl | ⟨h3, hp⟩
            · exact .inl rfl
            · exact .inr ⟨h3, by simp [hp]⟩

theorem dropT_uniq {d : Nat} : ∀ {t : List (Nat × SV)}, Uniq t → Uniq (dropT t d) ∧ ∀ p, p ∈ dropT t d → p.1 ≠ d ∧ p ∈ t
  | [], _ => ⟨by simp [dropT, Uniq], by simp [dropT]⟩
  | (k, v) :: r, h => by
    have hr : Uniq r := (List.pairwise_cons.1 h).2
    have hk := (List.pairwise_cons.1 h).1
    simp only [dropT]
    cases h1 : Nat.beq k d with
    | true =>
      have := nbeq.1 h1; subst this
      simp only [cond_true]
      exact ⟨hr, fun p hp => ⟨by have := hk p hp; simp at this; omega, by simp [hp]⟩⟩
    | false =>
      have hne := nbne.1 h1
      obtain ⟨i1, i2⟩ := dropT_uniq (d := d) hr
      simp only [cond_false]
      refine ⟨List.pairwise_cons.2 ⟨fun p hp => hk p (i2 p hp).2, i1⟩, fun p hp => ?_⟩
      rcases List.mem_cons.1 hp with rfl | hp
      · exact ⟨hne, by simp⟩
      · exact ⟨(i2 p hp).1, by simp [(i2 p hp).2]⟩

theorem putD_uniq {d : Option Nat} {x : SV} {t : List (Nat × SV)} (h : Uniq t) : Uniq (putD d x t) ∧ ∀ p, p ∈ putD d x t → (∃ d', d = some d' ∧ p = (d', x)) ∨ (d ≠ some p.1 ∧ p ∈ t) := by
  unfold putD
  split
  · exact ⟨h, fun p hp => .inr ⟨by simp, hp⟩⟩
  · rename_i d'
    split
    · exact ⟨(dropT_uniq h).1, fun p hp => .inr ⟨by simpa [eq_comm] using ((dropT_uniq h).2 p hp).1, ((dropT_uniq h).2 p hp).2⟩⟩
    · refine ⟨(stt_uniq h).1, fun p hp => ?_⟩
      rcases (stt_uniq h).2 p hp with rfl | ⟨h1, h2⟩
      · exact .inl ⟨_, rfl, rfl⟩
      · exact .inr ⟨by simpa [eq_comm] using h1, h2⟩

theorem put_size (a : Act) (d : Option Nat) (v : Value) : (a.put d v).tmps.size = a.tmps.size := by
  cases d <;> simp [Act.put]
theorem put_defers (a : Act) (d : Option Nat) (v : Value) : (a.put d v).defers = a.defers := by
  cases d <;> simp [Act.put]

theorem put_get_ne {a : Act} {d : Option Nat} {v : Value} {i : Nat} (h : d ≠ some i) : (a.put d v).tmps.getD i undef = a.tmps.getD i undef := by
  cases d with
  | none => rfl
  | some d =>
    have : d ≠ i := fun e => h (by rw [e])
    simp [Act.put, Array.getD_eq_getD_getElem?, Array.getElem?_setIfInBounds_ne this]
theorem put_get_eq {a : Act} {d : Nat} {v : Value} (h : d < a.tmps.size) : (a.put (some d) v).tmps.getD d undef = v := by
  simp [Act.put, Array.getD_eq_getD_getElem?, h]

theorem TRep.put {cx : Cx} {w : World} {t : List (Nat × SV)} {a : Act} (hu : Uniq t) (h : TRep cx w t a.tmps) {d : Option Nat} (hd : ∀ d', d = some d' → d' < a.tmps.size) {v : SV} {v' : Value} (hv : SRep cx w v v') :
    TRep cx w (putD d v t) (a.put d v').tmps := by
  intro i x hx
  rw [put_size]
  rcases (putD_uniq hu).2 _ hx with ⟨d', rfl, e⟩ | ⟨h1, h2⟩
  · simp only [Prod.mk.injEq] at e
    obtain ⟨rfl, rfl⟩ := e
    exact ⟨hd _ rfl, by rw [put_get_eq (hd _ rfl)]; exact hv⟩
  · exact ⟨(h i x h2).1, by rw [put_get_ne h1]; exact (h i x h2).2⟩

theorem lk_mem {n : Nat} : ∀ {t : List (Nat × SV)}, lk t n ≠ .top → (n, lk t n) ∈ t
  | [], h => absurd rfl h
  | (k, v) :: r, h => by
    simp only [lk] at h ⊢
    cases h1 : Nat.beq k n with
    | true => have := nbeq.1 h1; subst this; simp
    | false => rw [h1] at h; simp only [cond_false] at h ⊢; exact List.mem_cons_of_mem _ (lk_mem h)

theorem TRep.stt {cx : Cx} {w : World} {t : List (Nat × SV)} {tm : Array Value} (hu : Uniq t) (h : TRep cx w t tm) {d : Nat} {v : SV} (hd : d < tm.size) (hv : SRep cx w v (tm.getD d undef)) : TRep cx w (stt t d v) tm := by
  intro i x hx
  rcases (stt_uniq hu).2 _ hx with e | ⟨_, h2⟩
  · simp only [Prod.mk.injEq] at e
    obtain ⟨rfl, rfl⟩ := e
    exact ⟨hd, hv⟩
  · exact h i x h2

theorem SRep.anyTop (cx : Cx) (w : World) (u : Value) : SRep cx w .top u := by unfold SRep; trivial

/-- What is carried along in a function's frame. -/
structure Frm (a a' : Act) : Prop where
  size : a'.tmps.size = a.tmps.size
  defers : a'.defers = a.defers

theorem Frm.refl (a : Act) : Frm a a := ⟨rfl, rfl⟩
theorem Frm.trans {a b c : Act} (h : Frm a b) (h' : Frm b c) : Frm a c := ⟨h'.size.trans h.size, h'.defers.trans h.defers⟩
theorem Frm.put (a : Act) (d : Option Nat) (v : Value) : Frm a (a.put d v) := ⟨put_size a d v, put_defers a d v⟩

theorem yielded_of {all : List Oper} {ops : Array Oper} (hops : ops.toList = all) {j d : Nat} (hd : (all[j]?).bind (·.dst) = some d) {cx : Cx} {w : World} {t : List (Nat × SV)} {a : Act} {b : Bool} (ht : TRep cx w t a.tmps) (hl : lk t d = .d (.v (.bool b))) :
    d < a.tmps.size ∧ a.tmps.getD d undef = .bool b ∧ yielded ops a.tmps j = some b := by
  have hm := lk_mem (n := d) (t := t) (by rw [hl]; simp)
  obtain ⟨h1, h2⟩ := ht _ _ hm
  rw [hl] at h2
  have h3 := bool_of h2
  refine ⟨h1, h3, ?_⟩
  unfold yielded
  have : ops[j]? = all[j]? := by rw [← hops]; simp
  rw [this, hd]
  simp only [Option.bind_some]
  rw [Array.getElem?_eq_getElem h1]
  rw [Array.getD_eq_getD_getElem?, Array.getElem?_eq_getElem h1] at h3
  simp only [Option.getD_some] at h3
  rw [h3]

theorem yielded_tup {all : List Oper} {ops : Array Oper} (hops : ops.toList = all) {j d : Nat} (hd : (all[j]?).bind (·.dst) = some d) {cx : Cx} {w : World} {t : List (Nat × SV)} {a : Act} (ht : TRep cx w t a.tmps) (hl : lk t d = .tup []) :
    yielded ops a.tmps j = none := by
  have hm := lk_mem (n := d) (t := t) (by rw [hl]; simp)
  obtain ⟨h1, h2⟩ := ht _ _ hm
  rw [hl] at h2
  simp only [SRep] at h2
  obtain ⟨c', h3, _⟩ := h2
  unfold yielded
  have : ops[j]? = all[j]? := by rw [← hops]; simp
  rw [this, hd]
  simp only [Option.bind_some]
  rw [Array.getElem?_eq_getElem h1]
  rw [Array.getD_eq_getD_getElem?, Array.getElem?_eq_getElem h1] at h3
  simp only [Option.getD_some] at h3
  rw [h3]

theorem srep_undef (cx : Cx) (w : World) : SRep cx w (.tup []) undef := by
  simp only [SRep]
  exact ⟨[], rfl, by simp only [SRepL]⟩

section
variable {P : Program} {A : Ann} {Ω : Type} {env : Env Ω} {out : Ω}

theorem sreg_sound (he : EnvOK P env) {nt : Nat} {all : List Oper} {ops : Array Oper} (hops : ops.toList = all) {k : SS → Option Ω} {Q : Exit → Act → World → Prop} :
    ∀ (l : List Oper) (acc : List Nat) (cs : List CR) (s : SS), coR P nt false all l acc = some cs → sreg env A cs s k = some out →
    ∀ (cx : Cx) (w : World) (a : Act), a.tmps.size = nt → Uniq s.t → Gam cx s.h w → TRep cx w s.t a.tmps →
    (∀ cx' w' a' s', k s' = some out → Frm a a' → Uniq s'.t → Grow A.p cx w cx' w' → Gam cx' s'.h w' → TRep cx' w' s'.t a'.tmps → Q .normal a' w') → wpList P ops Q l a w
  | [], acc, cs, s, hc, h, cx, w, a, hsz, hu, hg, ht, hk => by
    simp only [coR, Option.some.injEq] at hc; subst hc
    simp only [sreg] at h
    exact hk cx w a s h (Frm.refl a) hu (Grow.refl _ _ _) hg ht
  | o :: r, acc, cs, s, hc, h, cx, w, a, hsz, hu, hg, ht, hk => by
    simp only [coR] at hc
    obtain ⟨hchk, hc⟩ := cond_some hc
    simp only [Bool.and_eq_true] at hchk
    have hdst : ∀ d, o.dst = some d → d < a.tmps.size := fun d hd => by
      have := hchk.1
      rw [hd] at this
      rw [hsz]; exact nlt this
    split at hc
    · rename_i c l hco hr
      have run : ∀ (s1 : SS), Uniq s1.t → Gam cx s1.h w → TRep cx w s1.t a.tmps → sop env A c s1 (fun v _ s' => sreg env A l ⟨putD o.dst v s'.t, s'.h⟩ k) = some out → o.wp P a w (wpList P ops Q r) Q := by
        intro s1 hu1 hg1 ht1 h1
        have hp : Plain P A o s1 (fun v _ s' => sreg env A l ⟨putD o.dst v s'.t, s'.h⟩ k) out := by
          rcases sop_sound he hco h1 with ⟨_, h⟩ | ⟨_, h⟩ | ⟨_, h⟩
          · exact h.plain
          · exact h.plain
          · exact h
        obtain ⟨v, m, s', h2, hsub, hop⟩ := hp
        refine hop cx w a hg1 ht1 _ _ fun cx' w' v' gr hv ht' hg' => ?_
        have hu' : Uniq s'.t := hu1.sub hsub
        refine sreg_sound he hops r _ l _ hr h2 cx' w' _ ((put_size a o.dst v').trans hsz) (putD_uniq (d := o.dst) (x := v) hu').1 hg' (TRep.put hu' ht' hdst hv) fun cx2 w2 a2 s2 e1 e2 e3 e4 e5 e6 => ?_
        exact hk cx2 w2 a2 s2 e1 ((Frm.put a o.dst v').trans e2) e3 (gr.trans e4) e5 e6
      have skip : ∀ (s1 : SS), Uniq s1.t → Gam cx s1.h w → TRep cx w s1.t a.tmps → sreg env A l ⟨putD o.dst (.tup []) s1.t, s1.h⟩ k = some out → wpList P ops Q r (a.put o.dst undef) w := by
        intro s1 hu1 hg1 ht1 h1
        refine sreg_sound he hops r _ l _ hr h1 cx w _ ((put_size a o.dst undef).trans hsz) (putD_uniq (d := o.dst) (x := .tup []) hu1).1 hg1 (TRep.put hu1 ht1 hdst (srep_undef _ _)) fun cx2 w2 a2 s2 e1 e2 e3 e4 e5 e6 => ?_
        exact hk cx2 w2 a2 s2 e1 ((Frm.put a o.dst undef).trans e2) e3 e4 e5 e6
      unfold wpList
      split at hc
      · rename_i hgd
        simp only [Option.some.injEq] at hc; subst hc
        simp only [sreg] at h
        rw [if_pos (by simp [Region.wanted, hgd])]
        exact .inl (run s hu hg ht h)
      · rename_i j want hgd
        split at hc
        · rename_i d hd
          simp only [Option.some.injEq] at hc; subst hc
          simp only [sreg] at h
          split at h
          · rename_i b hb
            obtain ⟨y1, y2, y3⟩ := yielded_of hops hd ht hb
            have hw : Region.wanted o (yielded ops a.tmps) = (b == want) := by
              simp only [Region.wanted, hgd, y3]
              cases b <;> cases want <;> rfl
            rw [hw]
            rcases br_some h with ⟨rfl, h⟩ | ⟨rfl, h⟩
            · have hs1 := stt_uniq (d := d) (x := .d (.v (.bool true))) hu
              have ht1 := TRep.stt hu ht y1 (v := .d (.v (.bool true))) (by rw [y2]; exact SRep.bool)
              cases want with
              | true => exact .inl (run ⟨_, s.h⟩ hs1.1 hg ht1 h)
              | false => exact skip ⟨_, s.h⟩ hs1.1 hg ht1 h
            · have hs1 := stt_uniq (d := d) (x := .d (.v (.bool false))) hu
              have ht1 := TRep.stt hu ht y1 (v := .d (.v (.bool false))) (by rw [y2]; exact SRep.bool)
              cases want with
              | true => exact skip ⟨_, s.h⟩ hs1.1 hg ht1 h
              | false => exact .inl (run ⟨_, s.h⟩ hs1.1 hg ht1 h)
          · rename_i hb
            rw [if_neg (by
              have hn := yielded_tup hops hd ht hb
              simp [Region.wanted, hgd, hn])]
            exact skip s hu hg ht h
          · simp at h
        · simp at hc
    · simp at hc
end
end Go.Sx

/- Two contexts side by side: a callee that reaches nothing of its caller's, and what it leaves. -/
namespace Go.Sx

/-- Only new blocks came. -/
theorem Gam.later {cx : Cx} {h : SH} {w w' : World} (g : Gam cx h w) (hs : ∀ b, b < w.heap.size → w'.heap[b]? = w.heap[b]?) (hz : w.heap.size ≤ w'.heap.size) (hio : Io w w') : Gam cx h w' ∧ Grow0 cx w cx w' := by
  have gr : Grow0 cx w cx w' := ⟨fun _ h => h, fun b hb => hs b (g.fzlt b hb), hz, fun _ h _ => ⟨h, rfl, rfl, rfl, rfl, rfl⟩, rfl, hio⟩
  refine ⟨⟨g.n, fun m => ?_, fun m hm => Nat.lt_of_lt_of_le (g.lt m hm) hz, g.own, g.inj, fun b hb => Nat.lt_of_lt_of_le (g.fzlt b hb) hz, g.dj⟩, gr⟩
  rcases Nat.lt_or_ge m h.length with hm | hm
  · exact ORep.keep (h := h) gr (g.n ▸ hm) _ rfl (fun hv => hs _ (g.lt m hv)) (g.obj m)
  · rw [hget_ge hm]; trivial

 mutual
def shft (n : Nat) : SV → SV
  | .ptr l o => .ptr (n + l) o
  | .pe l i o => .pe (n + l) i o
  | .own l => .own (n + l)
  | .cs l o sz m c => .cs (n + l) o sz m c
  | .mp l => .mp (n + l)
  | .fn g a b => .fn g (shftL n a) (shftL n b)
  | .agg c => .agg (shftL n c)
  | .tup c => .tup (shftL n c)
  | .md ks c => .md ks (shftL n c)
  | .rc c o => .rc (shftL n c) o
  | .d x => .d x
  | .rp sz f o => .rp sz f o
  | .top => .top
def shftL (n : Nat) : List SV → List SV
  | [] => []
  | x :: r => shft n x :: shftL n r
end

def shftE (n : Nat) : List (Value × SV) → List (Value × SV)
  | [] => []
  | (q, x) :: r => (q, shft n x) :: shftE n r

def shftO (n : Nat) : SO → SO
  | .cells t c => .cells t (shftL n c)
  | .maps es => .maps (shftE n es)
  | o => o

def shftH (n : Nat) : SH → SH
  | [] => []
  | o :: r => shftO n o :: shftH n r

/-! ### two contexts side by side -/
def cxJ (cx cxs : Cx) : Cx where
  n := cx.n + cxs.n
  th := fun l => if l < cx.n then cx.th l else cxs.th (l - cx.n)
  ln := fun l => if l < cx.n then cx.ln l else cxs.ln (l - cx.n)
  cp := fun l => if l < cx.n then cx.cp l else cxs.cp (l - cx.n)
  nl := fun l => if l < cx.n then cx.nl l else cxs.nl (l - cx.n)
  rs := fun l => if l < cx.n then cx.rs l else cxs.rs (l - cx.n)
  fz := fun b => cx.fz b ∨ cxs.fz b
  fr := cx.fr

section
variable {cx cxs : Cx} {w : World}

theorem drep_J {x : DV} {u : Value} (h : DRep cxs.fz w x u) : DRep (cxJ cx cxs).fz w x u := DRep.mono (fun _ hb => .inr hb) (fun _ _ => rfl) x u h

theorem at_J {α : Type} (a b : Nat → α) (l : Nat) : (if cx.n + l < cx.n then a (cx.n + l) else b (cx.n + l - cx.n)) = b l := by
  rw [if_neg (by omega), Nat.add_sub_cancel_left]

 mutual
theorem SRep.shft : ∀ (x : SV) (u : Value), SRep cxs w x u → SRep (cxJ cx cxs) w (shft cx.n x) u
  | .d x, u, h => by simp only [SRep, Sx.shft] at h ⊢; exact drep_J h
  | .ptr l o, u, h => by
      simp only [SRep, Sx.shft] at h ⊢
      simp only [cxJ, at_J]; exact ⟨by omega, h.2⟩
  | .pe l i o, u, h => by
      simp only [SRep, Sx.shft] at h ⊢
      simp only [cxJ, at_J]; exact ⟨by omega, h.2⟩
  | .rp sz f o, u, h => by
      simp only [SRep, Sx.shft] at h ⊢
      obtain ⟨b, o', e, hb, hj⟩ := h
      refine ⟨b, o', e, .inr hb, fun j hl => ?_⟩
      obtain ⟨x, hx, hr⟩ := hj j hl
      exact ⟨x, hx, drep_J hr⟩
  | .own l, u, h => by
      simp only [SRep, Sx.shft] at h ⊢
      simp only [cxJ, at_J]; exact ⟨by omega, h.2⟩
  | .cs l o sz m c, u, h => by
      simp only [SRep, Sx.shft] at h ⊢
      simp only [cxJ, at_J]; exact ⟨by omega, h.2⟩
  | .mp l, u, h => by
      simp only [SRep, Sx.shft] at h ⊢
      simp only [cxJ, at_J]; exact ⟨by omega, h.2⟩
  | .fn g a b, u, h => by
      simp only [SRep, Sx.shft] at h ⊢
      obtain ⟨a', b', e, ha, hb⟩ := h
      exact ⟨a', b', e, SRepL.shft a a' ha, SRepL.shft b b' hb⟩
  | .agg c, u, h => by
      simp only [SRep, Sx.shft] at h ⊢
      obtain ⟨c', e, hc⟩ := h
      exact ⟨c', e, SRepL.shft c c' hc⟩
  | .tup c, u, h => by
      simp only [SRep, Sx.shft] at h ⊢
      obtain ⟨c', e, hc⟩ := h
      exact ⟨c', e, SRepL.shft c c' hc⟩
  | .md ks c, u, h => by
      simp only [SRep, Sx.shft] at h ⊢
      obtain ⟨b, e, c', vs, eu, hb, hw, hl, hk, hc⟩ := h
      exact ⟨b, e, c', vs, eu, .inr hb, hw, hl, hk, SRepL.shft c vs hc⟩
  | .rc c o, u, h => by
      simp only [SRep, Sx.shft] at h ⊢
      obtain ⟨b, vs, eu, hb, hw, hc⟩ := h
      exact ⟨b, vs, eu, .inr hb, hw, SRepL.shft c vs hc⟩
  | .top, u, _ => by simp only [SRep, Sx.shft]
theorem SRepL.shft : ∀ (c : List SV) (c' : List Value), SRepL cxs w c c' → SRepL (cxJ cx cxs) w (shftL cx.n c) c'
  | [], [], _ => by simp only [SRepL, Sx.shftL]
  | x :: r, v :: vs, h => by
      simp only [SRepL, Sx.shftL] at h ⊢
      exact ⟨SRep.shft x v h.1, SRepL.shft r vs h.2⟩
  | [], _ :: _, h => by simp [SRepL] at h
  | _ :: _, [], h => by simp [SRepL] at h
end

theorem SRepE.shft : ∀ (c : List (Value × SV)) (c' : List (Value × Value)), SRepE cxs w c c' → SRepE (cxJ cx cxs) w (shftE cx.n c) c'
  | [], [], _ => by simp only [SRepE, Sx.shftE]
  | (q, x) :: r, (q', v) :: vs, h => by
      simp only [SRepE, Sx.shftE] at h ⊢
      exact ⟨h.1, SRep.shft x v h.2.1, SRepE.shft r vs h.2.2⟩
  | [], _ :: _, h => by simp [SRepE] at h
  | _ :: _, [], h => by simp [SRepE] at h

theorem ORep.shft {l : Nat} : ∀ (o : SO), ORep cxs w l o → ORep (cxJ cx cxs) w (cx.n + l) (shftO cx.n o)
  | .dead, _ => trivial
  | .cells t c, h => by
    obtain ⟨t', c', h1, h2⟩ := h
    exact ⟨t', c', by simp only [cxJ, at_J]; exact h1, SRepL.shft c c' h2⟩
  | .rowi t k xs, h => by
    simp only [ORep, shftO] at h ⊢
    simp only [cxJ, at_J]; exact h
  | .row t sz n f, h => by
    simp only [ORep, shftO] at h ⊢
    simp only [cxJ, at_J]
    refine ⟨h.1, h.2.1, h.2.2.1, h.2.2.2.1, fun hn => ?_⟩
    obtain ⟨t', c', h1, h2, h3⟩ := h.2.2.2.2 hn
    refine ⟨t', c', h1, h2, fun i hi j hj => ?_⟩
    obtain ⟨x, hx, hr⟩ := h3 i hi j hj
    exact ⟨x, hx, drep_J (cx := cx) hr⟩
  | .mapi k es, h => by simp only [ORep, shftO] at h ⊢; simp only [cxJ, at_J]; exact h
  | .mapb es, h => by simp only [ORep, shftO] at h ⊢; simp only [cxJ, at_J]; exact h
  | .maps es, h => by
    obtain ⟨e, c, h1, h2⟩ := h
    exact ⟨e, c, by simp only [cxJ, at_J]; exact h1, SRepE.shft es _ h2⟩
end

theorem shftH_length {n : Nat} : ∀ {h : SH}, (shftH n h).length = h.length
  | [] => rfl
  | o :: r => by simp [shftH, shftH_length (h := r)]
theorem shftH_get {n : Nat} : ∀ {h : SH} {l : Nat}, hget (shftH n h) l = shftO n (hget h l)
  | [], l => by simp [shftH, hget, shftO]
  | o :: r, 0 => by simp [shftH, hget]
  | o :: r, l + 1 => by
    have := @shftH_get n r l
    simpa [shftH, hget] using this

theorem hget_app {h h' : SH} {l : Nat} : hget (h ++ h') l = if l < h.length then hget h l else hget h' (l - h.length) := by
  split
  · rename_i hl; simp [hget, List.getD_eq_getElem?_getD, List.getElem?_append_left hl]
  · rename_i hl; simp [hget, List.getD_eq_getElem?_getD, List.getElem?_append_right (Nat.le_of_not_lt hl)]

/-- The caller's frozen blocks are lent; all others are a frame. -/
def cxF (cx : Cx) (w : World) : Cx := { n := 0, th := fun _ => 0, ln := fun _ => 0, cp := fun _ => 0, nl := fun _ => false, rs := fun _ => 0, fz := cx.fz, fr := fun b => b < w.heap.size ∧ ¬ cx.fz b }

theorem gamF {cx : Cx} {h : SH} {w : World} (g : Gam cx h w) : Gam (cxF cx w) [] w := by
  refine ⟨rfl, fun l => ?_, fun l hl => ?_, fun l hl => ?_, fun l m hl => ?_, fun b hb => ?_, fun b hb hf => hf.2 hb⟩
  · simp [hget, ORep]
  · simp [liv, hget] at hl
  · simp [liv, hget] at hl
  · simp [liv, hget] at hl
  · rcases hb with hb | hb
    · exact g.fzlt b (.inl hb)
    · exact hb.1

theorem cxF_all {cx : Cx} {w : World} {b : Nat} (hb : b < w.heap.size) : (cxF cx w).hd b := by
  by_cases h : cx.fz b
  · exact .inl h
  · exact .inr ⟨hb, h⟩

 mutual
theorem SRep.noloc {cx cx' : Cx} {w : World} (hf : cx'.fz = cx.fz) : ∀ (x : SV) (u : Value), ment (fun _ => true) x = false → SRep cx w x u → SRep cx' w x u
  | .d x, u, _, h => by simp only [SRep] at h ⊢; rw [hf]; exact h
  | .rp sz f o, u, _, h => by simp only [SRep] at h ⊢; rw [hf]; exact h
  | .top, u, _, _ => by simp only [SRep]
  | .ptr l o, u, hm, _ => by simp [ment] at hm
  | .pe l i o, u, hm, _ => by simp [ment] at hm
  | .own l, u, hm, _ => by simp [ment] at hm
  | .cs l o sz m c, u, hm, _ => by simp [ment] at hm
  | .mp l, u, hm, _ => by simp [ment] at hm
  | .fn g a b, u, hm, h => by
      simp only [SRep, ment, Bool.or_eq_false_iff] at h hm ⊢
      obtain ⟨a', b', e, ha, hb⟩ := h
      exact ⟨a', b', e, SRepL.noloc hf a a' hm.1 ha, SRepL.noloc hf b b' hm.2 hb⟩
  | .agg c, u, hm, h => by
      simp only [SRep, ment] at h hm ⊢
      obtain ⟨c', e, hc⟩ := h
      exact ⟨c', e, SRepL.noloc hf c c' hm hc⟩
  | .tup c, u, hm, h => by
      simp only [SRep, ment] at h hm ⊢
      obtain ⟨c', e, hc⟩ := h
      exact ⟨c', e, SRepL.noloc hf c c' hm hc⟩
  | .md ks c, u, hm, h => by
      simp only [SRep, ment] at h hm ⊢
      obtain ⟨b, e, c', vs, eu, hb, hw, hl, hk, hc⟩ := h
      exact ⟨b, e, c', vs, eu, by rw [hf]; exact hb, hw, hl, hk, SRepL.noloc hf c vs hm hc⟩
  | .rc c o, u, hm, h => by
      simp only [SRep, ment] at h hm ⊢
      obtain ⟨b, vs, eu, hb, hw, hc⟩ := h
      exact ⟨b, vs, eu, by rw [hf]; exact hb, hw, SRepL.noloc hf c vs hm hc⟩
theorem SRepL.noloc {cx cx' : Cx} {w : World} (hf : cx'.fz = cx.fz) : ∀ (c : List SV) (c' : List Value), mentL (fun _ => true) c = false → SRepL cx w c c' → SRepL cx' w c c'
  | [], [], _, _ => by simp only [SRepL]
  | x :: r, v :: vs, hm, h => by
      simp only [SRepL, mentL, Bool.or_eq_false_iff] at h hm ⊢
      exact ⟨SRep.noloc hf x v hm.1 h.1, SRepL.noloc hf r vs hm.2 h.2⟩
  | [], _ :: _, _, h => by simp [SRepL] at h
  | _ :: _, [], _, h => by simp [SRepL] at h
end

theorem join_gam {cx : Cx} {h h' : SH} {w w' : World} (hg : Gam cx h w) {p : Nat → Bool} {cxs : Cx} (gr : Grow p (cxF cx w) w cxs w') (hG : Gam cxs h' w') :
    Gam (cxJ cx cxs) (h ++ shftH h.length h') w' ∧ Grow0 cx w (cxJ cx cxs) w' := by
  have hsame : ∀ b, b < w.heap.size → w'.heap[b]? = w.heap[b]? := fun b hb => gr.same b (cxF_all hb)
  obtain ⟨g1, _⟩ := Gam.later hg hsame gr.size gr.io
  have hn := hg.n
  have hns := hG.n
  have gr' : Grow0 cx w (cxJ cx cxs) w' := ⟨fun b hb => .inl hb, fun b hb => hsame b (hg.fzlt b hb), gr.size, fun l hl _ => by
    refine ⟨by simp only [cxJ]; omega, ?_, ?_, ?_, ?_, ?_⟩ <;> simp [cxJ, hl], rfl, gr.io⟩
  have hfrs : ∀ b, cxs.fr b ↔ (b < w.heap.size ∧ ¬ cx.fz b) := fun b => by rw [gr.fr]; rfl
  have hget' : ∀ l, hget (h ++ shftH h.length h') l = if l < cx.n then hget h l else shftO cx.n (hget h' (l - cx.n)) := fun l => by
    rw [hget_app, shftH_get, ← hn]
  have lo : ∀ l, l < cx.n → liv (cxJ cx cxs) (h ++ shftH h.length h') l → liv cx h l := fun l hl hv => by
    unfold liv at hv ⊢
    rw [hget', if_pos hl] at hv
    simpa [cxJ, hl] using hv
  have hi : ∀ l, ¬ l < cx.n → liv (cxJ cx cxs) (h ++ shftH h.length h') l → liv cxs h' (l - cx.n) := fun l hl hv => by
    unfold liv at hv ⊢
    rw [hget', if_neg hl] at hv
    cases e : hget h' (l - cx.n) with
    | dead => rw [e] at hv; exact hv
    | rowi t k xs => rw [e] at hv; simpa [cxJ, hl, shftO] using hv
    | row t sz n f => rw [e] at hv; simpa [cxJ, hl, shftO] using hv
    | _ => trivial
  have new : ∀ l, liv cxs h' l → w.heap.size ≤ cxs.th l := fun l hl => by
    rcases Nat.lt_or_ge (cxs.th l) w.heap.size with h1 | h1
    · exact absurd (gr.hd _ (cxF_all h1)) (hG.own l hl)
    · exact h1
  refine ⟨⟨by simp [cxJ, shftH_length, hn, hns], fun l => ?_, fun l hl => ?_, fun l hl hhd => ?_, fun l m hl hm e => ?_, fun b hb => ?_, fun b hb hf => ?_⟩, gr'⟩
  · rw [hget']
    split
    · rename_i hl
      exact ORep.keep (h := h) gr' hl _ rfl (fun hv => hsame _ (hg.lt l hv)) (hg.obj l)
    · rename_i hl
      have := ORep.shft (cx := cx) (l := l - cx.n) _ (hG.obj (l - cx.n))
      rwa [show cx.n + (l - cx.n) = l by omega] at this
  · by_cases h1 : l < cx.n
    · have := hg.lt l (lo l h1 hl)
      simp only [cxJ, h1, if_true]; exact Nat.lt_of_lt_of_le this gr.size
    · simp only [cxJ, h1, if_false]; exact hG.lt _ (hi l h1 hl)
  · by_cases h1 : l < cx.n
    · have h2 := lo l h1 hl
      have hlt := hg.lt l h2
      simp only [cxJ, Cx.hd, h1, if_true] at hhd
      rcases hhd with (h3 | h3) | h3
      · exact hg.own l h2 (.inl h3)
      · refine hG.dj _ h3 ((hfrs _).2 ⟨hlt, fun h4 => hg.own l h2 (.inl h4)⟩)
      · exact hg.own l h2 (.inr h3)
    · have h2 := hi l h1 hl
      have hge := new _ h2
      simp only [cxJ, Cx.hd, h1, if_false] at hhd
      rcases hhd with (h3 | h3) | h3
      · have := hg.fzlt _ (.inl h3); omega
      · exact hG.own _ h2 (.inl h3)
      · have := hg.fzlt _ (.inr h3); omega
  · by_cases h1 : l < cx.n <;> by_cases h2 : m < cx.n
    · simp only [cxJ, h1, h2, if_true] at e
      exact hg.inj l m (lo l h1 hl) (lo m h2 hm) e
    · simp only [cxJ, h1, h2, if_true, if_false] at e
      have a := hg.lt l (lo l h1 hl)
      have b := new _ (hi m h2 hm)
      omega
    · simp only [cxJ, h1, h2, if_true, if_false] at e
      have a := hg.lt m (lo m h2 hm)
      have b := new _ (hi l h1 hl)
      omega
    · simp only [cxJ, h1, h2, if_false] at e
      have := hG.inj _ _ (hi l h1 hl) (hi m h2 hm) e
      omega
  · rcases hb with (h1 | h1) | h1
    · exact Nat.lt_of_lt_of_le (hg.fzlt b (.inl h1)) gr.size
    · exact hG.fzlt b (.inl h1)
    · exact Nat.lt_of_lt_of_le (hg.fzlt b (.inr h1)) gr.size
  · have hlt := hg.fzlt b (.inr hf)
    rcases hb with h1 | h1
    · exact hg.dj b h1 hf
    · exact hG.dj b h1 ((hfrs b).2 ⟨hlt, fun h2 => hg.dj b h2 hf⟩)


 mutual
theorem shft_noloc {n : Nat} : ∀ x : SV, ment (fun _ => true) x = false → shft n x = x
  | .d x, _ | .rp sz g o, _ | .top, _ => by simp only [shft]
  | .ptr l o, h | .pe l i o, h | .own l, h | .cs l o sz m c, h | .mp l, h => by simp [ment] at h
  | .fn g a b, h => by
    simp only [ment, Bool.or_eq_false_iff] at h
    simp only [shft, shftL_noloc a h.1, shftL_noloc b h.2]
  | .agg c, h | .tup c, h | .md _ c, h | .rc c _, h => by
    simp only [ment] at h
    simp only [shft, shftL_noloc c h]
theorem shftL_noloc {n : Nat} : ∀ c : List SV, mentL (fun _ => true) c = false → shftL n c = c
  | [], _ => by simp only [shftL]
  | x :: r, h => by
    simp only [mentL, Bool.or_eq_false_iff] at h
    simp only [shftL, shft_noloc x h.1, shftL_noloc r h.2]
end

/-- An operation that looks at a part of the heap, and may only make what no loc names. -/
def Look (P : Program) (o : Oper) (s : SS) (v : SV) : Prop :=
  ∀ (cx : Cx) (w : World) (a : Act) (h : SH), Gam cx h w → Seen cx s.h w → TRep cx w s.t a.tmps → ∀ (next : Act → World → Prop) (Q : Exit → Act → World → Prop),
    (∀ cx' w' v', Grow0 cx w cx' w' → SRep cx' w' v v' → Gam cx' h w' → next (a.put o.dst v') w') → o.wp P a w next Q

theorem Still.look {P : Program} {o : Oper} {s : SS} {v : SV} (h : Still P o s v) : Look P o s v := fun cx w a hh hG hS ht next Q hn => by
  obtain ⟨v', hrun, hv⟩ := h cx w a hS ht
  unfold Oper.wp
  rw [hrun, Oper.upon_value]
  exact hn cx w v' (Grow.refl _ _ _) hv hG

theorem mentT_of {p : Nat → Bool} : ∀ {t : List (Nat × SV)} {i : Nat} {x : SV}, mentT p t = false → (i, x) ∈ t → ment p x = false
  | (k, y) :: r, i, x, h, hm => by
    simp only [mentT, Bool.or_eq_false_iff] at h
    rcases List.mem_cons.1 hm with e | hm
    · simp only [Prod.mk.injEq] at e
      obtain ⟨rfl, rfl⟩ := e
      exact h.1
    · exact mentT_of h.2 hm

/-- A call on an empty heap. -/
theorem look_call {P : Program} {o : Oper} {t : List (Nat × SV)} {v : SV} (h : OpOK0 P o ⟨t, []⟩ v ⟨t, []⟩) (ht : mentT (fun _ => true) t = false) (hv : ment (fun _ => true) v = false) (hm : SH) : Look P o ⟨t, hm⟩ v := fun cx w a hh hG _ hT next Q hn => by
  refine h (cxF cx w) w a (gamF hG) (fun i x hx => ⟨(hT i x hx).1, SRep.noloc (cx := cx) (cx' := cxF cx w) rfl x _ (mentT_of ht hx) (hT i x hx).2⟩) next Q fun cx' w' v' gr hr _ hG' => ?_
  obtain ⟨k1, k2⟩ := join_gam hG gr hG'
  refine hn _ w' v' k2 ?_ (by simpa [shftH] using k1)
  have := SRep.shft (cx := cx) v v' hr
  rwa [shft_noloc v hv] at this
end Go.Sx

/- A block laid ahead of its turn: it waits outside, and is taken in when its turn comes. -/
namespace Go.Sx
/-- A context that owns nothing: one block lent as data, the rest a frame. -/
def cxL (w : World) (d : Nat → Prop) : Cx := { n := 0, th := fun _ => 0, ln := fun _ => 0, cp := fun _ => 0, nl := fun _ => false, rs := fun _ => 0, fz := fun b => b < w.heap.size ∧ d b, fr := fun b => b < w.heap.size ∧ ¬ d b }

theorem gamL (w : World) (d : Nat → Prop) : Gam (cxL w d) [] w := by
  refine ⟨rfl, fun l => ?_, fun l hl => ?_, fun l hl => ?_, fun l m hl => ?_, fun b hb => ?_, fun b hb hf => hf.2 hb.2⟩
  · simp [hget, ORep]
  · simp [liv, hget] at hl
  · simp [liv, hget] at hl
  · simp [liv, hget] at hl
  · rcases hb with hb | hb
    · exact hb.1
    · exact hb.1

theorem cxL_all {w : World} {d : Nat → Prop} {b : Nat} (hb : b < w.heap.size) : (cxL w d).hd b := by
  by_cases h : d b
  · exact .inl ⟨hb, h⟩
  · exact .inr ⟨hb, h⟩

 mutual
theorem SRep.frm {cx : Cx} {w : World} {f : Nat → Prop} : ∀ (x : SV) (u : Value), SRep cx w x u → SRep { cx with fr := f } w x u
  | .d x, u, h | .ptr l o, u, h | .pe l i o, u, h | .rp sz g o, u, h | .own l, u, h | .cs l o sz n c, u, h | .mp l, u, h | .top, u, h => by simp only [SRep] at h ⊢; try exact h
  | .fn q a b, u, h => by
    simp only [SRep] at h ⊢
    obtain ⟨a', b', e, ha, hb⟩ := h
    exact ⟨a', b', e, SRepL.frm a a' ha, SRepL.frm b b' hb⟩
  | .agg c, u, h | .tup c, u, h => by
    simp only [SRep] at h ⊢
    obtain ⟨c', e, hc⟩ := h
    exact ⟨c', e, SRepL.frm c c' hc⟩
  | .md ks c, u, h => by
    simp only [SRep] at h ⊢
    obtain ⟨b, e, c', vs, eu, hb, hw, hl, hk, hc⟩ := h
    exact ⟨b, e, c', vs, eu, hb, hw, hl, hk, SRepL.frm c vs hc⟩
  | .rc c o, u, h => by
    simp only [SRep] at h ⊢
    obtain ⟨b, vs, eu, hb, hw, hc⟩ := h
    exact ⟨b, vs, eu, hb, hw, SRepL.frm c vs hc⟩
theorem SRepL.frm {cx : Cx} {w : World} {f : Nat → Prop} : ∀ (c : List SV) (c' : List Value), SRepL cx w c c' → SRepL { cx with fr := f } w c c'
  | [], [], _ => by simp only [SRepL]
  | x :: r, v :: vs, h => by simp only [SRepL] at h ⊢; exact ⟨SRep.frm x v h.1, SRepL.frm r vs h.2⟩
  | [], _ :: _, h => by simp [SRepL] at h
  | _ :: _, [], h => by simp [SRepL] at h
end

theorem SRepE.frm {cx : Cx} {w : World} {f : Nat → Prop} : ∀ (c : List (Value × SV)) (c' : List (Value × Value)), SRepE cx w c c' → SRepE { cx with fr := f } w c c'
  | [], [], _ => by simp only [SRepE]
  | (q, x) :: r, (q', v) :: vs, h => by simp only [SRepE] at h ⊢; exact ⟨h.1, SRep.frm x v h.2.1, SRepE.frm r vs h.2.2⟩
  | [], _ :: _, h => by simp [SRepE] at h
  | _ :: _, [], h => by simp [SRepE] at h

theorem ORep.frm {cx : Cx} {w : World} {f : Nat → Prop} {l : Nat} {o : SO} (h : ORep cx w l o) : ORep { cx with fr := f } w l o := by
  cases o with
  | cells t c => obtain ⟨t', c', h1, h2⟩ := h; exact ⟨t', c', h1, h2.frm⟩
  | maps es => obtain ⟨e, c, h1, h2⟩ := h; exact ⟨e, c, h1, h2.frm⟩
  | _ => exact h


theorem allV_flat {cx cx' : Cx} {w w' : World} : ∀ {z : List SV} {c : List Value}, allV z = true → SRepL cx w z c → SRepL cx' w' z c
  | [], [], _, _ => by simp only [SRepL]
  | .d (.v x) :: r, v :: vs, h, hr => by
    simp only [SRepL, SRep, DRep] at hr ⊢
    exact ⟨hr.1, allV_flat (by simpa [allV] using h) hr.2⟩
  | [], _ :: _, _, h => by simp [SRepL] at h
  | _ :: _, [], _, h => by simp [SRepL] at h

/-- The block B holds the cells z, and is nobody's. -/
structure Free (cx : Cx) (h : SH) (w : World) (B : Nat) (z : List SV) : Prop where
  lt : B < w.heap.size
  hd : ¬ cx.hd B
  th : ∀ m, liv cx h m → B ≠ cx.th m
  ob : ∃ t c, w.heap[B]? = some (.cells ⟨c⟩ t (0, 0)) ∧ ∀ cx w, SRepL cx w z c

def lendC (cx : Cx) (B : Nat) : Cx := { cx with fr := fun b => cx.fr b ∨ b = B }
def backC (cx cx' : Cx) : Cx := { cx' with fr := cx.fr }

theorem Gam.lend {cx : Cx} {h : SH} {w : World} {B : Nat} {z : List SV} (g : Gam cx h w) (f : Free cx h w B z) : Gam (lendC cx B) h w := by
  refine ⟨g.n, fun l => (g.obj l).frm, g.lt, fun l hl hh => ?_, g.inj, fun b hb => ?_, fun b hb hf => ?_⟩
  · rcases hh with hh | hh | hh
    · exact g.own l hl (.inl hh)
    · exact g.own l hl (.inr hh)
    · exact f.th l hl hh.symm
  · rcases hb with hb | hb | hb
    · exact g.fzlt b (.inl hb)
    · exact g.fzlt b (.inr hb)
    · rw [hb]; exact f.lt
  · rcases hf with hf | hf
    · exact g.dj b hb hf
    · subst hf; exact f.hd (.inl hb)

theorem Gam.back {p : Nat → Bool} {cx cx' : Cx} {h h' : SH} {w w' : World} {B : Nat} {z : List SV} (g : Gam cx' h' w') (gr : Grow p (lendC cx B) w cx' w') (f : Free cx h w B z) :
    Gam (backC cx cx') h' w' ∧ Grow p cx w (backC cx cx') w' ∧ Free (backC cx cx') h' w' B z := by
  have hB : cx'.fr B := by rw [gr.fr]; exact .inr rfl
  have hsub : ∀ b, (backC cx cx').hd b → cx'.hd b := fun b hb => hb.imp id fun h => by rw [gr.fr]; exact .inl h
  refine ⟨⟨g.n, fun l => (g.obj l).frm, g.lt, fun l hl hh => g.own l hl (hsub _ hh), g.inj, fun b hb => g.fzlt b (hsub b hb), fun b hb hf => ?_⟩,
    ⟨gr.fz, fun b hb => gr.same b (hb.imp id .inl), gr.size, gr.loc, rfl, gr.io⟩, Nat.lt_of_lt_of_le f.lt gr.size, fun hh => ?_, fun m hm e => ?_, ?_⟩
  · exact g.dj b hb (by rw [gr.fr]; exact .inl hf)
  · rcases hh with hh | hh
    · exact g.dj B hh hB
    · exact f.hd (.inr hh)
  · exact g.own m hm (by have e' : B = cx'.th m := e; rw [← e']; exact .inr hB)
  · obtain ⟨t, c, h1, h2⟩ := f.ob
    exact ⟨t, c, by rw [gr.same B (.inr (.inr rfl))]; exact h1, h2⟩

theorem Gam.took {cx : Cx} {h : SH} {w : World} {B : Nat} {z : List SV} (g : Gam cx h w) (f : Free cx h w B z) (t : TypeId) :
    Gam (cx.ext B 0 0 false 0) (h ++ [.cells t z]) w ∧ Grow0 cx w (cx.ext B 0 0 false 0) w ∧ SRep (cx.ext B 0 0 false 0) w (.ptr h.length 0) (.pointer (some (ad B 0))) := by
  obtain ⟨t', c, h1, h2⟩ := f.ob
  obtain ⟨k1, k2⟩ := g.take (.cells t z) B 0 0 false 0 (by simp only [ORep, Cx.ext]; exact ⟨t', c, by simpa using h1, h2 _ _⟩) (fun _ => ⟨f.lt, f.hd, f.th⟩)
  refine ⟨k1, k2, ?_⟩
  simp only [SRep, Cx.ext, g.n]; simp [← g.n]

/-- The step that lays the block. -/
theorem lay_free {P : Program} {o : Oper} {t : TypeId} {z : List SV} (hop : OpOK0 P o ⟨[], []⟩ (.ptr 0 0) ⟨[], [.cells t z]⟩) (hz : allV z = true) {cx : Cx} {h : SH} {w : World} {a : Act} (g : Gam cx h w) {next : Act → World → Prop} {Q : Exit → Act → World → Prop}
    (hn : ∀ w' B, Gam cx h w' → Grow0 cx w cx w' → Free cx h w' B z → next (a.put o.dst (.pointer (some (ad B 0)))) w') : o.wp P a w next Q := by
  refine hop (cxL w (fun _ => False)) w a (gamL w _) (fun i x hx => by simp at hx) next Q fun cx' w' v' gr hr _ hG => ?_
  obtain ⟨k1, k2⟩ := g.later (w' := w') (fun b hb => gr.same b (cxL_all hb)) gr.size gr.io
  simp only [SRep] at hr
  rw [hr.2]
  have hlv : liv cx' [.cells t z] 0 := by simp [liv, hget]
  have hge : w.heap.size ≤ cx'.th 0 := by
    rcases Nat.lt_or_ge (cx'.th 0) w.heap.size with h1 | h1
    · exact absurd (gr.hd _ (cxL_all h1)) (hG.own 0 hlv)
    · exact h1
  refine hn w' _ k1 k2 ⟨hG.lt 0 hlv, fun hh => ?_, fun m hm e => ?_, ?_⟩
  · have := g.fzlt _ hh; omega
  · have := g.lt m hm; omega
  · have := hG.obj 0
    simp only [hget, List.getD_cons_zero, ORep] at this
    obtain ⟨t', c', h1, h2⟩ := this
    exact ⟨t', c', h1, fun _ _ => allV_flat hz h2⟩
end Go.Sx
