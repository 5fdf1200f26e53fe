/- All operations together. -/
import Derived.Test.YtljmncdlehinnaaSxOps14
set_option linter.unusedVariables false
set_option linter.unusedSimpArgs false
namespace Go.Sx

section
variable {P : Program} {A : Ann} {o : Oper} {s : SS} {Ω : Type} {k : SV → List Nat → SS → Option Ω} {out : Ω}

def Sound (P : Program) (A : Ann) (o : Oper) (c : CO) (s : SS) (k : SV → List Nat → SS → Option Ω) (out : Ω) : Prop :=
  (cls c ≤ 1 ∧ PlainV P o s k out) ∨ (cls c = 2 ∧ PlainE P o s k out) ∨ (cls c = 3 ∧ Plain P A o s k out)

theorem and_some {α : Type} {b : Bool} {x : Option α} {r : α} (h : (bif b then none else x) = some r) : b = false ∧ x = some r := by
  cases b <;> simp_all

theorem ne_of_beq {a b : Nat} (h : (!(Nat.beq a b)) = true) : a ≠ b := by
  intro e; subst e; simp at h

theorem infoAll_mem : ∀ {fs : List Field}, infoAll P fs = true → ∀ f ∈ fs, ∃ i, P.info? f.type = some i
  | [], _, f, hf => by simp at hf
  | g :: r, h, f, hf => by
    simp only [infoAll, Bool.and_eq_true] at h
    rcases List.mem_cons.1 hf with rfl | hf
    · exact Option.isSome_iff_exists.1 h.1
    · exact infoAll_mem h.2 f hf

theorem nmem_iff {t : Nat} : ∀ {l : List Nat}, nmem t l = false ↔ t ∉ l
  | [] => by simp [nmem]
  | x :: r => by
    simp only [nmem]
    cases hb : Nat.beq x t with
    | true => have := Nat.eq_of_beq_eq_true hb; simp [this]
    | false =>
      have : x ≠ t := fun e => by subst e; simp at hb
      simp [nmem_iff (l := r)]; intro _ e; exact this e.symm

theorem Keeps.set {h : SH} {l : Nat} {o : SO} {m : List Nat} (hl : l ∈ m) : Keeps m h (h.set l o) :=
  ⟨by simp, fun i hi hm => by
    have : l ≠ i := fun e => nmem_iff.1 hm (e ▸ hl)
    simp [hget, List.getD_eq_getElem?_getD, List.getElem?_set_ne this]⟩

theorem Keeps.refl (m : List Nat) (h : SH) : Keeps m h h := ⟨Nat.le_refl _, fun _ _ _ => rfl⟩
theorem Keeps.trans {m : List Nat} {h1 h2 h3 : SH} (a : Keeps m h1 h2) (b : Keeps m h2 h3) : Keeps m h1 h3 :=
  ⟨Nat.le_trans a.1 b.1, fun l hl hm => by rw [b.2 l (by have := a.1; omega) hm, a.2 l hl hm]⟩

theorem frz_keeps {h h' : SH} {x y : SV} {m : List Nat} (hf : frz h x = some (y, h')) (hm : ∀ l ∈ locsOf x, l ∈ m) : Keeps m h h' := by
  unfold frz at hf
  split at hf
  · split at hf <;> simp only [Option.some.injEq, Prod.mk.injEq, reduceCtorEq] at hf
    · rw [← hf.2]; exact .set (hm _ (by simp [locsOf]))
    · rw [← hf.2]; exact .set (hm _ (by simp [locsOf]))
  · simp only [Option.some.injEq, Prod.mk.injEq] at hf
    rw [← hf.2]; exact .refl _ _

theorem frzL_keeps : ∀ {c ys : List SV} {h h' : SH} {m : List Nat}, frzL h c = some (ys, h') → (∀ l ∈ c.flatMap locsOf, l ∈ m) → Keeps m h h'
  | [], ys, h, h', m, hf, _ => by simp only [frzL, Option.some.injEq, Prod.mk.injEq] at hf; rw [← hf.2]; exact .refl _ _
  | x :: r, ys, h, h', m, hf, hm => by
    simp only [frzL] at hf
    split at hf
    · rename_i y h1 h2
      split at hf
      · rename_i ys' h3 h4
        simp only [Option.some.injEq, Prod.mk.injEq] at hf
        rw [← hf.2]
        exact (frz_keeps h2 fun l hl => hm l (by simp [hl])).trans (frzL_keeps h4 fun l hl => hm l (by
          simp only [List.flatMap_cons, List.mem_append]; exact .inr hl))
      · simp at hf
    · simp at hf

theorem sto_keeps {h h' : SH} {p : SV} {c : List SV} (hs : sto h p c = some h') : Keeps (locsOf p ++ c.flatMap locsOf) h h' := by
  unfold sto at hs
  split at hs
  · split at hs
    · have := (cond_some hs).2
      simp only [Option.some.injEq] at this
      rw [← this]; exact .set (by simp [locsOf])
    · simp at hs
  · rename_i l i o
    split at hs
    · simp at hs
    · rename_i ys h1 hf
      refine (frzL_keeps hf fun l hl => by simp [hl]).trans ?_
      split at hs
      · have hA := (cond_some hs).2
        split at hA
        · simp only [Option.some.injEq] at hA; rw [← hA]; exact .set (by simp [locsOf])
        · simp at hA
      · split at hs
        · have hA := (cond_some hs).2
          simp only [Option.some.injEq] at hA; rw [← hA]; exact .set (by simp [locsOf])
        · simp at hs
      · simp at hs
  · simp at hs

theorem allOk_no : ∀ {sc : List Nat} {l : Nat}, allOk A sc = true → A.p l = false → nmem l sc = false
  | [], _, _, _ => rfl
  | m :: r, l, h, hl => by
    simp only [allOk, Bool.and_eq_true] at h
    simp only [nmem]
    cases hb : Nat.beq m l with
    | true => rw [Nat.eq_of_beq_eq_true hb] at h; simp [Ann.p, h.1] at hl
    | false => exact allOk_no h.2 hl

theorem coL_one {xs : List Operand} {a : CA} (h : coL xs = some [a]) : ∃ x, xs = [x] ∧ coA x = some a := by
  match xs with
  | [] => simp [coL] at h
  | x :: r =>
    simp only [coL] at h
    split at h
    · rename_i y l hy hl
      simp only [Option.some.injEq, List.cons.injEq] at h
      obtain ⟨rfl, rfl⟩ := h
      match r with
      | [] => exact ⟨x, rfl, hy⟩
      | z :: r' => simp only [coL] at hl; split at hl <;> simp at hl
    · simp at h

theorem coL_two {xs : List Operand} {a b : CA} (h : coL xs = some [a, b]) : ∃ x y, xs = [x, y] ∧ coA x = some a ∧ coA y = some b := by
  match xs with
  | [] => simp [coL] at h
  | x :: r =>
    simp only [coL] at h
    split at h
    · rename_i y l hy hl
      simp only [Option.some.injEq, List.cons.injEq] at h
      obtain ⟨rfl, rfl⟩ := h
      obtain ⟨z, rfl, hz⟩ := coL_one hl
      exact ⟨x, z, rfl, hy, hz⟩
    · simp at h

theorem sound_b {b : Builtin} {args : Array Operand} {ats : Array TypeId} {args' : List CA} {c : CO} (ho : o.op = .call { callee := .builtin b, args := args, argTypes := ats }) (ha : coL args.toList = some args')
    (hc : coB P b ats.toList args' = some c) {env : Env Ω} (h : sop env A c s k = some out) : Sound P A o c s k out := by
  unfold coB at hc
  split at hc
  · -- len
    rename_i x' t e2
    obtain ⟨x, hx, hy⟩ := coL_one ha
    obtain rfl : args = #[x] := Array.ext' (by simpa using hx)
    obtain rfl : ats = #[t] := Array.ext' (by simpa using e2)
    split at hc
    · rename_i e hu
      simp only [Option.some.injEq] at hc; subst hc
      exact .inl ⟨by simp [cls], snd_len ho hy hu h⟩
    · rename_i hu
      simp only [Option.some.injEq] at hc; subst hc
      exact .inl ⟨by simp [cls], snd_lens ho hy hu h⟩
    · rename_i q e hu
      simp only [Option.some.injEq] at hc; subst hc
      exact .inl ⟨by simp [cls], snd_lenm ho hy hu h⟩
    · rename_i n e hu
      simp only [Option.some.injEq] at hc; subst hc
      exact .inl ⟨by simp [cls], snd_lenc ho hu h⟩
    · simp at hc
  · rename_i x' y' t u e2
    obtain ⟨x, y, hxy, hx, hy⟩ := coL_two ha
    obtain rfl : args = #[x, y] := Array.ext' (by simpa using hxy)
    obtain rfl : ats = #[t, u] := Array.ext' (by simpa using e2)
    split at hc
    · rename_i e e' ht hu
      obtain ⟨hb, hc⟩ := cond_some hc
      simp only [Bool.and_eq_true] at hb
      simp only [Option.some.injEq] at hc; subst hc
      exact .inr (.inr ⟨by simp [cls], snd_app ho hx hy ht hu (ne_of_beq hb.2.1) (ne_of_beq hb.2.2.2.1) hb.2.2.2.2 hb.2.2.1 h⟩)
    · simp at hc
  · rename_i x' y' e1
    obtain ⟨x, y, hxy, hx, hy⟩ := coL_two ha
    obtain rfl : args = #[x, y] := Array.ext' (by simpa using hxy)
    simp only [Option.some.injEq] at hc; subst hc
    exact .inl ⟨by simp [cls], snd_mn ho hx hy h⟩
  · rename_i x' y' e1
    obtain ⟨x, y, hxy, hx, hy⟩ := coL_two ha
    obtain rfl : args = #[x, y] := Array.ext' (by simpa using hxy)
    simp only [Option.some.injEq] at hc; subst hc
    exact .inl ⟨by simp [cls], snd_mx ho hx hy h⟩
  · simp at hc

theorem sop_sound {env : Env Ω} (he : EnvOK P env) {c : CO} (hc : coOp P o.op = some c) (h : sop env A c s k = some out) : Sound P A o c s k out := by
  unfold coOp at hc
  split at hc
  · -- move
    rename_i x ho
    obtain ⟨y, hy, rfl⟩ := Option.map_eq_some_iff.1 hc
    exact .inl ⟨by simp [cls], _, h, snd_mv (.inl ho) hy⟩
  · rename_i x ho
    obtain ⟨y, hy, rfl⟩ := Option.map_eq_some_iff.1 hc
    exact .inl ⟨by simp [cls], _, h, snd_mv (.inr ho) hy⟩
  · rename_i ho
    split at hc
    · rename_i h1 h2 h3
      simp only [Option.some.injEq] at hc; subst hc
      exact .inl ⟨by simp [cls], snd_pick ho h1 h2 h3 h⟩
    · simp at hc
  · rename_i t ho
    obtain ⟨z, hz, rfl⟩ := Option.map_eq_some_iff.1 hc
    exact .inr (.inl ⟨by simp [cls], _, _, _, h, snd_newc ho hz, .new _ _⟩)
  · rename_i t x ho
    obtain ⟨_, hc⟩ := and_some hc
    obtain ⟨y, hy, rfl⟩ := Option.map_eq_some_iff.1 hc
    simp only [sop] at h
    split at h
    · rename_i z hz
      exact .inr (.inl ⟨by simp [cls], _, _, _, (cond_some h).2, snd_box ho hy hz, .new _ _⟩)
    · simp at h
  · -- build
    rename_i t ps ho
    split at hc
    · rename_i fs z hu hz
      obtain ⟨hi, hc⟩ := cond_some hc
      obtain ⟨qs, hq, rfl⟩ := Option.map_eq_some_iff.1 hc
      exact .inl ⟨by simp [cls], snd_bld_struct ho hu hz hq (infoAll_mem hi) h⟩
    · rename_i n e z hu hz
      obtain ⟨hi, hc⟩ := cond_some hc
      obtain ⟨qs, hq, rfl⟩ := Option.map_eq_some_iff.1 hc
      exact .inl ⟨by simp [cls], snd_bld_array ho hu hz hq (Option.isSome_iff_exists.1 hi) h⟩
    · simp at hc
  · -- buildSlice
    rename_i t n ps ho
    split at hc
    · rename_i e hu
      split at hc
      · rename_i z hz
        obtain ⟨hb, hc⟩ := cond_some hc
        simp only [Bool.and_eq_true] at hb
        obtain ⟨qs, hq, rfl⟩ := Option.map_eq_some_iff.1 hc
        exact .inr (.inl ⟨by simp [cls], snd_bsl ho hu hz hq (Nat.le_of_ble_eq_true hb.1) (ne_of_beq hb.2) h⟩)
      · simp at hc
    · simp at hc
  · -- load
    rename_i t x ho
    obtain ⟨hok, hc⟩ := cond_some hc
    obtain ⟨y, hy, rfl⟩ := Option.map_eq_some_iff.1 hc
    simp only [sop] at h
    split at h
    · rename_i c hl
      cases ha : aggT P t with
      | true =>
        rw [ha] at h
        exact .inl ⟨by simp [cls], _, h, snd_ld ho hy (okT_ne hok) hl _ (.inl ⟨ha, rfl⟩)⟩
      | false =>
        rw [ha] at h
        simp only [cond_false] at h
        split at h
        · exact .inl ⟨by simp [cls], _, h, snd_ld ho hy (okT_ne hok) hl _ (.inr ⟨ha, rfl⟩)⟩
        · simp at h
    · simp at h
  · -- store
    rename_i t a x ho
    split at hc
    · rename_i a' x' ha hx
      obtain ⟨hb, hc⟩ := and_some hc
      simp only [Option.some.injEq] at hc; subst hc
      simp only [sop] at h
      split at h
      · rename_i c hcc
        obtain ⟨hl, h⟩ := cond_some h
        split at h
        · rename_i h' hs
          exact .inr (.inl ⟨by simp [cls], _, _, _, h, snd_st ho ha hx (by intro e; simp [e] at hb) hcc (Nat.eq_of_beq_eq_true hl) hs, sto_keeps hs⟩)
        · simp at h
      · simp at h
    · simp at hc
  · -- nilCheck
    rename_i x ho
    obtain ⟨y, hy, rfl⟩ := Option.map_eq_some_iff.1 hc
    exact .inl ⟨by simp [cls], snd_nilc ho hy h⟩
  · -- binOp
    rename_i op t x y u ho
    split at hc
    · rename_i x' y' hx hy
      split at hc
      · obtain ⟨hg, hc⟩ := and_some hc
        obtain ⟨e, hq, rfl⟩ := Option.map_eq_some_iff.1 hc
        exact .inl ⟨by simp [cls], snd_eq (neg := false) (by simpa using ho) hx hy hq hg h⟩
      · obtain ⟨hg, hc⟩ := and_some hc
        obtain ⟨e, hq, rfl⟩ := Option.map_eq_some_iff.1 hc
        exact .inl ⟨by simp [cls], snd_eq (neg := true) (by simpa using ho) hx hy hq hg h⟩
      · rename_i h1 h2
        simp only [Option.some.injEq] at hc; subst hc
        exact .inl ⟨by simp [cls], snd_bin ho hx hy ⟨fun e => h1 e, fun e => h2 e⟩ h⟩
    · simp at hc
  · rename_i op t x ho
    obtain ⟨y, hy, rfl⟩ := Option.map_eq_some_iff.1 hc
    exact .inl ⟨by simp [cls], snd_un ho hy h⟩
  · rename_i t u x ho
    split at hc
    · rename_i h1 h2
      obtain ⟨y, hy, rfl⟩ := Option.map_eq_some_iff.1 hc
      exact .inl ⟨by simp [cls], snd_conv ho h1 h2 hy h⟩
    · rename_i h1 h2
      obtain ⟨y, hy, rfl⟩ := Option.map_eq_some_iff.1 hc
      exact .inl ⟨by simp [cls], snd_convs ho h1 h2 hy h⟩
    · simp at hc
  · rename_i g f c' ho
    split at hc
    · rename_i h1 h2
      simp only [Option.some.injEq] at hc; subst hc
      exact .inl ⟨by simp [cls], snd_mkf ho h1 h2 h⟩
    · simp at hc
  · -- makeSlice
    rename_i t l c' ho
    split at hc
    · rename_i e hu
      split at hc
      · rename_i z hz
        have hA := cond_some hc
        clear hc
        obtain ⟨hb, hc⟩ := hA
        simp only [Bool.and_eq_true] at hb
        simp only [Option.some.injEq] at hc; subst hc
        have hl := Nat.eq_of_beq_eq_true hb.1
        subst hl
        exact .inr (.inl ⟨by simp [cls], snd_mks ho hu hz (ne_of_beq hb.2.1) (ne_of_beq hb.2.2.1) hb.2.2.2 h⟩)
      · simp at hc
    · simp at hc
  · -- slice
    rename_i t x lo hi mx ho
    split at hc
    · rename_i z x' lo' hi' mx' hz hx hlo hhi hmx
      obtain ⟨hb, hc⟩ := cond_some hc
      simp only [Option.some.injEq] at hc; subst hc
      exact .inl ⟨by simp [cls], snd_slc ho hz hx hlo hhi hmx (by
        intro h1 h2
        subst h2
        simp only [coO, Option.some.injEq] at hhi
        subst hhi
        cases mx with
        | none => exact h1 rfl
        | some m =>
          simp only [coO, Option.map_eq_some_iff] at hmx
          obtain ⟨m', _, rfl⟩ := hmx
          simp at hb) h⟩
    · simp at hc
  · -- fieldAddr
    rename_i t x f ho
    split at hc
    · rename_i fd hf
      obtain ⟨hb, hc⟩ := and_some hc
      obtain ⟨y, hy, rfl⟩ := Option.map_eq_some_iff.1 hc
      exact .inl ⟨by simp [cls], snd_fa ho hy hf (by intro e; simp [e] at hb) h⟩
    · simp at hc
  · rename_i t x f ho
    split at hc
    · rename_i fd hf
      obtain ⟨hb, hc⟩ := cond_some hc
      obtain ⟨y, hy, rfl⟩ := Option.map_eq_some_iff.1 hc
      exact .inl ⟨by simp [cls], snd_fld ho hy hf hb h⟩
    · simp at hc
  · -- indexAddr
    rename_i t x i ho
    split at hc
    · rename_i x' i' hx hi
      split at hc
      · rename_i n e hu
        obtain ⟨hb, hc⟩ := and_some hc
        simp only [Option.some.injEq] at hc; subst hc
        simp only [Bool.or_eq_false_iff] at hb
        exact .inl ⟨by simp [cls], snd_ixa ho hx hi hu (by intro e; simp [e] at hb) h⟩
      · rename_i e hu
        obtain ⟨hb, hc⟩ := and_some hc
        simp only [Option.some.injEq] at hc; subst hc
        exact .inl ⟨by simp [cls], snd_ixs ho hx hi hu (by intro e; simp [e] at hb) h⟩
      · simp at hc
    · simp at hc
  · rename_i t x i ho
    split at hc
    · rename_i x' i' hx hi
      split at hc
      · rename_i n e hu
        obtain ⟨hb, hc⟩ := and_some hc
        simp only [Option.some.injEq] at hc; subst hc
        simp only [Bool.or_eq_false_iff, Bool.not_eq_false'] at hb
        exact .inl ⟨by simp [cls], snd_ixg ho hx hi hu (by intro e; simp [e] at hb) hb.2 h⟩
      · rename_i hu
        simp only [Option.some.injEq] at hc; subst hc
        exact .inl ⟨by simp [cls], snd_ixc ho hx hi hu h⟩
      · simp at hc
    · simp at hc
  · rename_i x i ho
    obtain ⟨y, hy, rfl⟩ := Option.map_eq_some_iff.1 hc
    exact .inl ⟨by simp [cls], snd_ext ho hy h⟩
  · -- call
    rename_i c' ho
    obtain ⟨callee, args, ats⟩ := c'
    split at hc
    · rename_i f args' hf ha
      try simp only at hf
      try simp only at ha
      subst hf
      obtain ⟨f', hf', rfl⟩ := Option.map_eq_some_iff.1 hc
      simp only [sop] at h
      split at h
      · rename_i g a b hv
        split at h
        · rename_i sp hg
          obtain ⟨r, m, sc, h', h1, h2, _⟩ := snd_call ho hf' ha he hv hg h
          obtain ⟨hall, h1⟩ := cond_some h1
          exact .inr (.inr ⟨by simp [cls], _, _, _, h1, scrubTs_sub, h2.weak fun l hl => allOk_no hall hl⟩)
        · simp at h
      · simp at h
    · rename_i b args' hb ha
      try simp only at hb
      try simp only at ha
      try simp only at hc
      subst hb
      exact sound_b ho ha hc h
    · simp at hc
  · simp at hc
end
end Go.Sx
