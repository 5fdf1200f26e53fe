/- Operations, thirteenth part: append and make put together. -/
import Derived.Test.YtpnnnklahanecaaSxOps12
namespace Go.Sx

section
variable {P : Program} {A : Ann} {o : Oper} {s : SS} {Ω : Type} {k : SV → List Nat → SS → Option Ω} {out : Ω}

theorem catF_lt {n i : Nat} (h : i < n) (f g : Nat → Nat → DV) : catF n f g i = f i := by
  have : Nat.blt i n = true := Nat.ble_eq_true_of_le h
  simp [catF, this]
theorem catF_ge {n i : Nat} (h : n ≤ i) (f g : Nat → Nat → DV) : catF n f g i = g (i - n) := by
  have : Nat.blt i n = false := Bool.eq_false_iff.2 fun e => by have := Nat.le_of_ble_eq_true e; omega
  simp [catF, this]

theorem holds_cat {fz : Nat → Prop} {w : World} {sz n m : Nat} {l1 l2 : List Value} {e : TypeId} {f g : Nat → Nat → DV} (h1 : Holds fz w sz n l1 (.row e sz n f)) (h2 : Holds fz w sz m l2 (.row e sz m g)) :
    Holds fz w sz (n + m) (l1 ++ l2) (.row e sz (n + m) (catF n f g)) := by
  obtain ⟨_, _, a3, a4⟩ := h1
  obtain ⟨_, _, b3, b4⟩ := h2
  refine ⟨rfl, rfl, by simp [a3, b3, Nat.add_mul], fun i hi j hj => ?_⟩
  rcases Nat.lt_or_ge i n with h | h
  · obtain ⟨v, h5, h6⟩ := a4 i h j hj
    refine ⟨v, ?_, by rw [catF_lt h]; exact h6⟩
    rw [List.getElem?_append_left (List.getElem?_eq_some_iff.1 h5).1]; exact h5
  · obtain ⟨v, h5, h6⟩ := b4 (i - n) (by omega) j hj
    refine ⟨v, ?_, by rw [catF_ge h]; exact h6⟩
    have : n * sz ≤ i * sz := Nat.mul_le_mul_right _ h
    rw [List.getElem?_append_right (by rw [a3]; omega), a3]
    rw [show i * sz + j - n * sz = (i - n) * sz + j by rw [Nat.sub_mul]; omega]; exact h5

theorem snd_app {x y : Operand} {x' y' : CA} {t u e e' : TypeId} (ho : o.op = .call { callee := .builtin .append, args := #[x, y], argTypes := #[t, u] }) (hx : coA x = some x') (hy : coA y = some y')
    (ht : uT P t = .slice e) (hu : uT P u = .slice e') (hsz : szT P e ≠ 0) (hby : byT P e ≠ 0) (hz : (zcT P e).isSome = true) (hint : intOk P e = true)
    {env : Env Ω} (h : sop env A (.app e (szT P e) (byT P e) (kindT P e) x' y') s k = some out) : Plain P A o s k out := by
  simp only [sop, appS] at h
  obtain ⟨hd, h⟩ := cond_some h
  split at h
  · rename_i kd hk
    have hs1 : szT P e = 1 := by
      simp only [intOk, hk] at hint; exact Nat.eq_of_beq_eq_true hint
    split at h
    · rename_i xs ys h1 h2
      rcases br_some h with ⟨hft, h⟩ | ⟨_, h⟩
      · refine app_core ho hx ht hu hsz hby hz hd (fun l e' => ?_) (fun cx w a hg htr => ?_) h
        · left
          rw [e'] at h1
          simp only [intsOf] at h1
          split at h1
          · rename_i t' k' xs' hg; exact ⟨t', k', xs', hg, hs1⟩
          · simp at h1
        · obtain ⟨ba, ca, hS⟩ := src_ints hg (eval_coA hx htr) h1
          obtain ⟨bb, cc, hX⟩ := src_ints hg (eval_coA hy htr) h2
          refine ⟨_, _, ba, bb, ca, cc, _, _, by rw [hs1]; exact hS, by rw [hs1]; exact hX, ⟨hs1, by simp, by simp⟩, hft⟩
      · simp at h
    · simp at h
  · rename_i hk
    split at h
    · rename_i n f m g h1 h2
      rcases br_some h with ⟨hft, h⟩ | ⟨_, h⟩
      · refine app_core ho hx ht hu hsz hby hz hd (fun l e' => ?_) (fun cx w a hg htr => ?_) h
        · right
          rw [e'] at h1
          simp only [rowOf] at h1
          split at h1
          · rename_i t' sz' n' f' hg
            have := Nat.eq_of_beq_eq_true (cond_some h1).1
            exact ⟨t', n', f', by rw [hg, this]⟩
          · simp at h1
        · obtain ⟨ba, ca, l1, hS, hH1⟩ := src_row (e := e) hg (eval_coA hx htr) h1
          obtain ⟨bb, cc, l2, hX, hH2⟩ := src_row (e := e) hg (eval_coA hy htr) h2
          exact ⟨_, _, ba, bb, ca, cc, _, _, hS, hX, holds_cat hH1 hH2, hft⟩
      · simp at h
    · simp at h

theorem repl_get {α : Type} {c : List α} {sz j : Nat} {v : α} : ∀ (n : Nat) {i : Nat}, c.length = sz → i < n → j < sz → c[j]? = some v → (List.replicate n c).flatten[i * sz + j]? = some v
  | 0, i, _, h, _, _ => by omega
  | n + 1, 0, hc, _, hj, hv => by
    simp only [List.replicate_succ, List.flatten_cons, Nat.zero_mul, Nat.zero_add]
    rw [List.getElem?_append_left (by omega)]; exact hv
  | n + 1, i + 1, hc, h, hj, hv => by
    simp only [List.replicate_succ, List.flatten_cons]
    rw [List.getElem?_append_right (by rw [hc, Nat.add_mul]; omega), hc]
    rw [show (i + 1) * sz + j - sz = i * sz + j by rw [Nat.add_mul]; omega]
    exact repl_get n hc (by omega) hj hv

theorem snd_mks {t e : TypeId} {l : Nat} {z : List SV} (ho : o.op = .makeSlice t (.tmp l) (.tmp l)) (ht : uT P t = .slice e) (hz : zcT P e = some z) (hsz : szT P e ≠ 0) (hby : byT P e ≠ 0) (hint : intOk P e = true)
    {env : Env Ω} (h : sop env A (.mks e (szT P e) (byT P e) (kindT P e) z (.t l)) s k = some out) : PlainE P o s k out := by
  simp only [sop] at h
  split at h
  · rename_i kn n en
    rcases br_some h with ⟨hc, h⟩ | ⟨_, h⟩
    · simp only [Bool.and_eq_true, decide_eq_true_eq, fits] at hc
      obtain ⟨h0, hft⟩ := hc
      obtain ⟨i, zv, c', hi, hzv, hcc, hzl, hisz, hr⟩ := zcT_sound hz
      have hb : i.bytes = byT P e := by simp [byT, hi]
      have core : ∀ so : SO, (∀ (cx : Cx) (w : World), Holds cx.fz w (szT P e) n.toNat (List.replicate n.toNat c').flatten so) → k (.own s.h.length) [] ⟨s.t, s.h ++ [so]⟩ = some out → (n ≤ 9223372036854775807 → PlainE P o s k out) := by
        intro so hH h hmax
        refine ⟨_, _, _, h, OpOK0.new fun cx w a hg htr => ?_, .new _ _⟩
        have hcl := (hr cx w).1.length
        have hne : c' ≠ [] := by intro e0; apply hsz; rw [← hzl, hcl, e0]; rfl
        have hm : madeCells zv.cells (n.toNat * i.size) = ⟨(List.replicate n.toNat c').flatten⟩ := by
          have := made_eq c' hne n.toNat
          rw [hcc, hisz, ← hzl, hcl]; exact this
        have hn := int_of (en ▸ (show SRep cx w (ev s.t (.t l)) (a.eval (.tmp l)) from SRep.lk l htr))
        have hrun := run_make (P := P) (w := w) t e i zv (by rw [← ht]; exact (info_of_uT (by rw [ht]; simp)).1) hi hzv kn kn n n h0 (Int.le_refl _) (by
          rw [hb]
          have : (n.toNat : Int) = n := by omega
          have h2 : ((n.toNat * byT P e : Nat) : Int) ≤ 140737488355328 := Int.ofNat_le.2 hft
          rw [Int.natCast_mul, this, Int.mul_comm] at h2
          omega) hmax
        refine ⟨.slice (some (ad w.heap.size 0)) n.toNat n.toNat, w, .cells ⟨(List.replicate n.toNat c').flatten⟩ e, n.toNat, n.toNat, false, szT P e, ⟨rfl, rfl, rfl, _, _, rfl⟩, ?_, fun cx' w' e1 e2 gr => ?_⟩
        · simp only [execOp, ho]
          rw [hn]
          rw [Sem.run_bind, hrun, hm]; rfl
        · subst e1; subst e2
          refine ⟨ORep.row_of (hH _ _) (by simp [Cx.ext]) (by simp [Cx.ext]) (by simp [Cx.ext]) (by simp [Cx.ext]) (fun _ => ⟨e, ⟨(List.replicate n.toNat c').flatten⟩, by simp [Cx.ext], ?_, ?_⟩), ?_⟩
          · simp [Cx.ext, ← hzl, hcl]
          · rw [List.take_of_length_le]
            simp [← hzl, hcl]
          · have := hg.n
            simp [SRep, Cx.ext, ← this]
      have hmax : n ≤ 9223372036854775807 := by
        have h2 : n.toNat * 1 ≤ n.toNat * byT P e := Nat.mul_le_mul_left _ (Nat.pos_of_ne_zero hby)
        omega
      split at h
      · rename_i kd hk
        have hs1 : szT P e = 1 := by
          simp only [intOk, hk] at hint; exact Nat.eq_of_beq_eq_true hint
        split at h
        · rename_i x hxz
          refine core _ (fun cx w => ?_) h hmax
          have := asInts_map hxz (hr cx w).1
          rw [this]
          refine ⟨hs1, by simp, ?_⟩
          rename_i xx _ _
          simp [List.flatten_replicate_singleton]
        · simp at h
      · split at h
        · rename_i ds hds
          refine core _ (fun cx w => ?_) h hmax
          obtain ⟨h3, h4⟩ := (hr cx w).1.toD hds
          have hcl := (hr cx w).1.length
          refine ⟨rfl, rfl, by simp [← hzl, hcl], fun i' hi' j hj => ?_⟩
          obtain ⟨v, h5, h6⟩ := h4 j (by omega)
          refine ⟨v, ?_, by simpa [lkD] using h6⟩
          exact repl_get n.toNat (by rw [← hcl, hzl]) hi' hj h5
        · simp at h
    · simp at h
  · simp at h
end
end Go.Sx
