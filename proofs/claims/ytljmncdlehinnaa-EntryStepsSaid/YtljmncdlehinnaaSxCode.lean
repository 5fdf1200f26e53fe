/- Code: what the abstract interpreter reaches, the machine does. -/
import Derived.Test.YtljmncdlehinnaaSxDraw6
set_option linter.unusedVariables false
set_option linter.unusedSimpArgs false
namespace Go.Sx

 mutual
theorem SRep.cut {cx : Cx} {w : World} {n : Nat} : ∀ (x : SV) (u : Value), ment (Nat.ble n) x = false → SRep cx w x u → SRep { cx with n := min n cx.n } w x u
  | .d x, u, _, h => by simp only [SRep] at h ⊢; exact h
  | .ptr l o, u, hm, h => by simp only [SRep, ment] at h hm ⊢; exact ⟨by have := nge' hm; omega, h.2⟩
  | .pe l i o, u, hm, h => by simp only [SRep, ment] at h hm ⊢; exact ⟨by have := nge' hm; omega, h.2⟩
  | .rp sz f o, u, _, h => by simp only [SRep] at h ⊢; exact h
  | .own l, u, hm, h => by simp only [SRep, ment] at h hm ⊢; exact ⟨by have := nge' hm; omega, h.2⟩
  | .cs l o sz n' c, u, hm, h => by simp only [SRep, ment] at h hm ⊢; exact ⟨by have := nge' hm; omega, h.2⟩
  | .mp l, u, hm, h => by simp only [SRep, ment] at h hm ⊢; exact ⟨by have := nge' hm; omega, h.2⟩
  | .fn q a b, u, hm, h => by
      simp only [SRep, ment, Bool.or_eq_false_iff] at h hm ⊢
      obtain ⟨a', b', e, ha, hb⟩ := h
      exact ⟨a', b', e, SRepL.cut a a' hm.1 ha, SRepL.cut b b' hm.2 hb⟩
  | .agg c, u, hm, h => by
      simp only [SRep, ment] at h hm ⊢
      obtain ⟨c', e, hc⟩ := h
      exact ⟨c', e, SRepL.cut c c' hm hc⟩
  | .tup c, u, hm, h => by
      simp only [SRep, ment] at h hm ⊢
      obtain ⟨c', e, hc⟩ := h
      exact ⟨c', e, SRepL.cut c c' hm hc⟩
  | .top, u, _, _ => by simp only [SRep]
theorem SRepL.cut {cx : Cx} {w : World} {n : Nat} : ∀ (c : List SV) (c' : List Value), mentL (Nat.ble n) c = false → SRepL cx w c c' → SRepL { cx with n := min n cx.n } w c c'
  | [], [], _, _ => by simp only [SRepL]
  | x :: r, v :: vs, hm, h => by
      simp only [SRepL, mentL, Bool.or_eq_false_iff] at h hm ⊢
      exact ⟨SRep.cut x v hm.1 h.1, SRepL.cut r vs hm.2 h.2⟩
  | [], _ :: _, _, h => by simp [SRepL] at h
  | _ :: _, [], _, h => by simp [SRepL] at h
theorem nge' {a b : Nat} (h : Nat.ble a b = false) : b < a := by
  rcases Nat.lt_or_ge b a with h' | h'
  · exact h'
  · have := Nat.ble_eq_true_of_le h'; rw [h] at this; cases this
end

theorem SRepE.cut {cx : Cx} {w : World} {n : Nat} : ∀ (c : List (Value × SV)) (c' : List (Value × Value)), mentE (Nat.ble n) c = false → SRepE cx w c c' → SRepE { cx with n := min n cx.n } w c c'
  | [], [], _, _ => by simp only [SRepE]
  | (q, x) :: r, (q', v) :: vs, hm, h => by
      simp only [SRepE, mentE, Bool.or_eq_false_iff] at h hm ⊢
      exact ⟨h.1, SRep.cut x v hm.1 h.2.1, SRepE.cut r vs hm.2 h.2.2⟩
  | [], _ :: _, _, h => by simp [SRepE] at h
  | _ :: _, [], _, h => by simp [SRepE] at h

theorem ORep.cut {cx : Cx} {w : World} {n l : Nat} {o : SO} (hm : mentO (Nat.ble n) o = false) (h : ORep cx w l o) : ORep { cx with n := min n cx.n } w l o := by
  cases o with
  | cells t c =>
    obtain ⟨t', c', h1, h2⟩ := h
    exact ⟨t', c', h1, SRepL.cut c c' hm h2⟩
  | maps es =>
    obtain ⟨e, c, h1, h2⟩ := h
    exact ⟨e, c, h1, SRepE.cut es _ hm h2⟩
  | dead => trivial
  | rowi t k xs => exact h
  | row t sz n' f => exact h
  | mapi k es => exact h
  | mapb es => exact h

theorem mentT_mem {p : Nat → Bool} : ∀ {t : List (Nat × SV)}, mentT p t = false → ∀ i x, (i, x) ∈ t → ment p x = false
  | (k, v) :: r, h, i, x, hx => by
    simp only [mentT, Bool.or_eq_false_iff] at h
    rcases List.mem_cons.1 hx with e | hx
    · simp only [Prod.mk.injEq] at e; rw [e.2]; exact h.1
    · exact mentT_mem h.2 i x hx

theorem mentH_get {p : Nat → Bool} : ∀ {h : SH}, mentH p h = false → ∀ l, mentO p (hget h l) = false
  | [], _, l => by simp [hget, mentO]
  | o :: r, h, 0 => by simp only [mentH, Bool.or_eq_false_iff] at h; simpa [hget] using h.1
  | o :: r, h, l + 1 => by
    simp only [mentH, Bool.or_eq_false_iff] at h
    have := mentH_get h.2 l
    simpa [hget] using this

theorem hget_take {h : SH} {n l : Nat} : hget (h.take n) l = if l < n then hget h l else .dead := by
  simp only [hget, List.getD_eq_getElem?_getD, List.getElem?_take]
  split <;> rfl

theorem liv_take {cx : Cx} {h : SH} {n l m : Nat} (hl : liv { cx with n := m } (h.take n) l) : liv cx h l := by
  unfold liv at *
  rw [hget_take] at hl
  by_cases hn : l < n
  · rw [if_pos hn] at hl; exact hl
  · rw [if_neg hn] at hl; exact hl.elim

theorem Gam.fade {cx : Cx} {h h2 : SH} {w : World} (g : Gam cx h w) (hl : h2.length = h.length) (hd : ∀ l, hget h2 l = hget h l ∨ hget h2 l = .dead) : Gam cx h2 w := by
  have hlv : ∀ l, liv cx h2 l → liv cx h l := fun l hv => by
    unfold liv at hv ⊢
    rcases hd l with e | e
    · rw [e] at hv; exact hv
    · rw [e] at hv; exact hv.elim
  refine ⟨by rw [hl]; exact g.n, fun l => ?_, fun l hv => g.lt l (hlv l hv), fun l hv => g.own l (hlv l hv), fun l m hv hm e => g.inj l m (hlv l hv) (hlv m hm) e, g.fzlt, g.dj⟩
  rcases hd l with e | e
  · rw [e]; exact g.obj l
  · rw [e]; trivial

theorem fadeH_spec {ks : List Nat} {n0 : Nat} : ∀ {h : SH} {i : Nat}, (fadeH ks n0 i h).length = h.length ∧ ∀ l, hget (fadeH ks n0 i h) l = hget h l ∨ hget (fadeH ks n0 i h) l = .dead
  | [], i => ⟨rfl, fun l => .inl rfl⟩
  | o :: r, i => by
    obtain ⟨h1, h2⟩ := @fadeH_spec ks n0 r (i + 1)
    refine ⟨by simp [fadeH, h1], fun l => ?_⟩
    cases l with
    | zero =>
      simp only [fadeH, hget, List.getD_cons_zero]
      cases (Nat.blt i n0 || nmem i ks) with
      | true => exact .inl rfl
      | false => exact .inr rfl
    | succ l => simpa [fadeH, hget] using h2 l

theorem gc_t {lv : List Nat} {n : Nat} {s : SS} : (gc lv n s).t = keepT lv s.t := by
  unfold gc
  dsimp only
  cases (mentT (Nat.ble (max n (topOf (clos s.h 100000 (locsT (keepT lv s.t) ++ locsH (s.h.take n)) [])))) (keepT lv s.t) || mentH (Nat.ble (max n (topOf (clos s.h 100000 (locsT (keepT lv s.t) ++ locsH (s.h.take n)) [])))) ((fadeH (clos s.h 100000 (locsT (keepT lv s.t) ++ locsH (s.h.take n)) []) n 0 s.h).take (max n (topOf (clos s.h 100000 (locsT (keepT lv s.t) ++ locsH (s.h.take n)) []))))) <;> rfl

theorem gc_sound {p : Nat → Bool} {cx0 cx : Cx} {w0 w : World} {lv : List Nat} {s : SS} {tm : Array Value} (hg : Gam cx s.h w) (ht : TRep cx w s.t tm) (gr : Grow p cx0 w0 cx w) :
    ∃ cx', Gam cx' (gc lv cx0.n s).h w ∧ TRep cx' w (gc lv cx0.n s).t tm ∧ Grow p cx0 w0 cx' w := by
  unfold gc
  dsimp only
  generalize clos s.h 100000 (locsT (keepT lv s.t) ++ locsH (s.h.take cx0.n)) [] = ks
  obtain ⟨f1, f2⟩ := @fadeH_spec ks cx0.n s.h 0
  have hg2 := hg.fade f1 f2
  generalize fadeH ks cx0.n 0 s.h = h2 at *
  generalize hn : max cx0.n (topOf ks) = n1
  cases hb : (mentT (Nat.ble n1) (keepT lv s.t) || mentH (Nat.ble n1) (h2.take n1)) with
  | true =>
    simp only [cond_true]
    exact ⟨cx, hg2, fun i x hx => ht i x (keepT_mem hx).2, gr⟩
  | false =>
    simp only [cond_false]
    rw [Bool.or_eq_false_iff] at hb
    refine ⟨{ cx with n := min n1 cx.n }, ⟨by simp [hg2.n], fun l => ?_, fun l hl => hg2.lt l (liv_take hl), fun l hl => hg2.own l (liv_take hl), fun l m hl hm => hg2.inj l m (liv_take hl) (liv_take hm), hg2.fzlt, hg2.dj⟩, fun i x hx => ?_, ⟨gr.fz, gr.same, gr.size, fun l hl hp => ?_, gr.fr, gr.io⟩⟩
    · have h1 := mentH_get hb.2 l
      rw [hget_take] at h1 ⊢
      split
      · rename_i h; rw [if_pos h] at h1; exact ORep.cut h1 (hg2.obj l)
      · trivial
    · have h2 := ht i x (keepT_mem hx).2
      exact ⟨h2.1, SRep.cut x _ (mentT_mem hb.1 i x hx) h2.2⟩
    · obtain ⟨h1, h2⟩ := gr.loc l hl hp
      exact ⟨by simp only; omega, h2⟩

theorem dropT_sub {d : Nat} : ∀ {t : List (Nat × SV)}, (dropT t d).Sublist t
  | [] => .slnil
  | (k, v) :: r => by
    simp only [dropT]
    cases Nat.beq k d with
    | true => exact List.sublist_cons_self _ _
    | false => exact (dropT_sub (t := r)).cons_cons _

theorem condT_uniq {A : Ann} {t : List (Nat × SV)} {n : Nat} {b : Bool} (hu : Uniq t) : Uniq (condT A t n b) := by
  unfold condT
  cases nmem n A.kc with
  | true => exact (stt_uniq hu).1
  | false => exact hu.sub dropT_sub

theorem condT_trep {A : Ann} {cx : Cx} {w : World} {t : List (Nat × SV)} {tm : Array Value} {n : Nat} {b : Bool} (hu : Uniq t) (ht : TRep cx w t tm) (hn : n < tm.size) (hv : SRep cx w (.d (.v (.bool b))) (tm.getD n undef)) : TRep cx w (condT A t n b) tm := by
  unfold condT
  cases nmem n A.kc with
  | true => exact TRep.stt hu ht hn hv
  | false => exact fun i x hx => ht i x (dropT_sub.mem hx)

/-- How an end of code looks to the machine. -/
def exitOf : SE → Exit
  | .norm => .normal
  | .exit id => .exit id
  | .ret => .ret

theorem exists_least {J : Nat → Prop} (h : ∃ n, J n) : ∃ n, J n ∧ ∀ m, m < n → ¬ J m := by
  obtain ⟨n, hn⟩ := h
  induction n using Nat.strongRecOn with
  | _ n ih =>
    by_cases hm : ∃ m, m < n ∧ J m
    · obtain ⟨m, h1, h2⟩ := hm; exact ih m h1 h2
    · exact ⟨n, hn, fun m h1 h2 => hm ⟨m, h1, h2⟩⟩

open Classical in
 noncomputable def leastOf (J : Nat → Prop) : Nat := if h : ∃ n, J n then Classical.choose (exists_least h) else 0

theorem leastOf_spec {J : Nat → Prop} (h : ∃ n, J n) : J (leastOf J) ∧ ∀ m, J m → leastOf J ≤ m := by
  have hs := Classical.choose_spec (exists_least h)
  have e : leastOf J = Classical.choose (exists_least h) := by unfold leastOf; rw [dif_pos h]
  rw [e]
  exact ⟨hs.1, fun m hm => by
    rcases Nat.lt_or_ge m (Classical.choose (exists_least h)) with h' | h'
    · exact absurd hm (hs.2 m h')
    · exact h'⟩

section
variable {P : Program} {A : Ann} {Ω : Type} {env : Env Ω} {out : Ω}

theorem sx_sound (he : EnvOK P env) (hmix : P.follows .mixedOrders = true) {nt : Nat} : ∀ (c : Code) (cc : CC) (id : Nat) (s : SS) (k : SE → SS → Option Ω), coC P nt c = some cc → sx env A cc id s k = some out →
    ∀ (Q : Exit → Act → World → Prop) (cx : Cx) (w : World) (a : Act), a.tmps.size = nt → Uniq s.t → Gam cx s.h w → TRep cx w s.t a.tmps →
    (∀ e s' cx' w' a', k e s' = some out → Frm a a' → Uniq s'.t → Grow A.p cx w cx' w' → Gam cx' s'.h w' → TRep cx' w' s'.t a'.tmps → Q (exitOf e) a' w') → c.wp P Q a w := by
  intro c
  induction c with
  | skip =>
    intro cc id s k hc h Q cx w a hsz hu hg ht hk
    simp only [coC, Option.some.injEq] at hc; subst hc
    simp only [sx] at h
    exact wp_skip (hk .norm s cx w a h (Frm.refl a) hu (Grow.refl _ _ _) hg ht)
  | region rid ops draw =>
    intro cc id s k hc h Q cx w a hsz hu hg ht hk
    simp only [coC] at hc
    split at hc
    · rename_i l hl
      obtain ⟨hap, hc⟩ := cond_some hc
      simp only [Option.some.injEq] at hc; subst hc
      simp only [sx] at h
      have fin : ∀ (cx' : Cx) (w' : World) (a' : Act) (s' : SS), k .norm ⟨keepT A.keep s'.t, s'.h⟩ = some out → Frm a a' → Uniq s'.t → Grow A.p cx w cx' w' → Gam cx' s'.h w' → TRep cx' w' s'.t a'.tmps → Q .normal a' w' := fun cx' w' a' s' h1 h2 h3 h4 h5 h6 =>
        hk .norm _ cx' w' a' h1 h2 (h3.sub keepT_sub) h4 h5 fun i x hx => h6 i x (keepT_mem hx).2
      cases draw with
      | true =>
        simp only [cond_true] at h
        exact sregD_sound he hmix hl (by simpa using hap) h hsz hu hg ht fin
      | false =>
        simp only [cond_false] at h
        exact wp_region_list (sreg_sound he rfl ops.toList [] l s hl h cx w a hsz hu hg ht fin)
    · simp at hc
  | seq x y ihx ihy =>
    intro cc id s k hc h Q cx w a hsz hu hg ht hk
    simp only [coC] at hc
    split at hc
    · rename_i x' y' hx hy
      simp only [Option.some.injEq] at hc; subst hc
      simp only [sx] at h
      refine wp_seq (ihx x' id s _ hx h _ cx w a hsz hu hg ht fun e s' cx' w' a' h1 h2 h3 h4 h5 h6 => ?_)
      cases e with
      | norm =>
        simp only [exitOf, Exit.then]
        exact ihy y' id s' k hy h1 Q cx' w' a' (h2.size.trans hsz) h3 h5 h6 fun e s2 cx2 w2 a2 k1 k2 k3 k4 k5 k6 => hk e s2 cx2 w2 a2 k1 (h2.trans k2) k3 (h4.trans k4) k5 k6
      | exit i => exact hk (.exit i) s' cx' w' a' h1 h2 h3 h4 h5 h6
      | ret => exact hk .ret s' cx' w' a' h1 h2 h3 h4 h5 h6
    · simp at hc
  | cond c x y ihx ihy =>
    intro cc id s k hc h Q cx w a hsz hu hg ht hk
    cases c with
    | tmp n =>
      simp only [coC] at hc
      split at hc
      · rename_i x' y' hx hy
        simp only [Option.some.injEq] at hc; subst hc
        simp only [sx] at h
        split at h
        · rename_i t hlt
          have hm := lk_mem (n := n) (t := s.t) (by rw [hlt]; simp)
          have h2 := (ht _ _ hm).2
          rw [hlt] at h2
          have h3 : a.eval (.tmp n) = .bool t := bool_of h2
          rcases br_some h with ⟨rfl, h⟩ | ⟨rfl, h⟩
          · exact wp_cond_true h3 (ihx x' id _ k hx h Q cx w a hsz (condT_uniq hu) hg (condT_trep hu ht (ht _ _ hm).1 h2) hk)
          · exact wp_cond_false h3 (ihy y' id _ k hy h Q cx w a hsz (condT_uniq hu) hg (condT_trep hu ht (ht _ _ hm).1 h2) hk)
        · simp at h
      · simp at hc
    | const _ => simp [coC] at hc
    | func _ => simp [coC] at hc
    | global _ => simp [coC] at hc
  | block bid x ihx =>
    intro cc id s k hc h Q cx w a hsz hu hg ht hk
    simp only [coC] at hc
    obtain ⟨x', hx, rfl⟩ := Option.map_eq_some_iff.1 hc
    simp only [sx] at h
    refine wp_block (ihx x' bid s _ hx h _ cx w a hsz hu hg ht fun e s' cx' w' a' h1 h2 h3 h4 h5 h6 => ?_)
    cases e with
    | norm => exact hk .norm s' cx' w' a' h1 h2 h3 h4 h5 h6
    | exit i =>
      simp only [exitOf, Exit.inBlock]
      cases hb : Nat.beq i bid with
      | true =>
        simp only [hb, cond_true] at h1
        rw [if_pos (nbeq.1 hb)]
        exact hk .norm s' cx' w' a' h1 h2 h3 h4 h5 h6
      | false =>
        simp only [hb, cond_false] at h1
        rw [if_neg (nbne.1 hb)]
        exact hk (.exit i) s' cx' w' a' h1 h2 h3 h4 h5 h6
    | ret => exact hk .ret s' cx' w' a' h1 h2 h3 h4 h5 h6
  | loop x ihx =>
    intro cc id s k hc h Q cx w a hsz hu hg ht hk
    simp only [coC] at hc
    obtain ⟨x', hx, rfl⟩ := Option.map_eq_some_iff.1 hc
    simp only [sx] at h
    rw [← hg.n] at h
    let J : Act → World → Nat → Prop := fun a' w' n => ∃ s' cx', iter (A.at id) cx.n (sx env A x' id) n s' k = some out ∧ Frm a a' ∧ Uniq s'.t ∧ Grow A.p cx w cx' w' ∧ Gam cx' s'.h w' ∧ TRep cx' w' s'.t a'.tmps
    obtain ⟨cx0, e1, e2, e3⟩ := gc_sound (lv := A.at id) hg ht (Grow.refl A.p cx w)
    refine wp_loop (fun a' w' => ∃ n, J a' w' n) (fun a' w' => leastOf (J a' w')) ⟨big, _, cx0, h, Frm.refl a, hu.sub (by rw [gc_t]; exact keepT_sub), e3, e1, e2⟩ fun a1 w1 hI => ?_
    obtain ⟨⟨s1, cx1, h1, h2, h3, h4, h5, h6⟩, hleast⟩ := leastOf_spec hI
    generalize hn : leastOf (J a1 w1) = n at *
    cases n with
    | zero => simp [iter] at h1
    | succ n =>
      simp only [iter] at h1
      refine ihx x' id s1 _ hx h1 _ cx1 w1 a1 (h2.size.trans hsz) h3 h5 h6 fun e s' cx' w' a' k1 k2 k3 k4 k5 k6 => ?_
      cases e with
      | norm =>
        simp only [exitOf, Exit.then]
        obtain ⟨cx2, g1, g2, g3⟩ := gc_sound (lv := A.at id) k5 k6 (h4.trans k4)
        have hJ : J a' w' n := ⟨_, cx2, k1, h2.trans k2, k3.sub (by rw [gc_t]; exact keepT_sub), g3, g1, g2⟩
        exact ⟨⟨n, hJ⟩, by have := (leastOf_spec ⟨n, hJ⟩).2 n hJ; omega⟩
      | exit i => exact hk (.exit i) s' cx' w' a' k1 (h2.trans k2) k3 (h4.trans k4) k5 k6
      | ret => exact hk .ret s' cx' w' a' k1 (h2.trans k2) k3 (h4.trans k4) k5 k6
  | exit i =>
    intro cc id s k hc h Q cx w a hsz hu hg ht hk
    simp only [coC, Option.some.injEq] at hc; subst hc
    simp only [sx] at h
    exact wp_exit (hk (.exit i) s cx w a h (Frm.refl a) hu (Grow.refl _ _ _) hg ht)
  | ret =>
    intro cc id s k hc h Q cx w a hsz hu hg ht hk
    simp only [coC, Option.some.injEq] at hc; subst hc
    simp only [sx] at h
    exact wp_ret (hk .ret s cx w a h (Frm.refl a) hu (Grow.refl _ _ _) hg ht)
  | rangeFunc _ _ _ _ => intro cc id s k hc; simp [coC] at hc
  | scope _ => intro cc id s k hc; simp [coC] at hc
  | label _ => intro cc id s k hc; simp [coC] at hc
  | goto _ => intro cc id s k hc; simp [coC] at hc
  | refuse _ => intro cc id s k hc; simp [coC] at hc
end
end Go.Sx
