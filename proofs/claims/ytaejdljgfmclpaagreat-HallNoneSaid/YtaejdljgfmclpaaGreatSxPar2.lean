/- Code: what the abstract interpreter reaches, the machine does. -/
import Derived.Test.YtaejdljgfmclpaaGreatSxDraw6
set_option linter.all false
set_option linter.unusedVariables false
set_option linter.unusedSimpArgs false
set_option linter.unnecessarySimpa false
namespace Go.Sx

 mutual
theorem SRep.cut {cx : Cx} {w : World} {n : Nat} : ∀ (x : SV) (u : Value), ment (Nat.ble n) x = false → SRep cx w x u → SRep { cx with n := min n cx.n } w x u
  | .d x, u, _, h => by simp only [SRep] at h ⊢; exact h
  | .ptr l o, u, hm, h => by simp only [SRep, ment] at h hm ⊢; exact ⟨by have := nge' hm; omega, h.2⟩
  | .pe l i o, u, hm, h => by simp only [SRep, ment] at h hm ⊢; exact ⟨by have := nge' hm; omega, h.2⟩
  | .rp sz f o, u, _, h => by simp only [SRep] at h ⊢; exact h
  | .own l, u, hm, h => by simp only [SRep, ment] at h hm ⊢; exact ⟨by have := nge' hm; omega, h.2⟩
  | .cs l o sz n' c, u, hm, h => by simp only [SRep, ment] at h hm ⊢; exact ⟨by have := nge' hm; omega, h.2⟩
  | .mp l, u, hm, h => by simp only [SRep, ment] at h hm ⊢; exact ⟨by have := nge' hm; omega, h.2⟩
  | .fn q a b, u, hm, h => by
      simp only [SRep, ment, Bool.or_eq_false_iff] at h hm ⊢
      obtain ⟨a', b', e, ha, hb⟩ := h
      exact ⟨a', b', e, SRepL.cut a a' hm.1 ha, SRepL.cut b b' hm.2 hb⟩
  | .agg c, u, hm, h => by
      simp only [SRep, ment] at h hm ⊢
      obtain ⟨c', e, hc⟩ := h
      exact ⟨c', e, SRepL.cut c c' hm hc⟩
  | .tup c, u, hm, h => by
      simp only [SRep, ment] at h hm ⊢
      obtain ⟨c', e, hc⟩ := h
      exact ⟨c', e, SRepL.cut c c' hm hc⟩
  | .md ks c, u, hm, h => by
      simp only [SRep, ment] at h hm ⊢
      obtain ⟨b, e, c', vs, eu, hb, hw, hl, hk, hc⟩ := h
      exact ⟨b, e, c', vs, eu, hb, hw, hl, hk, SRepL.cut c vs hm hc⟩
  | .rc c o, u, hm, h => by
      simp only [SRep, ment] at h hm ⊢
      obtain ⟨b, vs, eu, hb, hw, hc⟩ := h
      exact ⟨b, vs, eu, hb, hw, SRepL.cut c vs hm hc⟩
  | .top, u, _, _ => by simp only [SRep]
theorem SRepL.cut {cx : Cx} {w : World} {n : Nat} : ∀ (c : List SV) (c' : List Value), mentL (Nat.ble n) c = false → SRepL cx w c c' → SRepL { cx with n := min n cx.n } w c c'
  | [], [], _, _ => by simp only [SRepL]
  | x :: r, v :: vs, hm, h => by
      simp only [SRepL, mentL, Bool.or_eq_false_iff] at h hm ⊢
      exact ⟨SRep.cut x v hm.1 h.1, SRepL.cut r vs hm.2 h.2⟩
  | [], _ :: _, _, h => by simp [SRepL] at h
  | _ :: _, [], _, h => by simp [SRepL] at h
theorem nge' {a b : Nat} (h : Nat.ble a b = false) : b < a := by
  rcases Nat.lt_or_ge b a with h' | h'
  · exact h'
  · have := Nat.ble_eq_true_of_le h'; rw [h] at this; cases this
end

theorem SRepE.cut {cx : Cx} {w : World} {n : Nat} : ∀ (c : List (Value × SV)) (c' : List (Value × Value)), mentE (Nat.ble n) c = false → SRepE cx w c c' → SRepE { cx with n := min n cx.n } w c c'
  | [], [], _, _ => by simp only [SRepE]
  | (q, x) :: r, (q', v) :: vs, hm, h => by
      simp only [SRepE, mentE, Bool.or_eq_false_iff] at h hm ⊢
      exact ⟨h.1, SRep.cut x v hm.1 h.2.1, SRepE.cut r vs hm.2 h.2.2⟩
  | [], _ :: _, _, h => by simp [SRepE] at h
  | _ :: _, [], _, h => by simp [SRepE] at h

theorem ORep.cut {cx : Cx} {w : World} {n l : Nat} {o : SO} (hm : mentO (Nat.ble n) o = false) (h : ORep cx w l o) : ORep { cx with n := min n cx.n } w l o := by
  cases o with
  | cells t c =>
    obtain ⟨t', c', h1, h2⟩ := h
    exact ⟨t', c', h1, SRepL.cut c c' hm h2⟩
  | maps es =>
    obtain ⟨e, c, h1, h2⟩ := h
    exact ⟨e, c, h1, SRepE.cut es _ hm h2⟩
  | dead => trivial
  | rowi t k xs => exact h
  | row t sz n' f => exact h
  | mapi k es => exact h
  | mapb es => exact h

theorem mentT_mem {p : Nat → Bool} : ∀ {t : List (Nat × SV)}, mentT p t = false → ∀ i x, (i, x) ∈ t → ment p x = false
  | (k, v) :: r, h, i, x, hx => by
    simp only [mentT, Bool.or_eq_false_iff] at h
    rcases List.mem_cons.1 hx with e | hx
    · simp only [Prod.mk.injEq] at e; rw [e.2]; exact h.1
    · exact mentT_mem h.2 i x hx

theorem mentH_get {p : Nat → Bool} : ∀ {h : SH}, mentH p h = false → ∀ l, mentO p (hget h l) = false
  | [], _, l => by simp [hget, mentO]
  | o :: r, h, 0 => by simp only [mentH, Bool.or_eq_false_iff] at h; simpa [hget] using h.1
  | o :: r, h, l + 1 => by
    simp only [mentH, Bool.or_eq_false_iff] at h
    have := mentH_get h.2 l
    simpa [hget] using this

theorem hget_take {h : SH} {n l : Nat} : hget (h.take n) l = if l < n then hget h l else .dead := by
  simp only [hget, List.getD_eq_getElem?_getD, List.getElem?_take]
  split <;> rfl

theorem liv_take {cx : Cx} {h : SH} {n l m : Nat} (hl : liv { cx with n := m } (h.take n) l) : liv cx h l := by
  unfold liv at *
  rw [hget_take] at hl
  by_cases hn : l < n
  · rw [if_pos hn] at hl; exact hl
  · rw [if_neg hn] at hl; exact hl.elim

theorem Gam.fade {cx : Cx} {h h2 : SH} {w : World} (g : Gam cx h w) (hl : h2.length = h.length) (hd : ∀ l, hget h2 l = hget h l ∨ hget h2 l = .dead) : Gam cx h2 w := by
  have hlv : ∀ l, liv cx h2 l → liv cx h l := fun l hv => by
    unfold liv at hv ⊢
    rcases hd l with e | e
    · rw [e] at hv; exact hv
    · rw [e] at hv; exact hv.elim
  refine ⟨by rw [hl]; exact g.n, fun l => ?_, fun l hv => g.lt l (hlv l hv), fun l hv => g.own l (hlv l hv), fun l m hv hm e => g.inj l m (hlv l hv) (hlv m hm) e, g.fzlt, g.dj⟩
  rcases hd l with e | e
  · rw [e]; exact g.obj l
  · rw [e]; trivial

theorem fadeH_spec {ks : List Nat} {n0 : Nat} : ∀ {h : SH} {i : Nat}, (fadeH ks n0 i h).length = h.length ∧ ∀ l, hget (fadeH ks n0 i h) l = hget h l ∨ hget (fadeH ks n0 i h) l = .dead
  | [], i => ⟨rfl, fun l => .inl rfl⟩
  | o :: r, i => by
    obtain ⟨h1, h2⟩ := @fadeH_spec ks n0 r (i + 1)
    refine ⟨by simp [fadeH, h1], fun l => ?_⟩
    cases l with
    | zero =>
      simp only [fadeH, hget, List.getD_cons_zero]
      cases (Nat.blt i n0 || nmem i ks) with
      | true => exact .inl rfl
      | false => exact .inr rfl
    | succ l => simpa [fadeH, hget] using h2 l

theorem gc_t {lv : List Nat} {n : Nat} {s : SS} : (gc lv n s).t = keepT lv s.t := by
  unfold gc
  dsimp only
  cases (mentT (Nat.ble (max n (topOf (clos s.h 100000 (locsT (keepT lv s.t) ++ locsH (s.h.take n)) [])))) (keepT lv s.t) || mentH (Nat.ble (max n (topOf (clos s.h 100000 (locsT (keepT lv s.t) ++ locsH (s.h.take n)) [])))) ((fadeH (clos s.h 100000 (locsT (keepT lv s.t) ++ locsH (s.h.take n)) []) n 0 s.h).take (max n (topOf (clos s.h 100000 (locsT (keepT lv s.t) ++ locsH (s.h.take n)) []))))) <;> rfl

theorem gc_sound {p : Nat → Bool} {cx0 cx : Cx} {w0 w : World} {lv : List Nat} {s : SS} {tm : Array Value} (hg : Gam cx s.h w) (ht : TRep cx w s.t tm) (gr : Grow p cx0 w0 cx w) :
    ∃ cx', Gam cx' (gc lv cx0.n s).h w ∧ TRep cx' w (gc lv cx0.n s).t tm ∧ Grow p cx0 w0 cx' w := by
  unfold gc
  dsimp only
  generalize clos s.h 100000 (locsT (keepT lv s.t) ++ locsH (s.h.take cx0.n)) [] = ks
  obtain ⟨f1, f2⟩ := @fadeH_spec ks cx0.n s.h 0
  have hg2 := hg.fade f1 f2
  generalize fadeH ks cx0.n 0 s.h = h2 at *
  generalize hn : max cx0.n (topOf ks) = n1
  cases hb : (mentT (Nat.ble n1) (keepT lv s.t) || mentH (Nat.ble n1) (h2.take n1)) with
  | true =>
    simp only [cond_true]
    exact ⟨cx, hg2, fun i x hx => ht i x (keepT_mem hx).2, gr⟩
  | false =>
    simp only [cond_false]
    rw [Bool.or_eq_false_iff] at hb
    refine ⟨{ cx with n := min n1 cx.n }, ⟨by simp [hg2.n], fun l => ?_, fun l hl => hg2.lt l (liv_take hl), fun l hl => hg2.own l (liv_take hl), fun l m hl hm => hg2.inj l m (liv_take hl) (liv_take hm), hg2.fzlt, hg2.dj⟩, fun i x hx => ?_, ⟨gr.fz, gr.same, gr.size, fun l hl hp => ?_, gr.fr, gr.io⟩⟩
    · have h1 := mentH_get hb.2 l
      rw [hget_take] at h1 ⊢
      split
      · rename_i h; rw [if_pos h] at h1; exact ORep.cut h1 (hg2.obj l)
      · trivial
    · have h2 := ht i x (keepT_mem hx).2
      exact ⟨h2.1, SRep.cut x _ (mentT_mem hb.1 i x hx) h2.2⟩
    · obtain ⟨h1, h2⟩ := gr.loc l hl hp
      exact ⟨by simp only; omega, h2⟩

theorem dropT_sub {d : Nat} : ∀ {t : List (Nat × SV)}, (dropT t d).Sublist t
  | [] => .slnil
  | (k, v) :: r => by
    simp only [dropT]
    cases Nat.beq k d with
    | true => exact List.sublist_cons_self _ _
    | false => exact (dropT_sub (t := r)).cons_cons _

theorem condT_uniq {A : Ann} {t : List (Nat × SV)} {n : Nat} {b : Bool} (hu : Uniq t) : Uniq (condT A t n b) := by
  unfold condT
  cases nmem n A.kc with
  | true => exact (stt_uniq hu).1
  | false => exact hu.sub dropT_sub

theorem condT_trep {A : Ann} {cx : Cx} {w : World} {t : List (Nat × SV)} {tm : Array Value} {n : Nat} {b : Bool} (hu : Uniq t) (ht : TRep cx w t tm) (hn : n < tm.size) (hv : SRep cx w (.d (.v (.bool b))) (tm.getD n undef)) : TRep cx w (condT A t n b) tm := by
  unfold condT
  cases nmem n A.kc with
  | true => exact TRep.stt hu ht hn hv
  | false => exact fun i x hx => ht i x (dropT_sub.mem hx)

/-- How an end of code looks to the machine. -/
def exitOf : SE → Exit
  | .norm => .normal
  | .exit id => .exit id
  | .ret => .ret

theorem exists_least {J : Nat → Prop} (h : ∃ n, J n) : ∃ n, J n ∧ ∀ m, m < n → ¬ J m := by
  obtain ⟨n, hn⟩ := h
  induction n using Nat.strongRecOn with
  | _ n ih =>
    by_cases hm : ∃ m, m < n ∧ J m
    · obtain ⟨m, h1, h2⟩ := hm; exact ih m h1 h2
    · exact ⟨n, hn, fun m h1 h2 => hm ⟨m, h1, h2⟩⟩

open Classical in
 noncomputable def leastOf (J : Nat → Prop) : Nat := if h : ∃ n, J n then Classical.choose (exists_least h) else 0

theorem leastOf_spec {J : Nat → Prop} (h : ∃ n, J n) : J (leastOf J) ∧ ∀ m, J m → leastOf J ≤ m := by
  have hs := Classical.choose_spec (exists_least h)
  have e : leastOf J = Classical.choose (exists_least h) := by unfold leastOf; rw [dif_pos h]
  rw [e]
  exact ⟨hs.1, fun m hm => by
    rcases Nat.lt_or_ge m (Classical.choose (exists_least h)) with h' | h'
    · exact absurd hm (hs.2 m h')
    · exact h'⟩

section
variable {P : Program} {A : Ann} {Ω : Type} {env : Env Ω} {out : Ω}

theorem sx_sound (he : EnvOK P env) (hmix : P.follows .mixedOrders = true) {nt : Nat} : ∀ (c : Code) (cc : CC) (id : Nat) (s : SS) (k : SE → SS → Option Ω), coC P nt c = some cc → sx env A cc id s k = some out →
    ∀ (Q : Exit → Act → World → Prop) (cx : Cx) (w : World) (a : Act), a.tmps.size = nt → Uniq s.t → Gam cx s.h w → TRep cx w s.t a.tmps →
    (∀ e s' cx' w' a', k e s' = some out → Frm a a' → Uniq s'.t → Grow A.p cx w cx' w' → Gam cx' s'.h w' → TRep cx' w' s'.t a'.tmps → Q (exitOf e) a' w') → c.wp P Q a w := by
  intro c
  induction c with
  | skip =>
    intro cc id s k hc h Q cx w a hsz hu hg ht hk
    simp only [coC, Option.some.injEq] at hc; subst hc
    simp only [sx] at h
    exact wp_skip (hk .norm s cx w a h (Frm.refl a) hu (Grow.refl _ _ _) hg ht)
  | region rid ops draw =>
    intro cc id s k hc h Q cx w a hsz hu hg ht hk
    simp only [coC] at hc
    split at hc
    · rename_i l hl
      obtain ⟨hap, hc⟩ := cond_some hc
      simp only [Option.some.injEq] at hc; subst hc
      simp only [sx] at h
      have fin : ∀ (cx' : Cx) (w' : World) (a' : Act) (s' : SS), k .norm ⟨keepT A.keep s'.t, s'.h⟩ = some out → Frm a a' → Uniq s'.t → Grow A.p cx w cx' w' → Gam cx' s'.h w' → TRep cx' w' s'.t a'.tmps → Q .normal a' w' := fun cx' w' a' s' h1 h2 h3 h4 h5 h6 =>
        hk .norm _ cx' w' a' h1 h2 (h3.sub keepT_sub) h4 h5 fun i x hx => h6 i x (keepT_mem hx).2
      cases draw with
      | true =>
        simp only [cond_true] at h
        exact sregD_sound he hmix hl (by simpa using hap) h hsz hu hg ht fin
      | false =>
        simp only [cond_false] at h
        exact wp_region_list (sreg_sound he rfl ops.toList [] l s hl h cx w a hsz hu hg ht fin)
    · simp at hc
  | seq x y ihx ihy =>
    intro cc id s k hc h Q cx w a hsz hu hg ht hk
    simp only [coC] at hc
    split at hc
    · rename_i x' y' hx hy
      simp only [Option.some.injEq] at hc; subst hc
      simp only [sx] at h
      refine wp_seq (ihx x' id s _ hx h _ cx w a hsz hu hg ht fun e s' cx' w' a' h1 h2 h3 h4 h5 h6 => ?_)
      cases e with
      | norm =>
        simp only [exitOf, Exit.then]
        exact ihy y' id s' k hy h1 Q cx' w' a' (h2.size.trans hsz) h3 h5 h6 fun e s2 cx2 w2 a2 k1 k2 k3 k4 k5 k6 => hk e s2 cx2 w2 a2 k1 (h2.trans k2) k3 (h4.trans k4) k5 k6
      | exit i => exact hk (.exit i) s' cx' w' a' h1 h2 h3 h4 h5 h6
      | ret => exact hk .ret s' cx' w' a' h1 h2 h3 h4 h5 h6
    · simp at hc
  | cond c x y ihx ihy =>
    intro cc id s k hc h Q cx w a hsz hu hg ht hk
    cases c with
    | tmp n =>
      simp only [coC] at hc
      split at hc
      · rename_i x' y' hx hy
        simp only [Option.some.injEq] at hc; subst hc
        simp only [sx] at h
        split at h
        · rename_i t hlt
          have hm := lk_mem (n := n) (t := s.t) (by rw [hlt]; simp)
          have h2 := (ht _ _ hm).2
          rw [hlt] at h2
          have h3 : a.eval (.tmp n) = .bool t := bool_of h2
          rcases br_some h with ⟨rfl, h⟩ | ⟨rfl, h⟩
          · exact wp_cond_true h3 (ihx x' id _ k hx h Q cx w a hsz (condT_uniq hu) hg (condT_trep hu ht (ht _ _ hm).1 h2) hk)
          · exact wp_cond_false h3 (ihy y' id _ k hy h Q cx w a hsz (condT_uniq hu) hg (condT_trep hu ht (ht _ _ hm).1 h2) hk)
        · simp at h
      · simp at hc
    | const _ => simp only [coC, Option.some.injEq] at hc; subst hc; simp [sx] at h
    | func _ => simp only [coC, Option.some.injEq] at hc; subst hc; simp [sx] at h
    | global _ => simp only [coC, Option.some.injEq] at hc; subst hc; simp [sx] at h
  | block bid x ihx =>
    intro cc id s k hc h Q cx w a hsz hu hg ht hk
    simp only [coC] at hc
    obtain ⟨x', hx, rfl⟩ := Option.map_eq_some_iff.1 hc
    simp only [sx] at h
    refine wp_block (ihx x' bid s _ hx h _ cx w a hsz hu hg ht fun e s' cx' w' a' h1 h2 h3 h4 h5 h6 => ?_)
    cases e with
    | norm => exact hk .norm s' cx' w' a' h1 h2 h3 h4 h5 h6
    | exit i =>
      simp only [exitOf, Exit.inBlock]
      cases hb : Nat.beq i bid with
      | true =>
        simp only [hb, cond_true] at h1
        rw [if_pos (nbeq.1 hb)]
        exact hk .norm s' cx' w' a' h1 h2 h3 h4 h5 h6
      | false =>
        simp only [hb, cond_false] at h1
        rw [if_neg (nbne.1 hb)]
        exact hk (.exit i) s' cx' w' a' h1 h2 h3 h4 h5 h6
    | ret => exact hk .ret s' cx' w' a' h1 h2 h3 h4 h5 h6
  | loop x ihx =>
    intro cc id s k hc h Q cx w a hsz hu hg ht hk
    simp only [coC] at hc
    obtain ⟨x', hx, rfl⟩ := Option.map_eq_some_iff.1 hc
    simp only [sx] at h
    rw [← hg.n] at h
    let J : Act → World → Nat → Prop := fun a' w' n => ∃ s' cx', iter (A.at id) cx.n (sx env A x' id) n s' k = some out ∧ Frm a a' ∧ Uniq s'.t ∧ Grow A.p cx w cx' w' ∧ Gam cx' s'.h w' ∧ TRep cx' w' s'.t a'.tmps
    obtain ⟨cx0, e1, e2, e3⟩ := gc_sound (lv := A.at id) hg ht (Grow.refl A.p cx w)
    refine wp_loop (fun a' w' => ∃ n, J a' w' n) (fun a' w' => leastOf (J a' w')) ⟨big, _, cx0, h, Frm.refl a, hu.sub (by rw [gc_t]; exact keepT_sub), e3, e1, e2⟩ fun a1 w1 hI => ?_
    obtain ⟨⟨s1, cx1, h1, h2, h3, h4, h5, h6⟩, hleast⟩ := leastOf_spec hI
    generalize hn : leastOf (J a1 w1) = n at *
    cases n with
    | zero => simp [iter] at h1
    | succ n =>
      simp only [iter] at h1
      refine ihx x' id s1 _ hx h1 _ cx1 w1 a1 (h2.size.trans hsz) h3 h5 h6 fun e s' cx' w' a' k1 k2 k3 k4 k5 k6 => ?_
      cases e with
      | norm =>
        simp only [exitOf, Exit.then]
        obtain ⟨cx2, g1, g2, g3⟩ := gc_sound (lv := A.at id) k5 k6 (h4.trans k4)
        have hJ : J a' w' n := ⟨_, cx2, k1, h2.trans k2, k3.sub (by rw [gc_t]; exact keepT_sub), g3, g1, g2⟩
        exact ⟨⟨n, hJ⟩, by have := (leastOf_spec ⟨n, hJ⟩).2 n hJ; omega⟩
      | exit i => exact hk (.exit i) s' cx' w' a' k1 (h2.trans k2) k3 (h4.trans k4) k5 k6
      | ret => exact hk .ret s' cx' w' a' k1 (h2.trans k2) k3 (h4.trans k4) k5 k6
  | exit i =>
    intro cc id s k hc h Q cx w a hsz hu hg ht hk
    simp only [coC, Option.some.injEq] at hc; subst hc
    simp only [sx] at h
    exact wp_exit (hk (.exit i) s cx w a h (Frm.refl a) hu (Grow.refl _ _ _) hg ht)
  | ret =>
    intro cc id s k hc h Q cx w a hsz hu hg ht hk
    simp only [coC, Option.some.injEq] at hc; subst hc
    simp only [sx] at h
    exact wp_ret (hk .ret s cx w a h (Frm.refl a) hu (Grow.refl _ _ _) hg ht)
  | rangeFunc _ _ _ _ => intro cc id s k hc h; simp only [coC, Option.some.injEq] at hc; subst hc; simp [sx] at h
  | scope _ => intro cc id s k hc h; simp only [coC, Option.some.injEq] at hc; subst hc; simp [sx] at h
  | label _ => intro cc id s k hc h; simp only [coC, Option.some.injEq] at hc; subst hc; simp [sx] at h
  | goto _ => intro cc id s k hc h; simp only [coC, Option.some.injEq] at hc; subst hc; simp [sx] at h
  | refuse _ => intro cc id s k hc h; simp only [coC, Option.some.injEq] at hc; subst hc; simp [sx] at h
end
end Go.Sx

/- Functions. -/
namespace Go.Sx

section
variable {P : Program} {A : Ann} {Ω : Type} {env : Env Ω} {out : Ω}

theorem rets_sound {cx : Cx} {w : World} {s : SS} {tm : Array Value} (hg : Gam cx s.h w) (ht : TRep cx w s.t tm) : ∀ {rs : List ResultVar} {l : List SV}, resOk P rs = true → rets s (coRes P rs) = some l →
    ∃ vs, (rs.mapM (fun | .tmp t => pure (tm.getD t undef) | .cell a t => do loadVar t (← asAddr (tm.getD a undef)) : ResultVar → Sem Value)).run P w = .ok vs w ∧ SRepL cx w l vs
  | [], l, _, h => by
    simp only [coRes, rets, Option.some.injEq] at h; subst h
    exact ⟨[], by simp, by simp [SRepL]⟩
  | .tmp t :: r, l, hok, h => by
    simp only [coRes, rets] at h
    split at h
    · rename_i l' hl
      simp only [Option.some.injEq] at h; subst h
      obtain ⟨vs, h1, h2⟩ := rets_sound hg ht (by simpa [resOk] using hok) hl
      exact ⟨tm.getD t undef :: vs, by simp only [List.mapM_cons, Sem.run_bind, h1, Result.andThen_ok, Sem.run_pure], by simp only [SRepL]; exact ⟨SRep.lk t ht, h2⟩⟩
    · simp at h
  | .cell a t :: r, l, hok, h => by
    simp only [resOk, Bool.and_eq_true] at hok
    simp only [coRes, rets] at h
    split at h
    · rename_i c l' hc hl
      obtain ⟨vs, h1, h2⟩ := rets_sound hg ht hok.2 hl
      have hst : ∀ v, ((aggT P t = true ∧ v = .agg c) ∨ (aggT P t = false ∧ c = [v])) → ∃ v', (do loadVar t (← asAddr (tm.getD a undef)) : Sem Value).run P w = .ok v' w ∧ SRep cx w v v' := by
        intro v hv
        have hu := okT_ne hok.1
        obtain ⟨ad', c', hp, hlen, hr, hcell⟩ := ld_sound hg.seen (SRep.lk a ht) hc
        simp only [Sem.run_bind, hp, asAddr, Sem.run_pure, Result.andThen_ok]
        rcases hv with ⟨ha, rfl⟩ | ⟨ha, rfl⟩
        · refine ⟨.agg ⟨c'⟩, ?_, by simp only [SRep]; exact ⟨c', rfl, hr⟩⟩
          have hln : szT P t = c'.length := by rw [← hr.length, hlen]; simp [ldT, ha]
          have := run_loadCells_list (P := P) (w := w) ad' c' hcell
          simp [loadVar, run_aggT w hu, ha, run_szT w (info_of_uT hu).2, hln, this]
        · have hln := hr.length
          match c', hln, hr, hcell with
          | [v'], _, hr, hcell =>
            refine ⟨v', ?_, by simp only [SRepL] at hr; exact hr.1⟩
            have h0 := hcell 0 v' rfl
            have : (ad'.add 0) = ad' := by simp [Addr.add]
            rw [this] at h0
            simp [loadVar, run_aggT w hu, ha, load, Sem.run, h0]
      cases ha : aggT P t with
      | true =>
        rw [ha] at h
        simp only [cond_true, Option.some.injEq] at h; subst h
        obtain ⟨v', h3, h4⟩ := hst _ (.inl ⟨ha, rfl⟩)
        exact ⟨v' :: vs, by rw [List.mapM_cons, Sem.run_bind, h3]; simp only [Sem.run_bind, h1, Result.andThen_ok, Sem.run_pure], by simp only [SRepL]; exact ⟨h4, h2⟩⟩
      | false =>
        rw [ha] at h
        simp only [cond_false] at h
        split at h
        · rename_i x
          simp only [Option.some.injEq] at h; subst h
          obtain ⟨v', h3, h4⟩ := hst x (.inr ⟨ha, rfl⟩)
          exact ⟨v' :: vs, by rw [List.mapM_cons, Sem.run_bind, h3]; simp only [Sem.run_bind, h1, Result.andThen_ok, Sem.run_pure], by simp only [SRepL]; exact ⟨h4, h2⟩⟩
        · simp at h
    · simp at h

theorem number_mem : ∀ {l : List SV} {i : Nat} {p : Nat × SV}, p ∈ number l i → i ≤ p.1 ∧ l[p.1 - i]? = some p.2
  | [], i, p, h => by simp [number] at h
  | x :: r, i, p, h => by
    have tail : p ∈ number r (i + 1) → i ≤ p.1 ∧ (x :: r)[p.1 - i]? = some p.2 := fun h => by
      obtain ⟨h1, h2⟩ := number_mem h
      refine ⟨by omega, ?_⟩
      rw [show p.1 - i = (p.1 - (i + 1)) + 1 by omega]; simpa using h2
    simp only [number] at h
    split at h
    · exact tail h
    · rcases List.mem_cons.1 h with rfl | h
      · simp
      · exact tail h

theorem number_uniq : ∀ {l : List SV} {i : Nat}, Uniq (number l i)
  | [], i => by simp [number, Uniq]
  | x :: r, i => by
    simp only [number]
    split
    · exact number_uniq
    · exact List.pairwise_cons.2 ⟨fun p hp => by have := (number_mem hp).1; simp; omega, number_uniq⟩

theorem tup1_sound {cx : Cx} {w : World} {l : List SV} {vs : List Value} (h : SRepL cx w l vs) : SRep cx w (tup1 l) (if h : (⟨vs⟩ : Array Value).size = 1 then (⟨vs⟩ : Array Value)[0] else .tuple ⟨vs⟩) := by
  match l, vs, h with
  | [], [], h => simp only [tup1, SRep]; exact ⟨[], rfl, h⟩
  | [x], [v], h => simp only [SRepL] at h; simpa [tup1] using h.1
  | x :: y :: r, v :: u :: vs, h => simp only [tup1, SRep]; exact ⟨v :: u :: vs, by simp, h⟩
  | [], _ :: _, h => simp [SRepL] at h
  | _ :: _, [], h => simp [SRepL] at h
  | [x], v :: u :: vs, h => simp [SRepL] at h
  | x :: y :: r, [v], h => simp [SRepL] at h

/-- A function, run from a symbolic heap. -/
theorem fn_calls {env : Env (SV × SH)} (he : EnvOK P env) (hmix : P.follows .mixedOrders = true) {g : Nat} {fn : Func} (hf : P.funcs[g]? = some fn) {C : CF} (hC : coF P fn = some C) {args : List SV} {h h' : SH} {r : SV}
    (hrun : sxFn env A C args h (fun r h => some (r, h)) = some (r, h')) (cx : Cx) (w : World) (vals : List Value) (hg : Gam cx h w) (ha : SRepL cx w args vals) :
    Calls P g ⟨vals⟩ w fun e w' => ∃ v cx', e = .returned v ∧ Grow A.p cx w cx' w' ∧ SRep cx' w' r v ∧ Gam cx' h' w' := by
  unfold coF at hC
  split at hC
  · rename_i c hb
    split at hC
    · rename_i cc hcc
      obtain ⟨hchk, hC⟩ := cond_some hC
      simp only [Bool.and_eq_true] at hchk
      simp only [Option.some.injEq] at hC; subst hC
      simp only [sxFn] at hrun
      obtain ⟨hlen, hrun⟩ := cond_some hrun
      have hlen := nbeq.1 hlen
      have hnt := Nat.le_of_ble_eq_true hchk.1
      have hal := ha.length
      have hsz : ((⟨vals⟩ : Array Value) ++ Array.replicate (fn.ntmps - (⟨vals⟩ : Array Value).size) undef).size = fn.ntmps := by simp; omega
      refine calls_of_wp hf hb (sx_sound he hmix c cc 0 _ _ hcc hrun _ cx w _ hsz number_uniq hg (fun i x hx => ?_) fun e s' cx' w' a' h1 h2 h3 h4 h5 h6 => ?_)
      · obtain ⟨_, h2⟩ := number_mem hx
        simp only [Nat.sub_zero] at h2
        obtain ⟨v, h3, h4⟩ := ha.get h2
        have hil := (List.getElem?_eq_some_iff.1 h3).1
        refine ⟨by rw [hsz]; omega, ?_⟩
        rw [Array.getD_eq_getD_getElem?, Array.getElem?_append_left (by simpa using hil)]
        simp only [List.getElem?_toArray, h3, Option.getD_some]
        exact h4
      · have fin : ∀ l, rets s' (coRes P fn.results.toList) = some l → some (tup1 l, s'.h) = some (r, h') →
            a'.defers = [] ∧ ∃ v, (results fn a'.tmps).run P w' = .ok v w' ∧ ∃ v' cx', (Ending.returned v) = .returned v' ∧ Grow A.p cx w cx' w' ∧ SRep cx' w' r v' ∧ Gam cx' h' w' := by
          intro l hl hz
          obtain ⟨vs, k1, k2⟩ := rets_sound h5 h6 hchk.2 hl
          simp only [Option.some.injEq, Prod.mk.injEq] at hz
          obtain ⟨rfl, rfl⟩ := hz
          refine ⟨h2.defers, _, ?_, _, cx', rfl, h4, tup1_sound k2, h5⟩
          have e1 : fn.results = fn.results.toList.toArray := by simp
          unfold results
          rw [e1, List.mapM_toArray, Sem.run_bind, Sem.run_map]
          refine (congrArg (fun z => Result.andThen (Result.andThen z fun a w' => Result.ok a.toArray w') fun a w' => Sem.run P (pure (if h : a.size = 1 then a[0] else Value.tuple a)) w') k1).trans ?_
          rfl
        cases e with
        | exit i => simp at h1
        | norm =>
          simp only at h1
          split at h1
          · rename_i l hl; exact fin l hl h1
          · simp at h1
        | ret =>
          simp only at h1
          split at h1
          · rename_i l hl; exact fin l hl h1
          · simp at h1
    · simp at hC
  · simp at hC
end
end Go.Sx

/- The interpreter reaches one end, whatever follows: it is parametric in its continuation. -/
namespace Go.Sx

section
variable {Ω Ω' : Type} {out : Ω}

theorem caseIx_par {V : Type} {i : Int} {g : Nat → (V → Option Ω) → Option Ω} {g' : Nat → (V → Option Ω') → Option Ω'} {k : V → Option Ω} (hg : ∀ j, g j k = some out → ∃ v, k v = some out ∧ ∀ k', g' j k' = k' v) :
    ∀ (n j : Nat), caseIx i (fun j => g j k) n j = some out → ∃ v, k v = some out ∧ ∀ k', caseIx i (fun j => g' j k') n j = k' v
  | 0, j, h => by simp [caseIx] at h
  | n + 1, j, h => by
    simp only [caseIx] at h ⊢
    rcases br_some h with ⟨e, h⟩ | ⟨e, h⟩
    · obtain ⟨v, h1, h2⟩ := hg j h
      exact ⟨v, h1, fun k' => by rw [e]; exact h2 k'⟩
    · obtain ⟨v, h1, h2⟩ := caseIx_par hg n (j + 1) h
      exact ⟨v, h1, fun k' => by rw [e]; exact h2 k'⟩

theorem cmp_par {o : BinOp} {x y : Int} {k : Bool → Option Ω} (h : cmp o x y k = some out) : ∃ v, k v = some out ∧ ∀ k' : Bool → Option Ω', cmp o x y k' = k' v := by
  cases o <;> simp only [cmp, reduceCtorEq] at h ⊢
  all_goals exact ⟨_, h, fun _ => rfl⟩

theorem arith_par {o : BinOp} {ka : IntKind} {x y : Int} {k : Int → Option Ω} (h : arith o ka x y k = some out) : ∃ v, k v = some out ∧ ∀ k' : Int → Option Ω', arith o ka x y k' = k' v := by
  cases o <;> simp only [arith, reduceCtorEq] at h ⊢
  case quo => rcases br_some h with ⟨_, h⟩ | ⟨e, h⟩
              · cases h
              · exact ⟨_, h, fun _ => by rw [e]; rfl⟩
  case rem => rcases br_some h with ⟨_, h⟩ | ⟨e, h⟩
              · cases h
              · exact ⟨_, h, fun _ => by rw [e]; rfl⟩
  all_goals exact ⟨_, h, fun _ => rfl⟩

theorem bop_par {o : BinOp} {a b : SV} {k : SV → Option Ω} (h : bop o a b k = some out) : ∃ v, k v = some out ∧ ∀ k' : SV → Option Ω', bop o a b k' = k' v := by
  unfold bop at h ⊢
  split at h
  · split at h
    · rcases br_some h with ⟨_, h⟩ | ⟨e, h⟩
      · cases h
      · exact ⟨_, h, fun _ => by simp only [e]; rfl⟩
    · rcases br_some h with ⟨_, h⟩ | ⟨e, h⟩
      · cases h
      · exact ⟨_, h, fun _ => by simp only [e]; rfl⟩
    · obtain ⟨e, h⟩ := cond_some h
      cases hc : isCmp o with
      | true =>
        simp only [hc, cond_true] at h
        obtain ⟨v, h1, h2⟩ := cmp_par (Ω' := Ω') h
        exact ⟨_, h1, fun k' => by simp only [e, cond_true, h2]⟩
      | false =>
        simp only [hc, cond_false] at h
        obtain ⟨v, h1, h2⟩ := arith_par (Ω' := Ω') h
        exact ⟨_, h1, fun k' => by simp only [e, cond_true, cond_false, h2]⟩
  · split at h
    · rcases br_some h with ⟨e, h⟩ | ⟨_, h⟩
      · exact ⟨_, h, fun _ => by simp only [e]; rfl⟩
      · cases h
    · cases h
  · cases h

theorem unop_par {o : UnOp} {a : SV} {k : SV → Option Ω} (h : unop o a k = some out) : ∃ v, k v = some out ∧ ∀ k' : SV → Option Ω', unop o a k' = k' v := by
  unfold unop at h ⊢
  split at h
  · exact ⟨_, h, fun _ => rfl⟩
  · exact ⟨_, h, fun _ => rfl⟩
  · cases h

theorem ixArr_par {n sz : Nat} {x : SV} {i : Int} {k : SV → Option Ω} (h : ixArr n sz x i k = some out) : ∃ v, k v = some out ∧ ∀ k' : SV → Option Ω', ixArr n sz x i k' = k' v := by
  unfold ixArr at h ⊢
  refine caseIx_par (g := fun j k => match addO x (j * sz) with | some p => k p | none => none) (g' := fun j k => match addO x (j * sz) with | some p => k p | none => none) (fun j hj => ?_) n 0 h
  split at hj
  · rename_i p e
    exact ⟨_, hj, fun _ => rfl⟩
  · cases hj

theorem ixAgg_par {n sz : Nat} {a : Bool} {x : SV} {i : Int} {k : SV → Option Ω} (h : ixAgg n sz a x i k = some out) : ∃ v, k v = some out ∧ ∀ k' : SV → Option Ω', ixAgg n sz a x i k' = k' v := by
  unfold ixAgg at h ⊢
  split at h
  · rename_i c
    refine caseIx_par (g := fun j k => bif a || Nat.blt (j * sz) c.length then k (partS a sz (j * sz) c) else none) (g' := fun j k => bif a || Nat.blt (j * sz) c.length then k (partS a sz (j * sz) c) else none) (fun j hj => ?_) n 0 h
    obtain ⟨e, hj⟩ := cond_some hj
    exact ⟨_, hj, fun _ => by simp only [e, cond_true]⟩
  · cases h

theorem ixStr_par {x : SV} {i : Int} {k : SV → Option Ω} (h : ixStr x i k = some out) : ∃ v, k v = some out ∧ ∀ k' : SV → Option Ω', ixStr x i k' = k' v := by
  unfold ixStr at h ⊢
  split at h
  · rcases br_some h with ⟨e, h⟩ | ⟨_, h⟩
    · exact ⟨_, h, fun _ => by simp only [e]; rfl⟩
    · cases h
  · cases h

theorem ixSl_par {hp : SH} {sz : Nat} {x : SV} {i : Int} {k : SV → Option Ω} (h : ixSl hp sz x i k = some out) : ∃ v, k v = some out ∧ ∀ k' : SV → Option Ω', ixSl hp sz x i k' = k' v := by
  unfold ixSl at h ⊢
  split at h
  · obtain ⟨e, h⟩ := cond_some h
    rcases br_some h with ⟨e2, h⟩ | ⟨_, h⟩
    · exact ⟨_, h, fun _ => by simp only [e, e2]; rfl⟩
    · cases h
  · obtain ⟨e, h⟩ := cond_some h
    rcases br_some h with ⟨e2, h⟩ | ⟨_, h⟩
    · exact ⟨_, h, fun _ => by simp only [e, e2]; rfl⟩
    · cases h
  · split at h
    · rename_i hg
      obtain ⟨e, h⟩ := cond_some h
      rcases br_some h with ⟨e2, h⟩ | ⟨_, h⟩
      · exact ⟨_, h, fun _ => by simp only [e, e2]; rfl⟩
      · cases h
    · rename_i hg
      obtain ⟨e, h⟩ := cond_some h
      rcases br_some h with ⟨e2, h⟩ | ⟨_, h⟩
      · exact ⟨_, h, fun _ => by simp only [e, e2]; rfl⟩
      · cases h
    · cases h
  · rename_i l o sz' n c
    obtain ⟨e, h⟩ := cond_some h
    obtain ⟨v, h1, h2⟩ := caseIx_par (i := i) (g := fun j (k : SV → Option Ω) => k (.ptr l (o + j * sz'))) (g' := fun j (k : SV → Option Ω') => k (.ptr l (o + j * sz'))) (k := k) (fun j hj => ⟨_, hj, fun _ => rfl⟩) n 0 h
    exact ⟨v, h1, fun k' => by simp only [e, cond_true]; exact h2 k'⟩
  · cases h

theorem slcS_par {z : Nat} {x : SV} {a b c : Option SV} {k : SV → Option Ω} (h : slcS z x a b c k = some out) : ∃ v, k v = some out ∧ ∀ k' : SV → Option Ω', slcS z x a b c k' = k' v := by
  unfold slcS at h ⊢
  split at h
  · split at h
    · rename_i e1 e2 e3
      obtain ⟨e, h⟩ := cond_some h
      rcases br_some h with ⟨e4, h⟩ | ⟨_, h⟩
      · exact ⟨_, h, fun _ => by simp only [e, e4]; rfl⟩
      · cases h
    · cases h
  · split at h
    · rename_i e1 e2 e3
      obtain ⟨e, h⟩ := cond_some h
      rcases br_some h with ⟨e4, h⟩ | ⟨_, h⟩
      · exact ⟨_, h, fun _ => by simp only [e, e4]; rfl⟩
      · cases h
    · cases h
  · split at h
    · rename_i e1 e2 e3
      obtain ⟨e, h⟩ := cond_some h
      rcases br_some h with ⟨e4, h⟩ | ⟨_, h⟩
      · exact ⟨_, h, fun _ => by simp only [e, e4]; rfl⟩
      · cases h
    · cases h
  · cases h

theorem findS_par {V : Type} {q : Value} {kn : (V → Option Ω) → Option Ω} {kn' : (V → Option Ω') → Option Ω'} {f : SV → V} {k : V → Option Ω} (hn : kn k = some out → ∃ v, k v = some out ∧ ∀ k', kn' k' = k' v) :
    ∀ {es : List (Value × SV)}, findS q (kn k) (fun x => k (f x)) es = some out → ∃ v, k v = some out ∧ ∀ k', findS q (kn' k') (fun x => k' (f x)) es = k' v
  | [], h => by simp only [findS] at h ⊢; exact hn h
  | (p, x) :: r, h => by
    simp only [findS] at h ⊢
    split at h
    · rename_i b e
      rcases br_some h with ⟨e2, h⟩ | ⟨e2, h⟩
      · exact ⟨_, h, fun k' => by simp only [e2]; rfl⟩
      · obtain ⟨v, h1, h2⟩ := findS_par hn (es := r) h
        exact ⟨v, h1, fun k' => by simp only [e2]; exact h2 k'⟩
    · cases h
end
end Go.Sx

/- The interpreter is parametric in its continuation, second part: operations, regions, code, functions. -/
namespace Go.Sx

/-- Two environments that tell the same of each callee. -/
def EnvPar {Ω Ω' : Type} (env : Env Ω) (env' : Env Ω') : Prop :=
  ∀ g sp, env g = some sp → ∃ sp', env' g = some sp' ∧ ∀ args h k out, sp args h k = some out → ∃ r m sc h', k r m sc h' = some out ∧ ∀ k', sp' args h k' = k' r m sc h'

section
variable {Ω Ω' : Type} {out : Ω} {env : Env Ω} {env' : Env Ω'} {A : Ann}

theorem putOwn_par {s : SS} {a : SV} {o : SO} {k : SV → List Nat → SS → Option Ω} (h : putOwn A s a o k = some out) : ∃ v m s', k v m s' = some out ∧ ∀ k' : SV → List Nat → SS → Option Ω', putOwn A s a o k' = k' v m s' := by
  unfold putOwn at h ⊢
  split at h
  · obtain ⟨e, h⟩ := cond_some h; exact ⟨_, _, _, h, fun _ => by simp only [e, cond_true]⟩
  · obtain ⟨e, h⟩ := cond_some h; exact ⟨_, _, _, h, fun _ => by simp only [e, cond_true]⟩
  · exact ⟨_, _, _, h, fun _ => rfl⟩

theorem appS_par {s : SS} {e sz b : Nat} {kd : Option IntKind} {x y : SV} {k : SV → List Nat → SS → Option Ω} (h : appS A s e sz b kd x y k = some out) : ∃ v m s', k v m s' = some out ∧ ∀ k' : SV → List Nat → SS → Option Ω', appS A s e sz b kd x y k' = k' v m s' := by
  unfold appS at h ⊢
  obtain ⟨e1, h⟩ := cond_some h
  simp only [e1, cond_true]
  split at h
  · split at h
    · rcases br_some h with ⟨e4, h⟩ | ⟨_, h⟩
      · obtain ⟨v, m, s', h1, h2⟩ := putOwn_par (Ω' := Ω') h
        exact ⟨v, m, s', h1, fun k' => by simp only [e4]; exact h2 k'⟩
      · cases h
    · cases h
  · split at h
    · rcases br_some h with ⟨e4, h⟩ | ⟨_, h⟩
      · obtain ⟨v, m, s', h1, h2⟩ := putOwn_par (Ω' := Ω') h
        exact ⟨v, m, s', h1, fun k' => by simp only [e4]; exact h2 k'⟩
      · cases h
    · cases h

theorem putNew_par {s : SS} {a : SV} {o : SO} {k : SV → List Nat → SS → Option Ω} (h : putNew s a o k = some out) : ∃ v m s', k v m s' = some out ∧ ∀ k' : SV → List Nat → SS → Option Ω', putNew s a o k' = k' v m s' := by
  unfold putNew at h ⊢
  split at h
  · exact ⟨_, _, _, h, fun _ => rfl⟩
  · exact ⟨_, _, _, h, fun _ => rfl⟩
  · exact ⟨_, _, _, h, fun _ => rfl⟩

theorem appE_par {s : SS} {e sz b : Nat} {kd : Option IntKind} {x y : SV} {k : SV → List Nat → SS → Option Ω} (h : appE s e sz b kd x y k = some out) : ∃ v m s', k v m s' = some out ∧ ∀ k' : SV → List Nat → SS → Option Ω', appE s e sz b kd x y k' = k' v m s' := by
  unfold appE at h ⊢
  obtain ⟨e1, h⟩ := cond_some h
  simp only [e1, cond_true]
  split at h
  · split at h
    · rcases br_some h with ⟨e4, h⟩ | ⟨_, h⟩
      · obtain ⟨v, m, s', h1, h2⟩ := putNew_par (Ω' := Ω') h
        exact ⟨v, m, s', h1, fun k' => by simp only [e4]; exact h2 k'⟩
      · cases h
    · cases h
  · split at h
    · rcases br_some h with ⟨e4, h⟩ | ⟨_, h⟩
      · obtain ⟨v, m, s', h1, h2⟩ := putNew_par (Ω' := Ω') h
        exact ⟨v, m, s', h1, fun k' => by simp only [e4]; exact h2 k'⟩
      · cases h
    · cases h

theorem lift_par {s : SS} {F : (SV → Option Ω) → Option Ω} {F' : (SV → Option Ω') → Option Ω'} {k : SV → List Nat → SS → Option Ω} (hF : ∀ k : SV → Option Ω, F k = some out → ∃ v, k v = some out ∧ ∀ k', F' k' = k' v) (h : F (fun r => k r [] s) = some out) :
    ∃ v m s', k v m s' = some out ∧ ∀ k' : SV → List Nat → SS → Option Ω', F' (fun r => k' r [] s) = k' v m s' := by
  obtain ⟨v, h1, h2⟩ := hF _ h
  exact ⟨v, [], s, h1, fun k' => h2 _⟩

theorem sop_par (he : EnvPar env env') {op : CO} {s : SS} {k : SV → List Nat → SS → Option Ω} (h : sop env A op s k = some out) : ∃ v m s', k v m s' = some out ∧ ∀ k' : SV → List Nat → SS → Option Ω', sop env' A op s k' = k' v m s' := by
  cases op <;> simp only [sop] at h ⊢
  case mv => exact ⟨_, _, _, h, fun _ => rfl⟩
  case pick =>
    split at h
    · exact ⟨_, _, _, h, fun _ => rfl⟩
    · rcases br_some h with ⟨e, h⟩ | ⟨e, h⟩
      · exact ⟨_, _, _, h, fun _ => by simp only [e]; rfl⟩
      · exact ⟨_, _, _, h, fun _ => by simp only [e]; rfl⟩
    · cases h
  case ld n a x =>
    split at h
    · cases a with
      | true => exact ⟨_, _, _, h, fun _ => rfl⟩
      | false =>
        simp only [cond_false] at h ⊢
        split at h
        · exact ⟨_, _, _, h, fun _ => rfl⟩
        · cases h
    · cases h
  case st =>
    split at h
    · obtain ⟨e, h⟩ := cond_some h
      simp only [e, cond_true]
      split at h
      · exact ⟨_, _, _, h, fun _ => rfl⟩
      · cases h
    · cases h
  case bin => exact lift_par (F := fun k => bop _ _ _ k) (F' := fun k => bop _ _ _ k) (fun _ h => bop_par h) h
  case un => exact lift_par (F := fun k => unop _ _ k) (F' := fun k => unop _ _ k) (fun _ h => unop_par h) h
  case slc => exact lift_par (F := fun k => slcS _ _ _ _ _ k) (F' := fun k => slcS _ _ _ _ _ k) (fun _ h => slcS_par h) h
  case app => exact appS_par h
  case ixa =>
    split at h
    · exact lift_par (F := fun k => ixArr _ _ _ _ k) (F' := fun k => ixArr _ _ _ _ k) (fun _ h => ixArr_par h) h
    · cases h
  case ixs =>
    split at h
    · exact lift_par (F := fun k => ixSl _ _ _ _ k) (F' := fun k => ixSl _ _ _ _ k) (fun _ h => ixSl_par h) h
    · cases h
  case ixg =>
    split at h
    · exact lift_par (F := fun k => ixAgg _ _ _ _ _ k) (F' := fun k => ixAgg _ _ _ _ _ k) (fun _ h => ixAgg_par h) h
    · cases h
  case ixc =>
    split at h
    · exact lift_par (F := fun k => ixStr _ _ k) (F' := fun k => ixStr _ _ k) (fun _ h => ixStr_par h) h
    · cases h
  case mks =>
    split at h
    · rcases br_some h with ⟨e, h⟩ | ⟨_, h⟩
      · simp only [e]
        split at h
        · split at h
          · exact ⟨_, _, _, h, fun _ => rfl⟩
          · cases h
        · cases hmc : A.mc with
          | true => rw [hmc, cond_true] at h; exact ⟨_, _, _, h, fun _ => rfl⟩
          | false =>
            rw [hmc, cond_false] at h
            split at h
            · exact ⟨_, _, _, h, fun _ => rfl⟩
            · cases h
      · cases h
    · cases h
  case call =>
    split at h
    · split at h
      · rename_i hg
        obtain ⟨sp', h1, h2⟩ := he _ _ hg
        obtain ⟨r, m, sc, h', h3, h4⟩ := h2 _ _ _ _ h
        obtain ⟨e, h3⟩ := cond_some h3
        exact ⟨_, _, _, h3, fun k' => by simp only [h1, h4, e, cond_true]⟩
      · cases h
    · cases h
  case mn =>
    split at h
    · obtain ⟨e, h⟩ := cond_some h; exact ⟨_, _, _, h, fun _ => by simp only [e, cond_true]⟩
    · cases h
  case mx =>
    split at h
    · obtain ⟨e, h⟩ := cond_some h; exact ⟨_, _, _, h, fun _ => by simp only [e, cond_true]⟩
    · cases h
  case lku kk z ok m q =>
    split at h
    · exact ⟨_, _, _, h, fun _ => rfl⟩
    · split at h
      · split at h
        · obtain ⟨e1, h⟩ := cond_some h
          rcases br_some h with ⟨e, h⟩ | ⟨_, h⟩
          · exact ⟨_, _, _, h, fun _ => by simp only [e1, e, cond_true]; rfl⟩
          · cases h
        · cases h
      · split at h
        · rcases br_some h with ⟨e, h⟩ | ⟨_, h⟩
          · exact ⟨_, _, _, h, fun _ => by simp only [e]; rfl⟩
          · cases h
        · cases h
      · rename_i q' _ _ _ es _
        exact lift_par (F := fun k => findS _ (k (two ok z false)) (fun x => k (two ok x true)) es) (F' := fun k => findS _ (k (two ok z false)) (fun x => k (two ok x true)) es)
          (fun k h => findS_par (kn := fun k => k (two ok z false)) (kn' := fun k => k (two ok z false)) (f := fun x => two ok x true) (fun h => ⟨_, h, fun _ => rfl⟩) h) h
      · cases h
    · rename_i ks xs q' _ _
      exact lift_par (F := fun k => findS _ (k (two ok z false)) (fun x => k (two ok x true)) (ks.zip xs)) (F' := fun k => findS _ (k (two ok z false)) (fun x => k (two ok x true)) (ks.zip xs))
        (fun k h => findS_par (kn := fun k => k (two ok z false)) (kn' := fun k => k (two ok z false)) (f := fun x => two ok x true) (fun h => ⟨_, h, fun _ => rfl⟩) h) h
    · cases h
  case upd kk m q x =>
    split at h
    · split at h
      · obtain ⟨e1, h⟩ := cond_some h
        rcases br_some h with ⟨e, h⟩ | ⟨_, h⟩
        · exact ⟨_, _, _, h, fun _ => by simp only [e1, e, cond_true]; rfl⟩
        · cases h
      · rcases br_some h with ⟨e, h⟩ | ⟨_, h⟩
        · exact ⟨_, _, _, h, fun _ => by simp only [e]; rfl⟩
        · cases h
      · obtain ⟨e, h⟩ := cond_some h; exact ⟨_, _, _, h, fun _ => by simp only [e, cond_true]⟩
      · cases h
    · cases h
  case del kk m q =>
    split at h
    · split at h
      · rcases br_some h with ⟨e, h⟩ | ⟨_, h⟩
        · exact ⟨_, _, _, h, fun _ => by simp only [e]; rfl⟩
        · cases h
      · rcases br_some h with ⟨e, h⟩ | ⟨_, h⟩
        · exact ⟨_, _, _, h, fun _ => by simp only [e]; rfl⟩
        · cases h
      · cases h
    · cases h
  all_goals (repeat' (split at h))
  all_goals first
    | exact ⟨_, _, _, h, fun _ => rfl⟩
    | (cases h; done)
    | (obtain ⟨e, h⟩ := cond_some h; exact ⟨_, _, _, h, fun _ => by simp only [e, cond_true]⟩)
    | skip

theorem sreg_par (he : EnvPar env env') : ∀ {cs : List CR} {s : SS} {k : SS → Option Ω}, sreg env A cs s k = some out → ∃ s', k s' = some out ∧ ∀ k' : SS → Option Ω', sreg env' A cs s k' = k' s'
  | [], s, k, h => by simp only [sreg] at h ⊢; exact ⟨s, h, fun _ => rfl⟩
  | o :: r, s, k, h => by
    have run : ∀ (s1 : SS), sop env A o.op s1 (fun v _ s' => sreg env A r ⟨putD o.dst v s'.t, s'.h⟩ k) = some out → ∃ s', k s' = some out ∧ ∀ k' : SS → Option Ω', sop env' A o.op s1 (fun v _ s' => sreg env' A r ⟨putD o.dst v s'.t, s'.h⟩ k') = k' s' := by
      intro s1 h1
      obtain ⟨v, m, s2, h2, h3⟩ := sop_par (Ω' := Ω') he h1
      obtain ⟨s', h4, h5⟩ := sreg_par he h2
      exact ⟨s', h4, fun k' => by rw [h3]; exact h5 k'⟩
    simp only [sreg] at h ⊢
    split at h
    · exact run s h
    · split at h
      · rename_i d want _ _ b hb
        rcases br_some h with ⟨rfl, h⟩ | ⟨rfl, h⟩
        · cases want with
          | true =>
            obtain ⟨s', h1, h2⟩ := run _ h
            exact ⟨s', h1, fun k' => h2 k'⟩
          | false =>
            obtain ⟨s', h1, h2⟩ := sreg_par he h
            exact ⟨s', h1, fun k' => h2 k'⟩
        · cases want with
          | true =>
            obtain ⟨s', h1, h2⟩ := sreg_par he h
            exact ⟨s', h1, fun k' => h2 k'⟩
          | false =>
            obtain ⟨s', h1, h2⟩ := run _ h
            exact ⟨s', h1, fun k' => h2 k'⟩
      · obtain ⟨s', h1, h2⟩ := sreg_par he h
        exact ⟨s', h1, fun k' => h2 k'⟩
      · cases h

theorem dop_par (he : EnvPar env env') {o : CR} {i : Nat} {lg : Log} {req : Nat} {s : SS} {n : SV → Log → Nat → SS → Option Ω} (h : dop env A o i lg req s n = some out) :
    ∃ v lg' req' s', n v lg' req' s' = some out ∧ ∀ n' : SV → Log → Nat → SS → Option Ω', dop env' A o i lg req s n' = n' v lg' req' s' := by
  unfold dop at h ⊢
  split at h
  · obtain ⟨v, m, s', h1, h2⟩ := sop_par (Ω' := Ω') he h
    exact ⟨_, _, _, _, h1, fun n' => h2 _⟩
  · obtain ⟨e, h⟩ := cond_some h
    obtain ⟨v, m, s', h1, h2⟩ := sop_par (Ω' := Ω') he h
    exact ⟨_, _, _, _, h1, fun n' => by simp only [e, cond_true]; exact h2 _⟩
  · obtain ⟨v, m, s', h1, h2⟩ := sop_par (Ω' := Ω') he h
    cases e : compat o.anc 2 m lg with
    | true =>
      rw [e, cond_true] at h1
      exact ⟨_, _, _, _, h1, fun n' => by rw [h2]; simp only [e, cond_true]⟩
    | false =>
      rw [e, cond_false] at h1
      split at h1
      · rename_i hop
        obtain ⟨e1, h1⟩ := cond_some h1
        exact ⟨_, _, _, _, h1, fun n' => by rw [h2]; simp only [e, hop, e1, cond_true, cond_false]⟩
      · cases h1
  · split at h
    · split at h
      · split at h
        · rename_i hg
          obtain ⟨sp', g1, g2⟩ := he _ _ hg
          cases hpu : nmem _ A.pu with
          | true =>
            rw [hpu, cond_true] at h
            cases hmt : mentT (fun _ => true) (keepT (opsOf o.op) s.t) with
            | true => rw [hmt] at h; cases h
            | false =>
              rw [hmt, cond_false] at h
              obtain ⟨r, m, sc, h', h3, h4⟩ := g2 _ _ _ _ h
              split at h3
              · cases hv : ment (fun _ => true) r with
                | true => rw [hv] at h3; cases h3
                | false =>
                  rw [hv, cond_false] at h3
                  exact ⟨_, _, _, _, h3, fun n' => by simp only [g1, h4, hv, cond_true, cond_false]⟩
              · cases h3
          | false =>
          rw [hpu, cond_false] at h
          obtain ⟨r, m, sc, h', h3, h4⟩ := g2 _ _ _ _ h
          simp only [cond_false]
          split at h3
          · obtain ⟨e, h3⟩ := cond_some h3
            exact ⟨_, _, _, _, h3, fun n' => by simp only [g1, h4, e, cond_true]⟩
          · obtain ⟨e, h3⟩ := cond_some h3
            exact ⟨_, _, _, _, h3, fun n' => by simp only [g1, h4, e, cond_true]⟩
        · cases h
      · cases h
    · cases e : Nat.beq (o.anc + 1) (2 ^ i) with
      | true =>
        rw [e, cond_true] at h
        obtain ⟨v, m, s', h1, h2⟩ := sop_par (Ω' := Ω') he h
        exact ⟨_, _, _, _, h1, fun n' => by simp only [cond_true]; exact h2 _⟩
      | false =>
        rw [e, cond_false] at h
        obtain ⟨v, m, s', h1, h2⟩ := appE_par (Ω' := Ω') h
        obtain ⟨e1, h1⟩ := cond_some h1
        exact ⟨_, _, _, _, h1, fun n' => by simp only [cond_false]; rw [h2]; simp only [e1, cond_true]⟩
    · cases h

theorem sregD_par (he : EnvPar env env') : ∀ {cs : List CR} {i : Nat} {lg : Log} {req : Nat} {s : SS} {k : SS → Option Ω}, sregD env A cs i lg req s k = some out → ∃ s', k s' = some out ∧ ∀ k' : SS → Option Ω', sregD env' A cs i lg req s k' = k' s'
  | [], i, lg, req, s, k, h => by simp only [sregD] at h ⊢; exact ⟨s, h, fun _ => rfl⟩
  | o :: r, i, lg, req, s, k, h => by
    have run : ∀ (s1 : SS), dop env A o i lg req s1 (fun v lg req s' => sregD env A r (i + 1) lg req ⟨putD o.dst v s'.t, s'.h⟩ k) = some out → ∃ s', k s' = some out ∧ ∀ k' : SS → Option Ω', dop env' A o i lg req s1 (fun v lg req s' => sregD env' A r (i + 1) lg req ⟨putD o.dst v s'.t, s'.h⟩ k') = k' s' := by
      intro s1 h1
      obtain ⟨v, lg', req', s2, h2, h3⟩ := dop_par (Ω' := Ω') he h1
      obtain ⟨s', h4, h5⟩ := sregD_par he h2
      exact ⟨s', h4, fun k' => by rw [h3]; exact h5 k'⟩
    simp only [sregD] at h ⊢
    obtain ⟨e, h⟩ := cond_some h
    simp only [e, cond_true]
    split at h
    · exact run s h
    · split at h
      · rename_i d want _ _ b hb
        rcases br_some h with ⟨rfl, h⟩ | ⟨rfl, h⟩
        · cases want with
          | true =>
            obtain ⟨s', h1, h2⟩ := run _ h
            exact ⟨s', h1, fun k' => h2 k'⟩
          | false =>
            obtain ⟨s', h1, h2⟩ := sregD_par he h
            exact ⟨s', h1, fun k' => h2 k'⟩
        · cases want with
          | true =>
            obtain ⟨s', h1, h2⟩ := sregD_par he h
            exact ⟨s', h1, fun k' => h2 k'⟩
          | false =>
            obtain ⟨s', h1, h2⟩ := run _ h
            exact ⟨s', h1, fun k' => h2 k'⟩
      · obtain ⟨s', h1, h2⟩ := sregD_par he h
        exact ⟨s', h1, fun k' => h2 k'⟩
      · cases h

theorem iter_par {lv : List Nat} {n0 : Nat} {f : SS → (SE → SS → Option Ω) → Option Ω} {f' : SS → (SE → SS → Option Ω') → Option Ω'}
    (hf : ∀ s k, f s k = some out → ∃ e s', k e s' = some out ∧ ∀ k', f' s k' = k' e s') : ∀ (n : Nat) {s : SS} {k : SE → SS → Option Ω}, iter lv n0 f n s k = some out → ∃ e s', k e s' = some out ∧ ∀ k' : SE → SS → Option Ω', iter lv n0 f' n s k' = k' e s'
  | 0, s, k, h => by simp [iter] at h
  | n + 1, s, k, h => by
    simp only [iter] at h ⊢
    obtain ⟨e, s1, h1, h2⟩ := hf _ _ h
    cases e with
    | norm =>
      obtain ⟨e, s2, h3, h4⟩ := iter_par hf n h1
      exact ⟨e, s2, h3, fun k' => by rw [h2]; exact h4 k'⟩
    | exit i => exact ⟨_, _, h1, fun k' => by rw [h2]⟩
    | ret => exact ⟨_, _, h1, fun k' => by rw [h2]⟩

theorem sx_par (he : EnvPar env env') : ∀ (c : CC) {id : Nat} {s : SS} {k : SE → SS → Option Ω}, sx env A c id s k = some out → ∃ e s', k e s' = some out ∧ ∀ k' : SE → SS → Option Ω', sx env' A c id s k' = k' e s' := by
  intro c
  induction c with
  | skip => intro id s k h; simp only [sx] at h ⊢; exact ⟨_, _, h, fun _ => rfl⟩
  | reg draw ops =>
    intro id s k h
    simp only [sx] at h ⊢
    cases draw with
    | true =>
      simp only [cond_true] at h ⊢
      obtain ⟨s', h1, h2⟩ := sregD_par (Ω' := Ω') he h
      exact ⟨_, _, h1, fun k' => h2 _⟩
    | false =>
      simp only [cond_false] at h ⊢
      obtain ⟨s', h1, h2⟩ := sreg_par (Ω' := Ω') he h
      exact ⟨_, _, h1, fun k' => h2 _⟩
  | seq a b iha ihb =>
    intro id s k h
    simp only [sx] at h ⊢
    obtain ⟨e, s1, h1, h2⟩ := iha h
    cases e with
    | norm =>
      obtain ⟨e, s2, h3, h4⟩ := ihb h1
      exact ⟨e, s2, h3, fun k' => by rw [h2]; exact h4 k'⟩
    | exit i => exact ⟨_, _, h1, fun k' => by rw [h2]⟩
    | ret => exact ⟨_, _, h1, fun k' => by rw [h2]⟩
  | cond n a b iha ihb =>
    intro id s k h
    simp only [sx] at h ⊢
    split at h
    · rcases br_some h with ⟨rfl, h⟩ | ⟨rfl, h⟩
      · obtain ⟨e, s1, h1, h2⟩ := iha h
        exact ⟨e, s1, h1, fun k' => h2 k'⟩
      · obtain ⟨e, s1, h1, h2⟩ := ihb h
        exact ⟨e, s1, h1, fun k' => h2 k'⟩
    · cases h
  | block bid a iha =>
    intro id s k h
    simp only [sx] at h ⊢
    obtain ⟨e, s1, h1, h2⟩ := iha h
    cases e with
    | norm => exact ⟨_, _, h1, fun k' => by rw [h2]⟩
    | exit i =>
      dsimp only at h1
      cases hb : Nat.beq i bid with
      | true => rw [hb] at h1; exact ⟨_, _, h1, fun k' => by rw [h2]; simp only [hb, cond_true]⟩
      | false => rw [hb] at h1; exact ⟨_, _, h1, fun k' => by rw [h2]; simp only [hb, cond_false]⟩
    | ret => exact ⟨_, _, h1, fun k' => by rw [h2]⟩
  | loop a iha =>
    intro id s k h
    simp only [sx] at h ⊢
    exact iter_par (fun s k h => iha h) big h
  | exit i => intro id s k h; simp only [sx] at h ⊢; exact ⟨_, _, h, fun _ => rfl⟩
  | ret => intro id s k h; simp only [sx] at h ⊢; exact ⟨_, _, h, fun _ => rfl⟩
  | bad => intro id s k h; simp [sx] at h

theorem sxFn_par (he : EnvPar env env') {C : CF} {args : List SV} {h : SH} {k : SV → SH → Option Ω} (hr : sxFn env A C args h k = some out) : ∃ r h', k r h' = some out ∧ ∀ k' : SV → SH → Option Ω', sxFn env' A C args h k' = k' r h' := by
  simp only [sxFn] at hr ⊢
  obtain ⟨e0, hr⟩ := cond_some hr
  obtain ⟨e, s', h1, h2⟩ := sx_par (Ω' := Ω') he _ hr
  have fin : (match rets s' C.res with | some l => k (tup1 l) s'.h | none => none) = some out →
      ∃ r h', k r h' = some out ∧ ∀ k' : SV → SH → Option Ω', (match rets s' C.res with | some l => k' (tup1 l) s'.h | none => none) = k' r h' := by
    intro h
    split at h
    · exact ⟨_, _, h, fun _ => rfl⟩
    · cases h
  cases e with
  | exit i => cases h1
  | norm =>
    obtain ⟨r, h', h3, h4⟩ := fin h1
    exact ⟨r, h', h3, fun k' => by simp only [e0, cond_true]; rw [h2]; exact h4 k'⟩
  | ret =>
    obtain ⟨r, h', h3, h4⟩ := fin h1
    exact ⟨r, h', h3, fun k' => by simp only [e0, cond_true]; rw [h2]; exact h4 k'⟩
end
end Go.Sx
