/- Regions whose operations run in the text's order. -/
import Derived.Test.YtljmncdlehinnaaSxSop
import Derived.Tactics
set_option linter.unusedVariables false
set_option linter.unusedSimpArgs false
namespace Go.Sx

/-- No temporary stands twice. -/
def Uniq (t : List (Nat × SV)) : Prop := t.Pairwise fun a b => a.1 < b.1

theorem Uniq.sub {t t' : List (Nat × SV)} (h : Uniq t) (hs : t'.Sublist t) : Uniq t' := List.Pairwise.sublist hs h

theorem nlt {a b : Nat} (h : Nat.blt a b = true) : a < b := Nat.le_of_ble_eq_true h
theorem nge {a b : Nat} (h : Nat.blt a b = false) : b ≤ a := by
  rcases Nat.lt_or_ge a b with h' | h'
  · have : Nat.blt a b = true := Nat.ble_eq_true_of_le h'
    simp [this] at h
  · exact h'
theorem nbeq {a b : Nat} : Nat.beq a b = true ↔ a = b := ⟨Nat.eq_of_beq_eq_true, fun e => by subst e; exact Nat.beq_refl a⟩
theorem nbne {a b : Nat} : Nat.beq a b = false ↔ a ≠ b := by
  rw [← Bool.not_eq_true, nbeq]

theorem stt_uniq {d : Nat} {x : SV} : ∀ {t : List (Nat × SV)}, Uniq t → Uniq (stt t d x) ∧ ∀ p, p ∈ stt t d x → p = (d, x) ∨ (p.1 ≠ d ∧ p ∈ t)
  | [], _ => ⟨by simp [stt, Uniq], by simp [stt]⟩
  | (k, v) :: r, h => by
    have hr : Uniq r := (List.pairwise_cons.1 h).2
    have hk := (List.pairwise_cons.1 h).1
    simp only [stt]
    cases h1 : Nat.beq k d with
    | true =>
      have := nbeq.1 h1; subst this
      simp only [cond_true]
      refine ⟨List.pairwise_cons.2 ⟨hk, hr⟩, fun p hp => ?_⟩
      rcases List.mem_cons.1 hp with rfl | hp
      · exact .inl rfl
      · exact .inr ⟨by have := hk p hp; simp at this; omega, by simp [hp]⟩
    | false =>
      have hne := nbne.1 h1
      cases h2 : Nat.blt d k with
      | true =>
        have hlt := nlt h2
        simp only [cond_true, cond_false]
        refine ⟨List.pairwise_cons.2 ⟨fun p hp => ?_, h⟩, fun p hp => ?_⟩
        · rcases List.mem_cons.1 hp with rfl | hp
          · exact hlt
          · have := hk p hp; simp at this ⊢; omega
        · rcases List.mem_cons.1 hp with rfl | hp
          · exact .inl rfl
          · refine .inr ⟨?_, hp⟩
            rcases List.mem_cons.1 hp with rfl | hp
            · exact hne
            · have := hk p hp; simp at this; omega
      | false =>
        have hge := nge h2
        obtain ⟨i1, i2⟩ := stt_uniq (d := d) (x := x) hr
        simp only [cond_false]
        refine ⟨List.pairwise_cons.2 ⟨fun p hp => ?_, i1⟩, fun p hp => ?_⟩
        · rcases i2 p hp with rfl | ⟨_, hp⟩
          · simp; omega
          · exact hk p hp
        · rcases List.mem_cons.1 hp with rfl | hp
          · exact .inr ⟨hne, by simp⟩
          · rcases i2 p hp with rfl | ⟨h3, hp⟩
            · exact .inl rfl
            · exact .inr ⟨h3, by simp [hp]⟩

theorem dropT_uniq {d : Nat} : ∀ {t : List (Nat × SV)}, Uniq t → Uniq (dropT t d) ∧ ∀ p, p ∈ dropT t d → p.1 ≠ d ∧ p ∈ t
  | [], _ => ⟨by simp [dropT, Uniq], by simp [dropT]⟩
  | (k, v) :: r, h => by
    have hr : Uniq r := (List.pairwise_cons.1 h).2
    have hk := (List.pairwise_cons.1 h).1
    simp only [dropT]
    cases h1 : Nat.beq k d with
    | true =>
      have := nbeq.1 h1; subst this
      simp only [cond_true]
      exact ⟨hr, fun p hp => ⟨by have := hk p hp; simp at this; omega, by simp [hp]⟩⟩
    | false =>
      have hne := nbne.1 h1
      obtain ⟨i1, i2⟩ := dropT_uniq (d := d) hr
      simp only [cond_false]
      refine ⟨List.pairwise_cons.2 ⟨fun p hp => hk p (i2 p hp).2, i1⟩, fun p hp => ?_⟩
      rcases List.mem_cons.1 hp with rfl | hp
      · exact ⟨hne, by simp⟩
      · exact ⟨(i2 p hp).1, by simp [(i2 p hp).2]⟩

theorem putD_uniq {d : Option Nat} {x : SV} {t : List (Nat × SV)} (h : Uniq t) : Uniq (putD d x t) ∧ ∀ p, p ∈ putD d x t → (∃ d', d = some d' ∧ p = (d', x)) ∨ (d ≠ some p.1 ∧ p ∈ t) := by
  unfold putD
  split
  · exact ⟨h, fun p hp => .inr ⟨by simp, hp⟩⟩
  · rename_i d'
    split
    · exact ⟨(dropT_uniq h).1, fun p hp => .inr ⟨by simpa [eq_comm] using ((dropT_uniq h).2 p hp).1, ((dropT_uniq h).2 p hp).2⟩⟩
    · refine ⟨(stt_uniq h).1, fun p hp => ?_⟩
      rcases (stt_uniq h).2 p hp with rfl | ⟨h1, h2⟩
      · exact .inl ⟨_, rfl, rfl⟩
      · exact .inr ⟨by simpa [eq_comm] using h1, h2⟩

theorem put_size (a : Act) (d : Option Nat) (v : Value) : (a.put d v).tmps.size = a.tmps.size := by
  cases d <;> simp [Act.put]
theorem put_defers (a : Act) (d : Option Nat) (v : Value) : (a.put d v).defers = a.defers := by
  cases d <;> simp [Act.put]

theorem put_get_ne {a : Act} {d : Option Nat} {v : Value} {i : Nat} (h : d ≠ some i) : (a.put d v).tmps.getD i undef = a.tmps.getD i undef := by
  cases d with
  | none => rfl
  | some d =>
    have : d ≠ i := fun e => h (by rw [e])
    simp [Act.put, Array.getD_eq_getD_getElem?, Array.getElem?_setIfInBounds_ne this]
theorem put_get_eq {a : Act} {d : Nat} {v : Value} (h : d < a.tmps.size) : (a.put (some d) v).tmps.getD d undef = v := by
  simp [Act.put, Array.getD_eq_getD_getElem?, h]

theorem TRep.put {cx : Cx} {w : World} {t : List (Nat × SV)} {a : Act} (hu : Uniq t) (h : TRep cx w t a.tmps) {d : Option Nat} (hd : ∀ d', d = some d' → d' < a.tmps.size) {v : SV} {v' : Value} (hv : SRep cx w v v') :
    TRep cx w (putD d v t) (a.put d v').tmps := by
  intro i x hx
  rw [put_size]
  rcases (putD_uniq hu).2 _ hx with ⟨d', rfl, e⟩ | ⟨h1, h2⟩
  · simp only [Prod.mk.injEq] at e
    obtain ⟨rfl, rfl⟩ := e
    exact ⟨hd _ rfl, by rw [put_get_eq (hd _ rfl)]; exact hv⟩
  · exact ⟨(h i x h2).1, by rw [put_get_ne h1]; exact (h i x h2).2⟩

theorem lk_mem {n : Nat} : ∀ {t : List (Nat × SV)}, lk t n ≠ .top → (n, lk t n) ∈ t
  | [], h => absurd rfl h
  | (k, v) :: r, h => by
    simp only [lk] at h ⊢
    cases h1 : Nat.beq k n with
    | true => have := nbeq.1 h1; subst this; simp
    | false => rw [h1] at h; simp only [cond_false] at h ⊢; exact List.mem_cons_of_mem _ (lk_mem h)

theorem TRep.stt {cx : Cx} {w : World} {t : List (Nat × SV)} {tm : Array Value} (hu : Uniq t) (h : TRep cx w t tm) {d : Nat} {v : SV} (hd : d < tm.size) (hv : SRep cx w v (tm.getD d undef)) : TRep cx w (stt t d v) tm := by
  intro i x hx
  rcases (stt_uniq hu).2 _ hx with e | ⟨_, h2⟩
  · simp only [Prod.mk.injEq] at e
    obtain ⟨rfl, rfl⟩ := e
    exact ⟨hd, hv⟩
  · exact h i x h2

theorem SRep.anyTop (cx : Cx) (w : World) (u : Value) : SRep cx w .top u := by unfold SRep; trivial

/-- What is carried along in a function's frame. -/
structure Frm (a a' : Act) : Prop where
  size : a'.tmps.size = a.tmps.size
  defers : a'.defers = a.defers

theorem Frm.refl (a : Act) : Frm a a := ⟨rfl, rfl⟩
theorem Frm.trans {a b c : Act} (h : Frm a b) (h' : Frm b c) : Frm a c := ⟨h'.size.trans h.size, h'.defers.trans h.defers⟩
theorem Frm.put (a : Act) (d : Option Nat) (v : Value) : Frm a (a.put d v) := ⟨put_size a d v, put_defers a d v⟩

theorem yielded_of {all : List Oper} {ops : Array Oper} (hops : ops.toList = all) {j d : Nat} (hd : (all[j]?).bind (·.dst) = some d) {cx : Cx} {w : World} {t : List (Nat × SV)} {a : Act} {b : Bool} (ht : TRep cx w t a.tmps) (hl : lk t d = .d (.v (.bool b))) :
    d < a.tmps.size ∧ a.tmps.getD d undef = .bool b ∧ yielded ops a.tmps j = some b := by
  have hm := lk_mem (n := d) (t := t) (by rw [hl]; simp)
  obtain ⟨h1, h2⟩ := ht _ _ hm
  rw [hl] at h2
  have h3 := bool_of h2
  refine ⟨h1, h3, ?_⟩
  unfold yielded
  have : ops[j]? = all[j]? := by rw [← hops]; simp
  rw [this, hd]
  simp only [Option.bind_some]
  rw [Array.getElem?_eq_getElem h1]
  rw [Array.getD_eq_getD_getElem?, Array.getElem?_eq_getElem h1] at h3
  simp only [Option.getD_some] at h3
  rw [h3]

theorem yielded_tup {all : List Oper} {ops : Array Oper} (hops : ops.toList = all) {j d : Nat} (hd : (all[j]?).bind (·.dst) = some d) {cx : Cx} {w : World} {t : List (Nat × SV)} {a : Act} (ht : TRep cx w t a.tmps) (hl : lk t d = .tup []) :
    yielded ops a.tmps j = none := by
  have hm := lk_mem (n := d) (t := t) (by rw [hl]; simp)
  obtain ⟨h1, h2⟩ := ht _ _ hm
  rw [hl] at h2
  simp only [SRep] at h2
  obtain ⟨c', h3, _⟩ := h2
  unfold yielded
  have : ops[j]? = all[j]? := by rw [← hops]; simp
  rw [this, hd]
  simp only [Option.bind_some]
  rw [Array.getElem?_eq_getElem h1]
  rw [Array.getD_eq_getD_getElem?, Array.getElem?_eq_getElem h1] at h3
  simp only [Option.getD_some] at h3
  rw [h3]

theorem srep_undef (cx : Cx) (w : World) : SRep cx w (.tup []) undef := by
  simp only [SRep]
  exact ⟨[], rfl, by simp only [SRepL]⟩

section
variable {P : Program} {A : Ann} {Ω : Type} {env : Env Ω} {out : Ω}

theorem sreg_sound (he : EnvOK P env) {nt : Nat} {all : List Oper} {ops : Array Oper} (hops : ops.toList = all) {k : SS → Option Ω} {Q : Exit → Act → World → Prop} :
    ∀ (l : List Oper) (acc : List Nat) (cs : List CR) (s : SS), coR P nt false all l acc = some cs → sreg env A cs s k = some out →
    ∀ (cx : Cx) (w : World) (a : Act), a.tmps.size = nt → Uniq s.t → Gam cx s.h w → TRep cx w s.t a.tmps →
    (∀ cx' w' a' s', k s' = some out → Frm a a' → Uniq s'.t → Grow A.p cx w cx' w' → Gam cx' s'.h w' → TRep cx' w' s'.t a'.tmps → Q .normal a' w') → wpList P ops Q l a w
  | [], acc, cs, s, hc, h, cx, w, a, hsz, hu, hg, ht, hk => by
    simp only [coR, Option.some.injEq] at hc; subst hc
    simp only [sreg] at h
    exact hk cx w a s h (Frm.refl a) hu (Grow.refl _ _ _) hg ht
  | o :: r, acc, cs, s, hc, h, cx, w, a, hsz, hu, hg, ht, hk => by
    simp only [coR] at hc
    obtain ⟨hchk, hc⟩ := cond_some hc
    simp only [Bool.and_eq_true] at hchk
    have hdst : ∀ d, o.dst = some d → d < a.tmps.size := fun d hd => by
      have := hchk.1
      rw [hd] at this
      rw [hsz]; exact nlt this
    split at hc
    · rename_i c l hco hr
      have run : ∀ (s1 : SS), Uniq s1.t → Gam cx s1.h w → TRep cx w s1.t a.tmps → sop env A c s1 (fun v _ s' => sreg env A l ⟨putD o.dst v s'.t, s'.h⟩ k) = some out → o.wp P a w (wpList P ops Q r) Q := by
        intro s1 hu1 hg1 ht1 h1
        have hp : Plain P A o s1 (fun v _ s' => sreg env A l ⟨putD o.dst v s'.t, s'.h⟩ k) out := by
          rcases sop_sound he hco h1 with ⟨_, h⟩ | ⟨_, h⟩ | ⟨_, h⟩
          · exact h.plain
          · exact h.plain
          · exact h
        obtain ⟨v, m, s', h2, hsub, hop⟩ := hp
        refine hop cx w a hg1 ht1 _ _ fun cx' w' v' gr hv ht' hg' => ?_
        have hu' : Uniq s'.t := hu1.sub hsub
        refine sreg_sound he hops r _ l _ hr h2 cx' w' _ ((put_size a o.dst v').trans hsz) (putD_uniq (d := o.dst) (x := v) hu').1 hg' (TRep.put hu' ht' hdst hv) fun cx2 w2 a2 s2 e1 e2 e3 e4 e5 e6 => ?_
        exact hk cx2 w2 a2 s2 e1 ((Frm.put a o.dst v').trans e2) e3 (gr.trans e4) e5 e6
      have skip : ∀ (s1 : SS), Uniq s1.t → Gam cx s1.h w → TRep cx w s1.t a.tmps → sreg env A l ⟨putD o.dst (.tup []) s1.t, s1.h⟩ k = some out → wpList P ops Q r (a.put o.dst undef) w := by
        intro s1 hu1 hg1 ht1 h1
        refine sreg_sound he hops r _ l _ hr h1 cx w _ ((put_size a o.dst undef).trans hsz) (putD_uniq (d := o.dst) (x := .tup []) hu1).1 hg1 (TRep.put hu1 ht1 hdst (srep_undef _ _)) fun cx2 w2 a2 s2 e1 e2 e3 e4 e5 e6 => ?_
        exact hk cx2 w2 a2 s2 e1 ((Frm.put a o.dst undef).trans e2) e3 e4 e5 e6
      unfold wpList
      split at hc
      · rename_i hgd
        simp only [Option.some.injEq] at hc; subst hc
        simp only [sreg] at h
        rw [if_pos (by simp [Region.wanted, hgd])]
        exact .inl (run s hu hg ht h)
      · rename_i j want hgd
        split at hc
        · rename_i d hd
          simp only [Option.some.injEq] at hc; subst hc
          simp only [sreg] at h
          split at h
          · rename_i b hb
            obtain ⟨y1, y2, y3⟩ := yielded_of hops hd ht hb
            have hw : Region.wanted o (yielded ops a.tmps) = (b == want) := by
              simp only [Region.wanted, hgd, y3]
              cases b <;> cases want <;> rfl
            rw [hw]
            rcases br_some h with ⟨rfl, h⟩ | ⟨rfl, h⟩
            · have hs1 := stt_uniq (d := d) (x := .d (.v (.bool true))) hu
              have ht1 := TRep.stt hu ht y1 (v := .d (.v (.bool true))) (by rw [y2]; exact SRep.bool)
              cases want with
              | true => exact .inl (run ⟨_, s.h⟩ hs1.1 hg ht1 h)
              | false => exact skip ⟨_, s.h⟩ hs1.1 hg ht1 h
            · have hs1 := stt_uniq (d := d) (x := .d (.v (.bool false))) hu
              have ht1 := TRep.stt hu ht y1 (v := .d (.v (.bool false))) (by rw [y2]; exact SRep.bool)
              cases want with
              | true => exact skip ⟨_, s.h⟩ hs1.1 hg ht1 h
              | false => exact .inl (run ⟨_, s.h⟩ hs1.1 hg ht1 h)
          · rename_i hb
            rw [if_neg (by
              have hn := yielded_tup hops hd ht hb
              simp [Region.wanted, hgd, hn])]
            exact skip s hu hg ht h
          · simp at h
        · simp at hc
    · simp at hc
end
end Go.Sx
