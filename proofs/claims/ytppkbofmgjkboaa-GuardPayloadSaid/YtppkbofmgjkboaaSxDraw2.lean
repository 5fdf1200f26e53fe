/- Regions whose operations run in the text's order. -/
import Derived.Test.YtppkbofmgjkboaaSxSop
import Derived.Tactics
import Derived.Orders
set_option linter.all false
set_option linter.unusedVariables false
set_option linter.unusedSimpArgs false
set_option linter.unnecessarySimpa false
namespace Go.Sx

/-- No temporary stands twice. -/
def Uniq (t : List (Nat × SV)) : Prop := t.Pairwise fun a b => a.1 < b.1

theorem Uniq.sub {t t' : List (Nat × SV)} (h : Uniq t) (hs : t'.Sublist t) : Uniq t' := List.Pairwise.sublist hs h

theorem nlt {a b : Nat} (h : Nat.blt a b = true) : a < b := Nat.le_of_ble_eq_true h
theorem nge {a b : Nat} (h : Nat.blt a b = false) : b ≤ a := by
  rcases Nat.lt_or_ge a b with h' | h'
  · have : Nat.blt a b = true := Nat.ble_eq_true_of_le h'
    simp [this] at h
  · exact h'
theorem nbeq {a b : Nat} : Nat.beq a b = true ↔ a = b := ⟨Nat.eq_of_beq_eq_true, fun e => by subst e; exact Nat.beq_refl a⟩
theorem nbne {a b : Nat} : Nat.beq a b = false ↔ a ≠ b := by
  rw [← Bool.not_eq_true, nbeq]

theorem stt_uniq {d : Nat} {x : SV} : ∀ {t : List (Nat × SV)}, Uniq t → Uniq (stt t d x) ∧ ∀ p, p ∈ stt t d x → p = (d, x) ∨ (p.1 ≠ d ∧ p ∈ t)
  | [], _ => ⟨by simp [stt, Uniq], by simp [stt]⟩
  | (k, v) :: r, h => by
    have hr : Uniq r := (List.pairwise_cons.1 h).2
    have hk := (List.pairwise_cons.1 h).1
    simp only [stt]
    cases h1 : Nat.beq k d with
    | true =>
      have := nbeq.1 h1; subst this
      simp only [cond_true]
      refine ⟨List.pairwise_cons.2 ⟨hk, hr⟩, fun p hp => ?_⟩
      rcases List.mem_cons.1 hp with rfl | hp
      · exact .inl rfl
      · exact .inr ⟨by have := hk p hp; simp at this; omega, by simp [hp]⟩
    | false =>
      have hne := nbne.1 h1
      cases h2 : Nat.blt d k with
      | true =>
        have hlt := nlt h2
        simp only [cond_true, cond_false]
        refine ⟨List.pairwise_cons.2 ⟨fun p hp => ?_, h⟩, fun p hp => ?_⟩
        · rcases List.mem_cons.1 hp with rfl | hp
          · exact hlt
          · have := hk p hp; simp at this ⊢; omega
        · rcases List.mem_cons.1 hp with rfl | hp
          · exact .inl rfl
          · refine .inr ⟨?_, hp⟩
            rcases List.mem_cons.1 hp with rfl | hp
            · exact hne
            · have := hk p hp; simp at this; omega
      | false =>
        have hge := nge h2
        obtain ⟨i1, i2⟩ := stt_uniq (d := d) (x := x) hr
        simp only [cond_false]
        refine ⟨List.pairwise_cons.2 ⟨fun p hp => ?_, i1⟩, fun p hp => ?_⟩
        · rcases i2 p hp with rfl | ⟨_, hp⟩
          · simp; omega
          · exact hk p hp
        · rcases List.mem_cons.1 hp with rfl | hp
          · exact .inr ⟨hne, by simp⟩
          · rcases i2 p hp with rfl | ⟨h3, hp⟩
            · exact .inl rfl
            · exact .inr ⟨h3, by simp [hp]⟩

theorem dropT_uniq {d : Nat} : ∀ {t : List (Nat × SV)}, Uniq t → Uniq (dropT t d) ∧ ∀ p, p ∈ dropT t d → p.1 ≠ d ∧ p ∈ t
  | [], _ => ⟨by simp [dropT, Uniq], by simp [dropT]⟩
  | (k, v) :: r, h => by
    have hr : Uniq r := (List.pairwise_cons.1 h).2
    have hk := (List.pairwise_cons.1 h).1
    simp only [dropT]
    cases h1 : Nat.beq k d with
    | true =>
      have := nbeq.1 h1; subst this
      simp only [cond_true]
      exact ⟨hr, fun p hp => ⟨by have := hk p hp; simp at this; omega, by simp [hp]⟩⟩
    | false =>
      have hne := nbne.1 h1
      obtain ⟨i1, i2⟩ := dropT_uniq (d := d) hr
      simp only [cond_false]
      refine ⟨List.pairwise_cons.2 ⟨fun p hp => hk p (i2 p hp).2, i1⟩, fun p hp => ?_⟩
      rcases List.mem_cons.1 hp with rfl | hp
      · exact ⟨hne, by simp⟩
      · exact ⟨(i2 p hp).1, by simp [(i2 p hp).2]⟩

theorem putD_uniq {d : Option Nat} {x : SV} {t : List (Nat × SV)} (h : Uniq t) : Uniq (putD d x t) ∧ ∀ p, p ∈ putD d x t → (∃ d', d = some d' ∧ p = (d', x)) ∨ (d ≠ some p.1 ∧ p ∈ t) := by
  unfold putD
  split
  · exact ⟨h, fun p hp => .inr ⟨by simp, hp⟩⟩
  · rename_i d'
    split
    · exact ⟨(dropT_uniq h).1, fun p hp => .inr ⟨by simpa [eq_comm] using ((dropT_uniq h).2 p hp).1, ((dropT_uniq h).2 p hp).2⟩⟩
    · refine ⟨(stt_uniq h).1, fun p hp => ?_⟩
      rcases (stt_uniq h).2 p hp with rfl | ⟨h1, h2⟩
      · exact .inl ⟨_, rfl, rfl⟩
      · exact .inr ⟨by simpa [eq_comm] using h1, h2⟩

theorem put_size (a : Act) (d : Option Nat) (v : Value) : (a.put d v).tmps.size = a.tmps.size := by
  cases d <;> simp [Act.put]
theorem put_defers (a : Act) (d : Option Nat) (v : Value) : (a.put d v).defers = a.defers := by
  cases d <;> simp [Act.put]

theorem put_get_ne {a : Act} {d : Option Nat} {v : Value} {i : Nat} (h : d ≠ some i) : (a.put d v).tmps.getD i undef = a.tmps.getD i undef := by
  cases d with
  | none => rfl
  | some d =>
    have : d ≠ i := fun e => h (by rw [e])
    simp [Act.put, Array.getD_eq_getD_getElem?, Array.getElem?_setIfInBounds_ne this]
theorem put_get_eq {a : Act} {d : Nat} {v : Value} (h : d < a.tmps.size) : (a.put (some d) v).tmps.getD d undef = v := by
  simp [Act.put, Array.getD_eq_getD_getElem?, h]

theorem TRep.put {cx : Cx} {w : World} {t : List (Nat × SV)} {a : Act} (hu : Uniq t) (h : TRep cx w t a.tmps) {d : Option Nat} (hd : ∀ d', d = some d' → d' < a.tmps.size) {v : SV} {v' : Value} (hv : SRep cx w v v') :
    TRep cx w (putD d v t) (a.put d v').tmps := by
  intro i x hx
  rw [put_size]
  rcases (putD_uniq hu).2 _ hx with ⟨d', rfl, e⟩ | ⟨h1, h2⟩
  · simp only [Prod.mk.injEq] at e
    obtain ⟨rfl, rfl⟩ := e
    exact ⟨hd _ rfl, by rw [put_get_eq (hd _ rfl)]; exact hv⟩
  · exact ⟨(h i x h2).1, by rw [put_get_ne h1]; exact (h i x h2).2⟩

theorem lk_mem {n : Nat} : ∀ {t : List (Nat × SV)}, lk t n ≠ .top → (n, lk t n) ∈ t
  | [], h => absurd rfl h
  | (k, v) :: r, h => by
    simp only [lk] at h ⊢
    cases h1 : Nat.beq k n with
    | true => have := nbeq.1 h1; subst this; simp
    | false => rw [h1] at h; simp only [cond_false] at h ⊢; exact List.mem_cons_of_mem _ (lk_mem h)

theorem TRep.stt {cx : Cx} {w : World} {t : List (Nat × SV)} {tm : Array Value} (hu : Uniq t) (h : TRep cx w t tm) {d : Nat} {v : SV} (hd : d < tm.size) (hv : SRep cx w v (tm.getD d undef)) : TRep cx w (stt t d v) tm := by
  intro i x hx
  rcases (stt_uniq hu).2 _ hx with e | ⟨_, h2⟩
  · simp only [Prod.mk.injEq] at e
    obtain ⟨rfl, rfl⟩ := e
    exact ⟨hd, hv⟩
  · exact h i x h2

theorem SRep.anyTop (cx : Cx) (w : World) (u : Value) : SRep cx w .top u := by unfold SRep; trivial

/-- What is carried along in a function's frame. -/
structure Frm (a a' : Act) : Prop where
  size : a'.tmps.size = a.tmps.size
  defers : a'.defers = a.defers

theorem Frm.refl (a : Act) : Frm a a := ⟨rfl, rfl⟩
theorem Frm.trans {a b c : Act} (h : Frm a b) (h' : Frm b c) : Frm a c := ⟨h'.size.trans h.size, h'.defers.trans h.defers⟩
theorem Frm.put (a : Act) (d : Option Nat) (v : Value) : Frm a (a.put d v) := ⟨put_size a d v, put_defers a d v⟩

theorem yielded_of {all : List Oper} {ops : Array Oper} (hops : ops.toList = all) {j d : Nat} (hd : (all[j]?).bind (·.dst) = some d) {cx : Cx} {w : World} {t : List (Nat × SV)} {a : Act} {b : Bool} (ht : TRep cx w t a.tmps) (hl : lk t d = .d (.v (.bool b))) :
    d < a.tmps.size ∧ a.tmps.getD d undef = .bool b ∧ yielded ops a.tmps j = some b := by
  have hm := lk_mem (n := d) (t := t) (by rw [hl]; simp)
  obtain ⟨h1, h2⟩ := ht _ _ hm
  rw [hl] at h2
  have h3 := bool_of h2
  refine ⟨h1, h3, ?_⟩
  unfold yielded
  have : ops[j]? = all[j]? := by rw [← hops]; simp
  rw [this, hd]
  simp only [Option.bind_some]
  rw [Array.getElem?_eq_getElem h1]
  rw [Array.getD_eq_getD_getElem?, Array.getElem?_eq_getElem h1] at h3
  simp only [Option.getD_some] at h3
  rw [h3]

theorem yielded_tup {all : List Oper} {ops : Array Oper} (hops : ops.toList = all) {j d : Nat} (hd : (all[j]?).bind (·.dst) = some d) {cx : Cx} {w : World} {t : List (Nat × SV)} {a : Act} (ht : TRep cx w t a.tmps) (hl : lk t d = .tup []) :
    yielded ops a.tmps j = none := by
  have hm := lk_mem (n := d) (t := t) (by rw [hl]; simp)
  obtain ⟨h1, h2⟩ := ht _ _ hm
  rw [hl] at h2
  simp only [SRep] at h2
  obtain ⟨c', h3, _⟩ := h2
  unfold yielded
  have : ops[j]? = all[j]? := by rw [← hops]; simp
  rw [this, hd]
  simp only [Option.bind_some]
  rw [Array.getElem?_eq_getElem h1]
  rw [Array.getD_eq_getD_getElem?, Array.getElem?_eq_getElem h1] at h3
  simp only [Option.getD_some] at h3
  rw [h3]

theorem srep_undef (cx : Cx) (w : World) : SRep cx w (.tup []) undef := by
  simp only [SRep]
  exact ⟨[], rfl, by simp only [SRepL]⟩

section
variable {P : Program} {A : Ann} {Ω : Type} {env : Env Ω} {out : Ω}

theorem sreg_sound (he : EnvOK P env) {nt : Nat} {all : List Oper} {ops : Array Oper} (hops : ops.toList = all) {k : SS → Option Ω} {Q : Exit → Act → World → Prop} :
    ∀ (l : List Oper) (acc : List Nat) (cs : List CR) (s : SS), coR P nt false all l acc = some cs → sreg env A cs s k = some out →
    ∀ (cx : Cx) (w : World) (a : Act), a.tmps.size = nt → Uniq s.t → Gam cx s.h w → TRep cx w s.t a.tmps →
    (∀ cx' w' a' s', k s' = some out → Frm a a' → Uniq s'.t → Grow A.p cx w cx' w' → Gam cx' s'.h w' → TRep cx' w' s'.t a'.tmps → Q .normal a' w') → wpList P ops Q l a w
  | [], acc, cs, s, hc, h, cx, w, a, hsz, hu, hg, ht, hk => by
    simp only [coR, Option.some.injEq] at hc; subst hc
    simp only [sreg] at h
    exact hk cx w a s h (Frm.refl a) hu (Grow.refl _ _ _) hg ht
  | o :: r, acc, cs, s, hc, h, cx, w, a, hsz, hu, hg, ht, hk => by
    simp only [coR] at hc
    obtain ⟨hchk, hc⟩ := cond_some hc
    simp only [Bool.and_eq_true] at hchk
    have hdst : ∀ d, o.dst = some d → d < a.tmps.size := fun d hd => by
      have := hchk.1
      rw [hd] at this
      rw [hsz]; exact nlt this
    split at hc
    · rename_i c l hco hr
      have run : ∀ (s1 : SS), Uniq s1.t → Gam cx s1.h w → TRep cx w s1.t a.tmps → sop env A c s1 (fun v _ s' => sreg env A l ⟨putD o.dst v s'.t, s'.h⟩ k) = some out → o.wp P a w (wpList P ops Q r) Q := by
        intro s1 hu1 hg1 ht1 h1
        have hp : Plain P A o s1 (fun v _ s' => sreg env A l ⟨putD o.dst v s'.t, s'.h⟩ k) out := by
          rcases sop_sound he hco h1 with ⟨_, h⟩ | ⟨_, h⟩ | ⟨_, h⟩
          · exact h.plain
          · exact h.plain
          · exact h
        obtain ⟨v, m, s', h2, hsub, hop⟩ := hp
        refine hop cx w a hg1 ht1 _ _ fun cx' w' v' gr hv ht' hg' => ?_
        have hu' : Uniq s'.t := hu1.sub hsub
        refine sreg_sound he hops r _ l _ hr h2 cx' w' _ ((put_size a o.dst v').trans hsz) (putD_uniq (d := o.dst) (x := v) hu').1 hg' (TRep.put hu' ht' hdst hv) fun cx2 w2 a2 s2 e1 e2 e3 e4 e5 e6 => ?_
        exact hk cx2 w2 a2 s2 e1 ((Frm.put a o.dst v').trans e2) e3 (gr.trans e4) e5 e6
      have skip : ∀ (s1 : SS), Uniq s1.t → Gam cx s1.h w → TRep cx w s1.t a.tmps → sreg env A l ⟨putD o.dst (.tup []) s1.t, s1.h⟩ k = some out → wpList P ops Q r (a.put o.dst undef) w := by
        intro s1 hu1 hg1 ht1 h1
        refine sreg_sound he hops r _ l _ hr h1 cx w _ ((put_size a o.dst undef).trans hsz) (putD_uniq (d := o.dst) (x := .tup []) hu1).1 hg1 (TRep.put hu1 ht1 hdst (srep_undef _ _)) fun cx2 w2 a2 s2 e1 e2 e3 e4 e5 e6 => ?_
        exact hk cx2 w2 a2 s2 e1 ((Frm.put a o.dst undef).trans e2) e3 e4 e5 e6
      unfold wpList
      split at hc
      · rename_i hgd
        simp only [Option.some.injEq] at hc; subst hc
        simp only [sreg] at h
        rw [if_pos (by simp [Region.wanted, hgd])]
        exact .inl (run s hu hg ht h)
      · rename_i j want hgd
        split at hc
        · rename_i d hd
          simp only [Option.some.injEq] at hc; subst hc
          simp only [sreg] at h
          split at h
          · rename_i b hb
            obtain ⟨y1, y2, y3⟩ := yielded_of hops hd ht hb
            have hw : Region.wanted o (yielded ops a.tmps) = (b == want) := by
              simp only [Region.wanted, hgd, y3]
              cases b <;> cases want <;> rfl
            rw [hw]
            rcases br_some h with ⟨rfl, h⟩ | ⟨rfl, h⟩
            · have hs1 := stt_uniq (d := d) (x := .d (.v (.bool true))) hu
              have ht1 := TRep.stt hu ht y1 (v := .d (.v (.bool true))) (by rw [y2]; exact SRep.bool)
              cases want with
              | true => exact .inl (run ⟨_, s.h⟩ hs1.1 hg ht1 h)
              | false => exact skip ⟨_, s.h⟩ hs1.1 hg ht1 h
            · have hs1 := stt_uniq (d := d) (x := .d (.v (.bool false))) hu
              have ht1 := TRep.stt hu ht y1 (v := .d (.v (.bool false))) (by rw [y2]; exact SRep.bool)
              cases want with
              | true => exact skip ⟨_, s.h⟩ hs1.1 hg ht1 h
              | false => exact .inl (run ⟨_, s.h⟩ hs1.1 hg ht1 h)
          · rename_i hb
            rw [if_neg (by
              have hn := yielded_tup hops hd ht hb
              simp [Region.wanted, hgd, hn])]
            exact skip s hu hg ht h
          · simp at h
        · simp at hc
    · simp at hc
end
end Go.Sx

/- Two contexts side by side: a callee that reaches nothing of its caller's, and what it leaves. -/
namespace Go.Sx

/-- Only new blocks came. -/
theorem Gam.later {cx : Cx} {h : SH} {w w' : World} (g : Gam cx h w) (hs : ∀ b, b < w.heap.size → w'.heap[b]? = w.heap[b]?) (hz : w.heap.size ≤ w'.heap.size) (hio : Io w w') : Gam cx h w' ∧ Grow0 cx w cx w' := by
  have gr : Grow0 cx w cx w' := ⟨fun _ h => h, fun b hb => hs b (g.fzlt b hb), hz, fun _ h _ => ⟨h, rfl, rfl, rfl, rfl, rfl⟩, rfl, hio⟩
  refine ⟨⟨g.n, fun m => ?_, fun m hm => Nat.lt_of_lt_of_le (g.lt m hm) hz, g.own, g.inj, fun b hb => Nat.lt_of_lt_of_le (g.fzlt b hb) hz, g.dj⟩, gr⟩
  rcases Nat.lt_or_ge m h.length with hm | hm
  · exact ORep.keep (h := h) gr (g.n ▸ hm) _ rfl (fun hv => hs _ (g.lt m hv)) (g.obj m)
  · rw [hget_ge hm]; trivial

 mutual
def shft (n : Nat) : SV → SV
  | .ptr l o => .ptr (n + l) o
  | .pe l i o => .pe (n + l) i o
  | .own l => .own (n + l)
  | .cs l o sz m c => .cs (n + l) o sz m c
  | .mp l => .mp (n + l)
  | .fn g a b => .fn g (shftL n a) (shftL n b)
  | .agg c => .agg (shftL n c)
  | .tup c => .tup (shftL n c)
  | .md ks c => .md ks (shftL n c)
  | .rc c o => .rc (shftL n c) o
  | .d x => .d x
  | .rp sz f o => .rp sz f o
  | .top => .top
def shftL (n : Nat) : List SV → List SV
  | [] => []
  | x :: r => shft n x :: shftL n r
end

def shftE (n : Nat) : List (Value × SV) → List (Value × SV)
  | [] => []
  | (q, x) :: r => (q, shft n x) :: shftE n r

def shftO (n : Nat) : SO → SO
  | .cells t c => .cells t (shftL n c)
  | .maps es => .maps (shftE n es)
  | o => o

def shftH (n : Nat) : SH → SH
  | [] => []
  | o :: r => shftO n o :: shftH n r

/-! ### two contexts side by side -/
def cxJ (cx cxs : Cx) : Cx where
  n := cx.n + cxs.n
  th := fun l => if l < cx.n then cx.th l else cxs.th (l - cx.n)
  ln := fun l => if l < cx.n then cx.ln l else cxs.ln (l - cx.n)
  cp := fun l => if l < cx.n then cx.cp l else cxs.cp (l - cx.n)
  nl := fun l => if l < cx.n then cx.nl l else cxs.nl (l - cx.n)
  rs := fun l => if l < cx.n then cx.rs l else cxs.rs (l - cx.n)
  fz := fun b => cx.fz b ∨ cxs.fz b
  fr := cx.fr

section
variable {cx cxs : Cx} {w : World}

theorem drep_J {x : DV} {u : Value} (h : DRep cxs.fz w x u) : DRep (cxJ cx cxs).fz w x u := DRep.mono (fun _ hb => .inr hb) (fun _ _ => rfl) x u h

theorem at_J {α : Type} (a b : Nat → α) (l : Nat) : (if cx.n + l < cx.n then a (cx.n + l) else b (cx.n + l - cx.n)) = b l := by
  rw [if_neg (by omega), Nat.add_sub_cancel_left]

 mutual
theorem SRep.shft : ∀ (x : SV) (u : Value), SRep cxs w x u → SRep (cxJ cx cxs) w (shft cx.n x) u
  | .d x, u, h => by simp only [SRep, Sx.shft] at h ⊢; exact drep_J h
  | .ptr l o, u, h => by
      simp only [SRep, Sx.shft] at h ⊢
      simp only [cxJ, at_J]; exact ⟨by omega, h.2⟩
  | .pe l i o, u, h => by
      simp only [SRep, Sx.shft] at h ⊢
      simp only [cxJ, at_J]; exact ⟨by omega, h.2⟩
  | .rp sz f o, u, h => by
      simp only [SRep, Sx.shft] at h ⊢
      obtain ⟨b, o', e, hb, hj⟩ := h
      refine ⟨b, o', e, .inr hb, fun j hl => ?_⟩
      obtain ⟨x, hx, hr⟩ := hj j hl
      exact ⟨x, hx, drep_J hr⟩
  | .own l, u, h => by
      simp only [SRep, Sx.shft] at h ⊢
      simp only [cxJ, at_J]; exact ⟨by omega, h.2⟩
  | .cs l o sz m c, u, h => by
      simp only [SRep, Sx.shft] at h ⊢
      simp only [cxJ, at_J]; exact ⟨by omega, h.2⟩
  | .mp l, u, h => by
      simp only [SRep, Sx.shft] at h ⊢
      simp only [cxJ, at_J]; exact ⟨by omega, h.2⟩
  | .fn g a b, u, h => by
      simp only [SRep, Sx.shft] at h ⊢
      obtain ⟨a', b', e, ha, hb⟩ := h
      exact ⟨a', b', e, SRepL.shft a a' ha, SRepL.shft b b' hb⟩
  | .agg c, u, h => by
      simp only [SRep, Sx.shft] at h ⊢
      obtain ⟨c', e, hc⟩ := h
      exact ⟨c', e, SRepL.shft c c' hc⟩
  | .tup c, u, h => by
      simp only [SRep, Sx.shft] at h ⊢
      obtain ⟨c', e, hc⟩ := h
      exact ⟨c', e, SRepL.shft c c' hc⟩
  | .md ks c, u, h => by
      simp only [SRep, Sx.shft] at h ⊢
      obtain ⟨b, e, c', vs, eu, hb, hw, hl, hk, hc⟩ := h
      exact ⟨b, e, c', vs, eu, .inr hb, hw, hl, hk, SRepL.shft c vs hc⟩
  | .rc c o, u, h => by
      simp only [SRep, Sx.shft] at h ⊢
      obtain ⟨b, vs, eu, hb, hw, hc⟩ := h
      exact ⟨b, vs, eu, .inr hb, hw, SRepL.shft c vs hc⟩
  | .top, u, _ => by simp only [SRep, Sx.shft]
theorem SRepL.shft : ∀ (c : List SV) (c' : List Value), SRepL cxs w c c' → SRepL (cxJ cx cxs) w (shftL cx.n c) c'
  | [], [], _ => by simp only [SRepL, Sx.shftL]
  | x :: r, v :: vs, h => by
      simp only [SRepL, Sx.shftL] at h ⊢
      exact ⟨SRep.shft x v h.1, SRepL.shft r vs h.2⟩
  | [], _ :: _, h => by simp [SRepL] at h
  | _ :: _, [], h => by simp [SRepL] at h
end

theorem SRepE.shft : ∀ (c : List (Value × SV)) (c' : List (Value × Value)), SRepE cxs w c c' → SRepE (cxJ cx cxs) w (shftE cx.n c) c'
  | [], [], _ => by simp only [SRepE, Sx.shftE]
  | (q, x) :: r, (q', v) :: vs, h => by
      simp only [SRepE, Sx.shftE] at h ⊢
      exact ⟨h.1, SRep.shft x v h.2.1, SRepE.shft r vs h.2.2⟩
  | [], _ :: _, h => by simp [SRepE] at h
  | _ :: _, [], h => by simp [SRepE] at h

theorem ORep.shft {l : Nat} : ∀ (o : SO), ORep cxs w l o → ORep (cxJ cx cxs) w (cx.n + l) (shftO cx.n o)
  | .dead, _ => trivial
  | .cells t c, h => by
    obtain ⟨t', c', h1, h2⟩ := h
    exact ⟨t', c', by simp only [cxJ, at_J]; exact h1, SRepL.shft c c' h2⟩
  | .rowi t k xs, h => by
    simp only [ORep, shftO] at h ⊢
    simp only [cxJ, at_J]; exact h
  | .row t sz n f, h => by
    simp only [ORep, shftO] at h ⊢
    simp only [cxJ, at_J]
    refine ⟨h.1, h.2.1, h.2.2.1, h.2.2.2.1, fun hn => ?_⟩
    obtain ⟨t', c', h1, h2, h3⟩ := h.2.2.2.2 hn
    refine ⟨t', c', h1, h2, fun i hi j hj => ?_⟩
    obtain ⟨x, hx, hr⟩ := h3 i hi j hj
    exact ⟨x, hx, drep_J (cx := cx) hr⟩
  | .mapi k es, h => by simp only [ORep, shftO] at h ⊢; simp only [cxJ, at_J]; exact h
  | .mapb es, h => by simp only [ORep, shftO] at h ⊢; simp only [cxJ, at_J]; exact h
  | .maps es, h => by
    obtain ⟨e, c, h1, h2⟩ := h
    exact ⟨e, c, by simp only [cxJ, at_J]; exact h1, SRepE.shft es _ h2⟩
end

theorem shftH_length {n : Nat} : ∀ {h : SH}, (shftH n h).length = h.length
  | [] => rfl
  | o :: r => by simp [shftH, shftH_length (h := r)]
theorem shftH_get {n : Nat} : ∀ {h : SH} {l : Nat}, hget (shftH n h) l = shftO n (hget h l)
  | [], l => by simp [shftH, hget, shftO]
  | o :: r, 0 => by simp [shftH, hget]
  | o :: r, l + 1 => by
    have := @shftH_get n r l
    simpa [shftH, hget] using this

theorem hget_app {h h' : SH} {l : Nat} : hget (h ++ h') l = if l < h.length then hget h l else hget h' (l - h.length) := by
  split
  · rename_i hl; simp [hget, List.getD_eq_getElem?_getD, List.getElem?_append_left hl]
  · rename_i hl; simp [hget, List.getD_eq_getElem?_getD, List.getElem?_append_right (Nat.le_of_not_lt hl)]

/-- The caller's frozen blocks are lent; all others are a frame. -/
def cxF (cx : Cx) (w : World) : Cx := { n := 0, th := fun _ => 0, ln := fun _ => 0, cp := fun _ => 0, nl := fun _ => false, rs := fun _ => 0, fz := cx.fz, fr := fun b => b < w.heap.size ∧ ¬ cx.fz b }

theorem gamF {cx : Cx} {h : SH} {w : World} (g : Gam cx h w) : Gam (cxF cx w) [] w := by
  refine ⟨rfl, fun l => ?_, fun l hl => ?_, fun l hl => ?_, fun l m hl => ?_, fun b hb => ?_, fun b hb hf => hf.2 hb⟩
  · simp [hget, ORep]
  · simp [liv, hget] at hl
  · simp [liv, hget] at hl
  · simp [liv, hget] at hl
  · rcases hb with hb | hb
    · exact g.fzlt b (.inl hb)
    · exact hb.1

theorem cxF_all {cx : Cx} {w : World} {b : Nat} (hb : b < w.heap.size) : (cxF cx w).hd b := by
  by_cases h : cx.fz b
  · exact .inl h
  · exact .inr ⟨hb, h⟩

 mutual
theorem SRep.noloc {cx cx' : Cx} {w : World} (hf : cx'.fz = cx.fz) : ∀ (x : SV) (u : Value), ment (fun _ => true) x = false → SRep cx w x u → SRep cx' w x u
  | .d x, u, _, h => by simp only [SRep] at h ⊢; rw [hf]; exact h
  | .rp sz f o, u, _, h => by simp only [SRep] at h ⊢; rw [hf]; exact h
  | .top, u, _, _ => by simp only [SRep]
  | .ptr l o, u, hm, _ => by simp [ment] at hm
  | .pe l i o, u, hm, _ => by simp [ment] at hm
  | .own l, u, hm, _ => by simp [ment] at hm
  | .cs l o sz m c, u, hm, _ => by simp [ment] at hm
  | .mp l, u, hm, _ => by simp [ment] at hm
  | .fn g a b, u, hm, h => by
      simp only [SRep, ment, Bool.or_eq_false_iff] at h hm ⊢
      obtain ⟨a', b', e, ha, hb⟩ := h
      exact ⟨a', b', e, SRepL.noloc hf a a' hm.1 ha, SRepL.noloc hf b b' hm.2 hb⟩
  | .agg c, u, hm, h => by
      simp only [SRep, ment] at h hm ⊢
      obtain ⟨c', e, hc⟩ := h
      exact ⟨c', e, SRepL.noloc hf c c' hm hc⟩
  | .tup c, u, hm, h => by
      simp only [SRep, ment] at h hm ⊢
      obtain ⟨c', e, hc⟩ := h
      exact ⟨c', e, SRepL.noloc hf c c' hm hc⟩
  | .md ks c, u, hm, h => by
      simp only [SRep, ment] at h hm ⊢
      obtain ⟨b, e, c', vs, eu, hb, hw, hl, hk, hc⟩ := h
      exact ⟨b, e, c', vs, eu, by rw [hf]; exact hb, hw, hl, hk, SRepL.noloc hf c vs hm hc⟩
  | .rc c o, u, hm, h => by
      simp only [SRep, ment] at h hm ⊢
      obtain ⟨b, vs, eu, hb, hw, hc⟩ := h
      exact ⟨b, vs, eu, by rw [hf]; exact hb, hw, SRepL.noloc hf c vs hm hc⟩
theorem SRepL.noloc {cx cx' : Cx} {w : World} (hf : cx'.fz = cx.fz) : ∀ (c : List SV) (c' : List Value), mentL (fun _ => true) c = false → SRepL cx w c c' → SRepL cx' w c c'
  | [], [], _, _ => by simp only [SRepL]
  | x :: r, v :: vs, hm, h => by
      simp only [SRepL, mentL, Bool.or_eq_false_iff] at h hm ⊢
      exact ⟨SRep.noloc hf x v hm.1 h.1, SRepL.noloc hf r vs hm.2 h.2⟩
  | [], _ :: _, _, h => by simp [SRepL] at h
  | _ :: _, [], _, h => by simp [SRepL] at h
end

theorem join_gam {cx : Cx} {h h' : SH} {w w' : World} (hg : Gam cx h w) {p : Nat → Bool} {cxs : Cx} (gr : Grow p (cxF cx w) w cxs w') (hG : Gam cxs h' w') :
    Gam (cxJ cx cxs) (h ++ shftH h.length h') w' ∧ Grow0 cx w (cxJ cx cxs) w' := by
  have hsame : ∀ b, b < w.heap.size → w'.heap[b]? = w.heap[b]? := fun b hb => gr.same b (cxF_all hb)
  obtain ⟨g1, _⟩ := Gam.later hg hsame gr.size gr.io
  have hn := hg.n
  have hns := hG.n
  have gr' : Grow0 cx w (cxJ cx cxs) w' := ⟨fun b hb => .inl hb, fun b hb => hsame b (hg.fzlt b hb), gr.size, fun l hl _ => by
    refine ⟨by simp only [cxJ]; omega, ?_, ?_, ?_, ?_, ?_⟩ <;> simp [cxJ, hl], rfl, gr.io⟩
  have hfrs : ∀ b, cxs.fr b ↔ (b < w.heap.size ∧ ¬ cx.fz b) := fun b => by rw [gr.fr]; rfl
  have hget' : ∀ l, hget (h ++ shftH h.length h') l = if l < cx.n then hget h l else shftO cx.n (hget h' (l - cx.n)) := fun l => by
    rw [hget_app, shftH_get, ← hn]
  have lo : ∀ l, l < cx.n → liv (cxJ cx cxs) (h ++ shftH h.length h') l → liv cx h l := fun l hl hv => by
    unfold liv at hv ⊢
    rw [hget', if_pos hl] at hv
    simpa [cxJ, hl] using hv
  have hi : ∀ l, ¬ l < cx.n → liv (cxJ cx cxs) (h ++ shftH h.length h') l → liv cxs h' (l - cx.n) := fun l hl hv => by
    unfold liv at hv ⊢
    rw [hget', if_neg hl] at hv
    cases e : hget h' (l - cx.n) with
    | dead => rw [e] at hv; exact hv
    | rowi t k xs => rw [e] at hv; simpa [cxJ, hl, shftO] using hv
    | row t sz n f => rw [e] at hv; simpa [cxJ, hl, shftO] using hv
    | _ => trivial
  have new : ∀ l, liv cxs h' l → w.heap.size ≤ cxs.th l := fun l hl => by
    rcases Nat.lt_or_ge (cxs.th l) w.heap.size with h1 | h1
    · exact absurd (gr.hd _ (cxF_all h1)) (hG.own l hl)
    · exact h1
  refine ⟨⟨by simp [cxJ, shftH_length, hn, hns], fun l => ?_, fun l hl => ?_, fun l hl hhd => ?_, fun l m hl hm e => ?_, fun b hb => ?_, fun b hb hf => ?_⟩, gr'⟩
  · rw [hget']
    split
    · rename_i hl
      exact ORep.keep (h := h) gr' hl _ rfl (fun hv => hsame _ (hg.lt l hv)) (hg.obj l)
    · rename_i hl
      have := ORep.shft (cx := cx) (l := l - cx.n) _ (hG.obj (l - cx.n))
      rwa [show cx.n + (l - cx.n) = l by omega] at this
  · by_cases h1 : l < cx.n
    · have := hg.lt l (lo l h1 hl)
      simp only [cxJ, h1, if_true]; exact Nat.lt_of_lt_of_le this gr.size
    · simp only [cxJ, h1, if_false]; exact hG.lt _ (hi l h1 hl)
  · by_cases h1 : l < cx.n
    · have h2 := lo l h1 hl
      have hlt := hg.lt l h2
      simp only [cxJ, Cx.hd, h1, if_true] at hhd
      rcases hhd with (h3 | h3) | h3
      · exact hg.own l h2 (.inl h3)
      · refine hG.dj _ h3 ((hfrs _).2 ⟨hlt, fun h4 => hg.own l h2 (.inl h4)⟩)
      · exact hg.own l h2 (.inr h3)
    · have h2 := hi l h1 hl
      have hge := new _ h2
      simp only [cxJ, Cx.hd, h1, if_false] at hhd
      rcases hhd with (h3 | h3) | h3
      · have := hg.fzlt _ (.inl h3); omega
      · exact hG.own _ h2 (.inl h3)
      · have := hg.fzlt _ (.inr h3); omega
  · by_cases h1 : l < cx.n <;> by_cases h2 : m < cx.n
    · simp only [cxJ, h1, h2, if_true] at e
      exact hg.inj l m (lo l h1 hl) (lo m h2 hm) e
    · simp only [cxJ, h1, h2, if_true, if_false] at e
      have a := hg.lt l (lo l h1 hl)
      have b := new _ (hi m h2 hm)
      omega
    · simp only [cxJ, h1, h2, if_true, if_false] at e
      have a := hg.lt m (lo m h2 hm)
      have b := new _ (hi l h1 hl)
      omega
    · simp only [cxJ, h1, h2, if_false] at e
      have := hG.inj _ _ (hi l h1 hl) (hi m h2 hm) e
      omega
  · rcases hb with (h1 | h1) | h1
    · exact Nat.lt_of_lt_of_le (hg.fzlt b (.inl h1)) gr.size
    · exact hG.fzlt b (.inl h1)
    · exact Nat.lt_of_lt_of_le (hg.fzlt b (.inr h1)) gr.size
  · have hlt := hg.fzlt b (.inr hf)
    rcases hb with h1 | h1
    · exact hg.dj b h1 hf
    · exact hG.dj b h1 ((hfrs b).2 ⟨hlt, fun h2 => hg.dj b h2 hf⟩)


 mutual
theorem shft_noloc {n : Nat} : ∀ x : SV, ment (fun _ => true) x = false → shft n x = x
  | .d x, _ | .rp sz g o, _ | .top, _ => by simp only [shft]
  | .ptr l o, h | .pe l i o, h | .own l, h | .cs l o sz m c, h | .mp l, h => by simp [ment] at h
  | .fn g a b, h => by
    simp only [ment, Bool.or_eq_false_iff] at h
    simp only [shft, shftL_noloc a h.1, shftL_noloc b h.2]
  | .agg c, h | .tup c, h | .md _ c, h | .rc c _, h => by
    simp only [ment] at h
    simp only [shft, shftL_noloc c h]
theorem shftL_noloc {n : Nat} : ∀ c : List SV, mentL (fun _ => true) c = false → shftL n c = c
  | [], _ => by simp only [shftL]
  | x :: r, h => by
    simp only [mentL, Bool.or_eq_false_iff] at h
    simp only [shftL, shft_noloc x h.1, shftL_noloc r h.2]
end

/-- An operation that looks at a part of the heap, and may only make what no loc names. -/
def Look (P : Program) (o : Oper) (s : SS) (v : SV) : Prop :=
  ∀ (cx : Cx) (w : World) (a : Act) (h : SH), Gam cx h w → Seen cx s.h w → TRep cx w s.t a.tmps → ∀ (next : Act → World → Prop) (Q : Exit → Act → World → Prop),
    (∀ cx' w' v', Grow0 cx w cx' w' → SRep cx' w' v v' → Gam cx' h w' → next (a.put o.dst v') w') → o.wp P a w next Q

theorem Still.look {P : Program} {o : Oper} {s : SS} {v : SV} (h : Still P o s v) : Look P o s v := fun cx w a hh hG hS ht next Q hn => by
  obtain ⟨v', hrun, hv⟩ := h cx w a hS ht
  unfold Oper.wp
  rw [hrun, Oper.upon_value]
  exact hn cx w v' (Grow.refl _ _ _) hv hG

theorem mentT_of {p : Nat → Bool} : ∀ {t : List (Nat × SV)} {i : Nat} {x : SV}, mentT p t = false → (i, x) ∈ t → ment p x = false
  | (k, y) :: r, i, x, h, hm => by
    simp only [mentT, Bool.or_eq_false_iff] at h
    rcases List.mem_cons.1 hm with e | hm
    · simp only [Prod.mk.injEq] at e
      obtain ⟨rfl, rfl⟩ := e
      exact h.1
    · exact mentT_of h.2 hm

/-- A call on an empty heap. -/
theorem look_call {P : Program} {o : Oper} {t : List (Nat × SV)} {v : SV} (h : OpOK0 P o ⟨t, []⟩ v ⟨t, []⟩) (ht : mentT (fun _ => true) t = false) (hv : ment (fun _ => true) v = false) (hm : SH) : Look P o ⟨t, hm⟩ v := fun cx w a hh hG _ hT next Q hn => by
  refine h (cxF cx w) w a (gamF hG) (fun i x hx => ⟨(hT i x hx).1, SRep.noloc (cx := cx) (cx' := cxF cx w) rfl x _ (mentT_of ht hx) (hT i x hx).2⟩) next Q fun cx' w' v' gr hr _ hG' => ?_
  obtain ⟨k1, k2⟩ := join_gam hG gr hG'
  refine hn _ w' v' k2 ?_ (by simpa [shftH] using k1)
  have := SRep.shft (cx := cx) v v' hr
  rwa [shft_noloc v hv] at this
end Go.Sx

/- Regions that draw their order, first part: the trace of the text's order. -/
namespace Go.Sx

theorem keepT_mem {ks : List Nat} : ∀ {t : List (Nat × SV)} {p : Nat × SV}, p ∈ keepT ks t → p.1 ∈ ks ∧ p ∈ t
  | [], p, h => by simp [keepT] at h
  | (k, v) :: r, p, h => by
    simp only [keepT] at h
    cases hm : nmem k ks with
    | true =>
      rw [hm] at h; simp only [cond_true] at h
      rcases List.mem_cons.1 h with rfl | h
      · refine ⟨?_, by simp⟩
        rcases Decidable.em (k ∈ ks) with h | h
        · exact h
        · rw [nmem_iff.2 h] at hm; cases hm
      · exact ⟨(keepT_mem h).1, by simp [(keepT_mem h).2]⟩
    | false =>
      rw [hm] at h; simp only [cond_false] at h
      exact ⟨(keepT_mem h).1, by simp [(keepT_mem h).2]⟩

theorem keepT_sub {ks : List Nat} : ∀ {t : List (Nat × SV)}, (keepT ks t).Sublist t
  | [] => .slnil
  | (k, v) :: r => by
    simp only [keepT]
    cases nmem k ks with
    | true => exact (keepT_sub (t := r)).cons_cons _
    | false => exact (keepT_sub (t := r)).cons _

theorem uniq_lk : ∀ {t : List (Nat × SV)} {i : Nat} {x : SV}, Uniq t → (i, x) ∈ t → lk t i = x
  | (k, v) :: r, i, x, h, hm => by
    simp only [lk]
    rcases List.mem_cons.1 hm with e | hm
    · simp only [Prod.mk.injEq] at e
      obtain ⟨rfl, rfl⟩ := e
      simp
    · have := (List.pairwise_cons.1 h).1 _ hm
      have hne : Nat.beq k i = false := nbne.2 (by simp at this; omega)
      rw [hne]; exact uniq_lk (List.pairwise_cons.1 h).2 hm

theorem lk_none : ∀ {t : List (Nat × SV)} {i : Nat}, (∀ x, (i, x) ∉ t) → lk t i = .top
  | [], _, _ => rfl
  | (k, v) :: r, i, h => by
    simp only [lk]
    cases hb : Nat.beq k i with
    | true => have := nbeq.1 hb; subst this; exact absurd (List.mem_cons_self) (h v)
    | false => exact lk_none fun x hx => h x (by simp [hx])

theorem lk_stt {d : Nat} {v : SV} {x : Nat} : ∀ {t : List (Nat × SV)}, lk (stt t d v) x = if d = x then v else lk t x
  | [] => by
    simp only [stt, lk]
    by_cases h : d = x
    · subst h; simp
    · simp [nbne.2 h, h]
  | (k, u) :: r => by
    simp only [stt]
    cases h1 : Nat.beq k d with
    | true =>
      have := nbeq.1 h1; subst this
      simp only [cond_true, lk]
      by_cases h : k = x
      · subst h; simp
      · simp [nbne.2 h, h]
    | false =>
      cases h2 : Nat.blt d k with
      | true =>
        simp only [cond_true, cond_false, lk]
        by_cases h : d = x
        · subst h; simp
        · simp [nbne.2 h, h]
      | false =>
        simp only [cond_false, lk]
        by_cases h : k = x
        · subst h; simp; intro e; exact absurd e.symm (nbne.1 h1)
        · simp only [nbne.2 h, cond_false]; exact lk_stt

theorem lk_dropT {d x : Nat} {t : List (Nat × SV)} (hu : Uniq t) : lk (dropT t d) x = if d = x then .top else lk t x := by
  by_cases h : d = x
  · subst h
    rw [if_pos rfl]
    exact lk_none fun v hv => ((dropT_uniq hu).2 _ hv).1 rfl
  · rw [if_neg h]
    clear hu
    induction t with
    | nil => rfl
    | cons p r ih =>
      obtain ⟨k, v⟩ := p
      simp only [dropT, lk]
      cases h1 : Nat.beq k d with
      | true =>
        have := nbeq.1 h1; subst this
        simp [nbne.2 h]
      | false => simp only [cond_false, lk, ih]

theorem lk_putD {d : Option Nat} {v : SV} {t : List (Nat × SV)} (hu : Uniq t) (x : Nat) : lk (putD d v t) x = if d = some x then v else lk t x := by
  unfold putD
  split
  · simp
  · rename_i d'
    split
    · rw [lk_dropT hu]; simp
    · rw [lk_stt]; simp

theorem maskH_get {ls : List Nat} : ∀ {h : SH} {i l : Nat}, hget (maskH ls i h) l = .dead ∨ (i + l ∈ ls ∧ hget (maskH ls i h) l = hget h l)
  | [], i, l => .inl (by simp [maskH, hget])
  | o :: r, i, 0 => by
    simp only [maskH, hget, List.getD_cons_zero, Nat.add_zero]
    cases hm : nmem i ls with
    | true =>
      refine .inr ⟨?_, rfl⟩
      rcases Decidable.em (i ∈ ls) with h | h
      · exact h
      · rw [nmem_iff.2 h] at hm; cases hm
    | false => exact .inl rfl
  | o :: r, i, l + 1 => by
    have := @maskH_get ls r (i + 1) l
    simp only [hget, maskH, List.getD_cons_succ] at this ⊢
    rw [show i + (l + 1) = i + 1 + l by omega]; exact this

/-- One operation of the trace. -/
structure En where
  c : CR
  s : SS
  v : SV
  ls : List Nat
  s' : SS
  kd : Nat

def needOf (e : En) : List (Nat × SV) := keepT (opsOf e.c.op) e.s.t

/-- Does its guard let it run? -/
def runs (e : En) (b : Bool) : Prop := match e.c.guard with
  | none => b = true
  | some (d, want) => (∃ x, lk e.s.t d = .d (.v (.bool x)) ∧ b = (x == want)) ∨ (lk e.s.t d = .tup [] ∧ b = false)

structure EnOK (P : Program) (A : Ann) (nt : Nat) (o : Oper) (i : Nat) (e : En) : Prop where
  uniq : Uniq e.s.t
  bnd : ∀ p ∈ e.s.t, p.1 < nt
  dst : o.dst = e.c.dst
  kind : (e.kd = 0 ∧ runs e false ∧ e.v = .tup [] ∧ e.ls = [] ∧ e.s' = ⟨putD e.c.dst (.tup []) e.s.t, e.s.h⟩) ∨
    (e.kd = 1 ∧ runs e true ∧ e.s' = ⟨putD e.c.dst e.v e.s.t, e.s.h⟩ ∧ (∀ l ∈ e.ls, ∃ n ∈ opsOf e.c.op, l ∈ locsOf (lk e.s.t n)) ∧
      ∃ hm, (∀ l, hget hm l = .dead ∨ (l ∈ e.ls ∧ hget hm l = hget e.s.h l)) ∧ Look P o ⟨needOf e, hm⟩ e.v) ∨
    (e.kd = 2 ∧ runs e true ∧ e.s'.t = putD e.c.dst e.v e.s.t ∧ Keeps e.ls e.s.h e.s'.h ∧ OpOK0 P o ⟨needOf e, e.s.h⟩ e.v ⟨needOf e, e.s'.h⟩) ∨
    (e.kd = 3 ∧ runs e true ∧ e.c.anc + 1 = 2 ^ i ∧ ∃ t1, t1.Sublist e.s.t ∧ e.s'.t = putD e.c.dst e.v t1 ∧ OpOK P A o e.s e.v ⟨t1, e.s'.h⟩)

/-- Two operations, the first ahead of the second in the text: the second waits for it, or their turns do not matter. -/
def PairOK (i : Nat) (e' : En) (e : En) : Prop :=
  Nat.testBit e.c.anc i = true ∨ (e.kd ≠ 3 ∧ e'.kd ≠ 3 ∧ ¬ (e.kd = 2 ∧ e'.kd = 2) ∧ ((e.kd = 2 ∨ e'.kd = 2) → ∀ l ∈ e.ls, l ∉ e'.ls))

theorem disj_of {a b : List Nat} (h : disj a b = true) : ∀ l ∈ a, l ∉ b := fun l hl => by
  have := List.all_eq_true.1 h l hl
  exact nmem_iff.1 (by simpa using this)

theorem compat_of {anc c : Nat} {ls : List Nat} : ∀ {lg : Log}, compat anc c ls lg = true → ∀ {i c' : Nat} {ls' : List Nat}, (i, c', ls') ∈ lg →
    Nat.testBit anc i = true ∨ (¬ (c = 2 ∧ c' = 2) ∧ ((c = 2 ∨ c' = 2) → ∀ l ∈ ls, l ∉ ls'))
  | (i0, c0, l0) :: r, h, i, c', ls', hm => by
    simp only [compat, Bool.and_eq_true] at h
    rcases List.mem_cons.1 hm with e | hm
    · simp only [Prod.mk.injEq] at e
      obtain ⟨rfl, rfl, rfl⟩ := e
      have h1 := h.1
      simp only [Bool.or_eq_true, Bool.and_eq_true, Bool.not_eq_true'] at h1
      rcases h1 with h1 | ⟨h1, h2⟩
      · exact .inl h1
      · refine .inr ⟨fun ⟨a, b⟩ => ?_, fun hor => ?_⟩
        · subst a; subst b; simp at h1
        · rcases h2 with h2 | h2
          · rcases hor with e | e
            · subst e; simp at h2
            · subst e; simp at h2
          · exact disj_of h2
    · exact compat_of h.2 hm

/-- The log and the mask tell of what has been. -/
structure Told (pre : List En) (lg : Log) (req : Nat) : Prop where
  log : ∀ i e, pre[i]? = some e → (e.kd = 0 ∧ e.ls = []) ∨ (e.kd = 1 ∧ e.ls = []) ∨ ((e.kd = 1 ∨ e.kd = 2) ∧ (i, e.kd, e.ls) ∈ lg) ∨ (e.kd = 3 ∧ Nat.testBit req i = true)

theorem pair_of {pre : List En} {lg : Log} {req : Nat} (ht : Told pre lg req) {e : En} (hreq : Nat.beq (e.c.anc &&& req) req = true)
    (h : ((e.kd = 0 ∨ e.kd = 1) ∧ e.ls = []) ∨ ((e.kd = 1 ∨ e.kd = 2) ∧ compat e.c.anc e.kd e.ls lg = true)) : ∀ i e', pre[i]? = some e' → PairOK i e' e := by
  intro i e' hi
  unfold PairOK
  have hpiv : e'.kd = 3 → Nat.testBit req i = true → Nat.testBit e.c.anc i = true := fun _ hb => by
    have := nbeq.1 hreq
    rw [← this, Nat.testBit_and, Bool.and_eq_true] at hb
    exact hb.1
  rcases ht.log i e' hi with ⟨h1, h2⟩ | ⟨h1, h2⟩ | ⟨h1, h2⟩ | ⟨h1, h2⟩
  · rcases h with ⟨h3, h4⟩ | ⟨h3, h4⟩
    · refine .inr ⟨by omega, by omega, by omega, fun _ l hl => by rw [h4] at hl; simp at hl⟩
    · refine .inr ⟨by omega, by omega, by omega, fun _ l hl => by rw [h2]; simp⟩
  · rcases h with ⟨h3, h4⟩ | ⟨h3, h4⟩
    · refine .inr ⟨by omega, by omega, by omega, fun _ l hl => by rw [h4] at hl; simp at hl⟩
    · refine .inr ⟨by omega, by omega, by omega, fun _ l hl => by rw [h2]; simp⟩
  · rcases h with ⟨h3, h4⟩ | ⟨h3, h4⟩
    · refine .inr ⟨by omega, by omega, by omega, fun _ l hl => by rw [h4] at hl; simp at hl⟩
    · rcases compat_of h4 h2 with h5 | ⟨h5, h6⟩
      · exact .inl h5
      · exact .inr ⟨by omega, by omega, h5, h6⟩
  · exact .inl (hpiv h1 h2)

theorem bit_pivot {anc i j : Nat} (h : anc + 1 = 2 ^ i) (hj : j < i) : Nat.testBit anc j = true := by
  have : anc = 2 ^ i - 1 := by omega
  rw [this, Nat.testBit_two_pow_sub_one]; simp [hj]

theorem Told.cons {pre : List En} {lg lg' : Log} {req req' : Nat} (ht : Told pre lg req) {e : En} (hl : ∀ x, x ∈ lg → x ∈ lg') (hr : ∀ i, Nat.testBit req i = true → Nat.testBit req' i = true)
    (he : (e.kd = 0 ∧ e.ls = []) ∨ (e.kd = 1 ∧ e.ls = []) ∨ ((e.kd = 1 ∨ e.kd = 2) ∧ (pre.length, e.kd, e.ls) ∈ lg') ∨ (e.kd = 3 ∧ Nat.testBit req' pre.length = true)) : Told (pre ++ [e]) lg' req' :=
  ⟨fun i x hx => by
    rcases Nat.lt_or_ge i pre.length with h | h
    · rw [List.getElem?_append_left h] at hx
      rcases ht.log i x hx with h1 | h1 | ⟨h1, h2⟩ | ⟨h1, h2⟩
      · exact .inl h1
      · exact .inr (.inl h1)
      · exact .inr (.inr (.inl ⟨h1, hl _ h2⟩))
      · exact .inr (.inr (.inr ⟨h1, hr _ h2⟩))
    · rw [List.getElem?_append_right h] at hx
      have : i = pre.length := by
        rcases Nat.lt_or_ge (i - pre.length) 1 with h' | h'
        · omega
        · simp [List.getElem?_eq_none (show ([e] : List En).length ≤ i - pre.length by simpa using h')] at hx
      subst this
      simp at hx; subst hx
      exact he⟩

theorem putD_bnd {nt : Nat} {d : Option Nat} {v : SV} {t : List (Nat × SV)} (hu : Uniq t) (h : ∀ p ∈ t, p.1 < nt) (hd : dstOkT nt d = true) : ∀ p ∈ putD d v t, p.1 < nt := by
  intro p hp
  rcases (putD_uniq hu).2 p hp with ⟨d', rfl, rfl⟩ | ⟨_, h2⟩
  · exact nlt hd
  · exact h p h2

theorem reads_of {t : List (Nat × SV)} {c : CO} : ∀ l ∈ readsOf t c, ∃ n ∈ opsOf c, l ∈ locsOf (lk t n) := by
  intro l hl
  unfold readsOf at hl
  split at hl
  · exact ⟨_, by simp [opsOf, tOf], hl⟩
  · exact ⟨_, by simp [opsOf, tOfL], hl⟩
  · exact ⟨_, by simp [opsOf, tOf], hl⟩
  · exact ⟨_, by simp [opsOf, tOf], hl⟩
  · exact ⟨_, by simp [opsOf, tOfL], hl⟩
  · simp at hl

/-- How two entries follow each other. -/
def Link (e : En) (s : SS) : Prop := (∀ x, lk s.t x = lk e.s'.t x) ∧ s.h = e.s'.h

section
variable {P : Program} {A : Ann} {Ω : Type} {env : Env Ω} {out : Ω}

theorem coB_call {b : Builtin} {ats : List TypeId} {l : List CA} {f : CA} {args : List CA} (h : coB P b ats l = some (.call f args)) : False := by
  unfold coB at h
  split at h
  · split at h <;> simp at h
  · split at h
    · have := (cond_some h).2; simp at this
    · simp at h
  · split at h <;> simp at h
  · simp at h
  · simp at h
  · simp at h

theorem coOp_call1 {op : Op} {f : CA} {args : List CA} (h : coOp1 P op = some (.call f args)) :
    ∃ callee cargs ats, op = .call { callee := .value callee, args := cargs, argTypes := ats } ∧ coA callee = some f ∧ coL cargs.toList = some args := by
  unfold coOp1 at h
  split at h
  all_goals try (simp [Option.map_eq_some_iff] at h; done)
  all_goals try (split at h)
  all_goals try (simp [Option.map_eq_some_iff] at h; done)
  all_goals try (have h := (cond_some h).2; simp [Option.map_eq_some_iff] at h; done)
  all_goals try (split at h)
  all_goals try (simp [Option.map_eq_some_iff] at h; done)
  all_goals try (have h := (cond_some h).2; simp [Option.map_eq_some_iff] at h; done)
  all_goals try (have h := (and_some h).2; simp [Option.map_eq_some_iff] at h; done)
  all_goals try (unfold mkO at h; split at h <;> simp at h; done)
  · rename_i c' _ _ f' args' e1 e2
    obtain ⟨callee, cargs, ats⟩ := c'
    obtain ⟨f'', h1, h2⟩ := Option.map_eq_some_iff.1 h
    simp only [CO.call.injEq] at h2
    obtain ⟨rfl, rfl⟩ := h2
    try simp only at e1
    subst e1
    exact ⟨_, _, _, rfl, h1, e2⟩
  · exact (coB_call h).elim

theorem coOp_call {op : Op} {f : CA} {args : List CA} (h : coOp P op = some (.call f args)) :
    ∃ callee cargs ats, op = .call { callee := .value callee, args := cargs, argTypes := ats } ∧ coA callee = some f ∧ coL cargs.toList = some args := by
  unfold coOp at h
  simp only [Option.some.injEq] at h
  cases e : coOp1 P op with
  | some c => rw [e] at h; simp only at h; subst h; exact coOp_call1 e
  | none => rw [e] at h; cases h

/-- One operation of a drawn region that its guard lets run. -/
theorem dop_sound (he : EnvOK P env) {nt : Nat} {o : Oper} {c : CR} (hdst : o.dst = c.dst) (hdk : dstOkT nt c.dst = true) (hco : coOp P o.op = some c.op) {s : SS} (hu : Uniq s.t) (hb : ∀ p ∈ s.t, p.1 < nt) (hrun : ∀ v ls s' kd, runs ⟨c, s, v, ls, s', kd⟩ true)
    {pre : List En} {lg : Log} {req : Nat} (ht : Told pre lg req) (hreq : Nat.beq (c.anc &&& req) req = true) {n : SV → Log → Nat → SS → Option Ω} (h : dop env A c pre.length lg req s n = some out) :
    ∃ (e : En) (lg' : Log) (req' : Nat) (s1 : SS), n e.v lg' req' s1 = some out ∧ e.c = c ∧ e.s = s ∧ e.s' = ⟨putD c.dst e.v s1.t, s1.h⟩ ∧ EnOK P A nt o pre.length e ∧ (∀ i e', pre[i]? = some e' → PairOK i e' e) ∧ Told (pre ++ [e]) lg' req' ∧ Uniq s1.t ∧ ∀ p ∈ s1.t, p.1 < nt := by
  unfold dop at h
  split at h
  · -- it looks at nothing
    rename_i hc
    have hp : PlainV P o ⟨keepT (opsOf c.op) s.t, []⟩ (fun v _ _ => n v lg req s) out := by
      rcases sop_sound he hco h with ⟨_, h⟩ | ⟨h1, _⟩ | ⟨h1, _⟩
      · exact h
      · omega
      · omega
    obtain ⟨v, h1, h2⟩ := hp
    refine ⟨⟨c, s, v, [], ⟨putD c.dst v s.t, s.h⟩, 1⟩, lg, req, s, h1, rfl, rfl, rfl, ⟨hu, hb, hdst, .inr (.inl ⟨rfl, hrun _ _ _ _, rfl, by simp, [], by simp [hget], h2.look⟩)⟩, pair_of ht hreq (.inl ⟨.inr rfl, rfl⟩), ht.cons (fun _ h => h) (fun _ h => h) (.inr (.inl ⟨rfl, rfl⟩)), hu, hb⟩
  · rename_i hc
    obtain ⟨hcp, h⟩ := cond_some h
    have hp : PlainV P o ⟨keepT (opsOf c.op) s.t, maskH (readsOf s.t c.op) 0 s.h⟩ (fun v _ _ => n v ((pre.length, 1, readsOf s.t c.op) :: lg) req s) out := by
      rcases sop_sound he hco h with ⟨_, h⟩ | ⟨h1, _⟩ | ⟨h1, _⟩
      · exact h
      · omega
      · omega
    obtain ⟨v, h1, h2⟩ := hp
    refine ⟨⟨c, s, v, readsOf s.t c.op, ⟨putD c.dst v s.t, s.h⟩, 1⟩, _, req, s, h1, rfl, rfl, rfl, ⟨hu, hb, hdst, .inr (.inl ⟨rfl, hrun _ _ _ _, rfl, reads_of, _, fun l => ?_, h2.look⟩)⟩, pair_of ht hreq (.inr ⟨.inl rfl, hcp⟩),
      ht.cons (fun _ h => List.mem_cons_of_mem _ h) (fun _ h => h) (.inr (.inr (.inl ⟨.inl rfl, by simp⟩))), hu, hb⟩
    rcases maskH_get (ls := readsOf s.t c.op) (h := s.h) (i := 0) (l := l) with h3 | ⟨h3, h4⟩
    · exact .inl h3
    · exact .inr ⟨by simpa using h3, h4⟩
  · rename_i hc
    have hp : PlainE P o ⟨keepT (opsOf c.op) s.t, s.h⟩ (fun v m s' => bif compat c.anc 2 m lg then n v ((pre.length, 2, m) :: lg) req ⟨s.t, s'.h⟩ else none) out := by
      rcases sop_sound he hco h with ⟨h1, _⟩ | ⟨_, h⟩ | ⟨h1, _⟩
      · omega
      · exact h
      · omega
    obtain ⟨v, m, h', h1, h2, h3⟩ := hp
    obtain ⟨hcp, h1⟩ := cond_some h1
    exact ⟨⟨c, s, v, m, ⟨putD c.dst v s.t, h'⟩, 2⟩, _, req, ⟨s.t, h'⟩, h1, rfl, rfl, rfl, ⟨hu, hb, hdst, .inr (.inr (.inl ⟨rfl, hrun _ _ _ _, rfl, h3, h2⟩))⟩, pair_of ht hreq (.inr ⟨.inr rfl, hcp⟩),
      ht.cons (fun _ h => List.mem_cons_of_mem _ h) (fun _ h => h) (.inr (.inr (.inl ⟨.inr rfl, by simp⟩))), hu, hb⟩
  · rename_i hc0 hc1 hc2
    have pivot : ∀ {v : SV} {t1 : List (Nat × SV)} {h' : SH}, c.anc + 1 = 2 ^ pre.length → t1.Sublist s.t → OpOK P A o s v ⟨t1, h'⟩ → n v lg (req ||| 2 ^ pre.length) ⟨t1, h'⟩ = some out →
        ∃ (e : En) (lg' : Log) (req' : Nat) (s1 : SS), n e.v lg' req' s1 = some out ∧ e.c = c ∧ e.s = s ∧ e.s' = ⟨putD c.dst e.v s1.t, s1.h⟩ ∧ EnOK P A nt o pre.length e ∧ (∀ i e', pre[i]? = some e' → PairOK i e' e) ∧ Told (pre ++ [e]) lg' req' ∧ Uniq s1.t ∧ ∀ p ∈ s1.t, p.1 < nt := by
      intro v t1 h' hanc hsub hop h1
      refine ⟨⟨c, s, v, [], ⟨putD c.dst v t1, h'⟩, 3⟩, lg, _, ⟨t1, h'⟩, h1, rfl, rfl, rfl, ⟨hu, hb, hdst, .inr (.inr (.inr ⟨rfl, hrun _ _ _ _, hanc, t1, hsub, rfl, hop⟩))⟩, fun i e' hi => .inl (bit_pivot hanc (List.getElem?_eq_some_iff.1 hi).1),
        ht.cons (fun _ h => h) (fun i h => by rw [Nat.testBit_or, h]; rfl) (.inr (.inr (.inr ⟨rfl, by rw [Nat.testBit_or, Nat.testBit_two_pow_self]; simp⟩))), hu.sub hsub, fun p hp => hb p (hsub.mem hp)⟩
    split at h
    · rename_i f args hcop
      split at h
      · rename_i g a b hv
        split at h
        · rename_i sp hg
          obtain ⟨callee, cargs, ats, ho, hf, hal⟩ : ∃ callee cargs ats, o.op = .call { callee := .value callee, args := cargs, argTypes := ats } ∧ coA callee = some f ∧ coL cargs.toList = some args := coOp_call (by rw [hco, hcop])
          rw [hcop] at hv h
          cases hpu : nmem g A.pu with
          | true =>
            rw [hpu, cond_true] at h
            cases hmt : mentT (fun _ => true) (keepT (opsOf (.call f args)) s.t) with
            | true => rw [hmt] at h; cases h
            | false =>
              rw [hmt, cond_false] at h
              obtain ⟨r, m, sc, h', h1, h2, h3⟩ := snd_call (s := ⟨keepT (opsOf (.call f args)) s.t, []⟩) ho hf hal he hv hg h
              dsimp only at h1
              split at h1
              · cases hvt : ment (fun _ => true) r with
                | true => rw [hvt] at h1; cases h1
                | false =>
                  rw [hvt, cond_false] at h1
                  have h2' : OpOK0 P o ⟨keepT (opsOf (.call f args)) s.t, []⟩ r ⟨keepT (opsOf (.call f args)) s.t, []⟩ := by
                    have : (fun l => nmem l []) = fun _ => false := funext fun l => by simp [nmem]
                    rw [this] at h2
                    exact h2
                  exact ⟨⟨c, s, r, [], ⟨putD c.dst r s.t, s.h⟩, 1⟩, lg, req, s, h1, rfl, rfl, rfl, ⟨hu, hb, hdst, .inr (.inl ⟨rfl, hrun _ _ _ _, rfl, by simp, [], by simp [hget], by unfold needOf; rw [hcop]; exact look_call h2' hmt hvt []⟩)⟩, pair_of ht hreq (.inl ⟨.inr rfl, rfl⟩), ht.cons (fun _ h => h) (fun _ h => h) (.inr (.inl ⟨rfl, rfl⟩)), hu, hb⟩
              · cases h1
          | false =>
          rw [hpu, cond_false] at h
          obtain ⟨r, m, sc, h', h1, h2, h3⟩ := snd_call (s := ⟨keepT (opsOf (.call f args)) s.t, s.h⟩) ho hf hal he hv hg h
          dsimp only at h1
          split at h1
          · obtain ⟨hcp, h1⟩ := cond_some h1
            have h2' : OpOK0 P o ⟨keepT (opsOf (.call f args)) s.t, s.h⟩ r ⟨keepT (opsOf (.call f args)) s.t, h'⟩ := by
              have : (fun l => nmem l []) = fun _ => false := funext fun l => by simp [nmem]
              rw [this] at h2
              exact h2
            exact ⟨⟨c, s, r, m, ⟨putD c.dst r s.t, h'⟩, 2⟩, _, req, ⟨s.t, h'⟩, h1, rfl, rfl, rfl, ⟨hu, hb, hdst, .inr (.inr (.inl ⟨rfl, hrun _ _ _ _, rfl, h3, by unfold needOf; rw [hcop]; exact h2'⟩))⟩, pair_of ht hreq (.inr ⟨.inr rfl, hcp⟩),
              ht.cons (fun _ h => List.mem_cons_of_mem _ h) (fun _ h => h) (.inr (.inr (.inl ⟨.inr rfl, by simp⟩))), hu, hb⟩
          · obtain ⟨hcp, h1⟩ := cond_some h1
            simp only [Bool.and_eq_true] at hcp
            refine pivot (nbeq.1 hcp.1) scrubTs_sub (fun cx w ac hG ht next Q hn => ?_) h1
            refine h2 cx w ac hG (fun i x hx => ht i x (keepT_mem hx).2) next Q fun cx' w' v' gr hr _ hG' => ?_
            exact hn cx' w' v' (gr.weak fun l hl => allOk_no hcp.2 hl) hr (TRep.scrubs gr ht) hG'
        · simp at h
      · simp at h
    · obtain ⟨hcp, h⟩ := cond_some h
      have hp : Plain P A o s (fun v _ s' => n v lg (req ||| 2 ^ pre.length) s') out := by
        rcases sop_sound he hco h with ⟨_, h⟩ | ⟨_, h⟩ | ⟨_, h⟩
        · exact h.plain
        · exact h.plain
        · exact h
      obtain ⟨v, m, s', h1, h2, h3⟩ := hp
      exact pivot (nbeq.1 hcp) h2 h3 h1
end
end Go.Sx

/- Regions that draw their order, second part: the whole trace. -/
namespace Go.Sx

/-- The state ahead of entry i. -/
def stA (es : List En) (sf : SS) (i : Nat) : SS := match es[i]? with
  | some e => e.s
  | none => sf

def GuardOK (all : List Oper) (o : Oper) (c : CR) : Prop := match o.guard with
  | none => c.guard = none
  | some (j, w) => ∃ d, (all[j]?).bind (·.dst) = some d ∧ c.guard = some (d, w)

structure Trc (P : Program) (A : Ann) (nt : Nat) (all : List Oper) (pre : List En) (l : List Oper) (cs : List CR) (s : SS) (es : List En) (sf : SS) : Prop where
  len : es.length = l.length
  uniq : Uniq sf.t
  bnd : ∀ p ∈ sf.t, p.1 < nt
  ok : ∀ (i : Nat) (o : Oper) (e : En), l[i]? = some o → es[i]? = some e → EnOK P A nt o (pre.length + i) e ∧ GuardOK all o e.c ∧ cs[i]? = some e.c ∧
    e.c.anc = ancOf ((pre ++ es.take i).map (·.c.anc)) o ∧ (∀ x ∈ o.after, Region.binds .any x = true → x.on < pre.length + i) ∧ (∀ d, o.dst = some d → d < nt)
  pair : ∀ (j : Nat) (e : En), es[j]? = some e → ∀ (i : Nat) (e' : En), i < pre.length + j → (pre ++ es)[i]? = some e' → PairOK i e' e
  head : (∀ x, lk (stA es sf 0).t x = lk s.t x) ∧ (stA es sf 0).h = s.h
  link : ∀ (i : Nat) (e : En), es[i]? = some e → Link e (stA es sf (i + 1))

theorem Trc.cons {P : Program} {A : Ann} {nt : Nat} {all : List Oper} {pre : List En} {o : Oper} {l : List Oper} {c : CR} {cs : List CR} {s0 : SS} {e : En} {es : List En} {sf : SS}
    (h : Trc P A nt all (pre ++ [e]) l cs e.s' es sf) (hs : (∀ x, lk e.s.t x = lk s0.t x) ∧ e.s.h = s0.h) (hok : EnOK P A nt o pre.length e) (hg : GuardOK all o e.c) (hc : c = e.c) (ha : e.c.anc = ancOf (pre.map (·.c.anc)) o)
    (hb : ∀ x ∈ o.after, Region.binds .any x = true → x.on < pre.length) (hd : ∀ d, o.dst = some d → d < nt) (hp : ∀ i e', pre[i]? = some e' → PairOK i e' e) :
    Trc P A nt all pre (o :: l) (c :: cs) s0 (e :: es) sf where
  len := by simp [h.len]
  uniq := h.uniq
  bnd := h.bnd
  ok := fun i o' e' h1 h2 => by
    cases i with
    | zero =>
      simp only [List.getElem?_cons_zero, Option.some.injEq] at h1 h2
      subst h1; subst h2
      exact ⟨hok, hg, by simp [hc], by simpa using ha, by simpa using hb, hd⟩
    | succ i =>
      simp only [List.getElem?_cons_succ] at h1 h2
      have := h.ok i o' e' h1 h2
      simp only [List.length_append, List.length_cons, List.length_nil, List.append_assoc, List.singleton_append] at this
      rw [show pre.length + (i + 1) = pre.length + (0 + 1) + i by omega]
      simpa using this
  pair := fun j e' h1 i e'' hi h2 => by
    cases j with
    | zero =>
      simp only [List.getElem?_cons_zero, Option.some.injEq] at h1
      subst h1
      rw [List.getElem?_append_left (by omega)] at h2
      exact hp i e'' h2
    | succ j =>
      simp only [List.getElem?_cons_succ] at h1
      exact h.pair j e' h1 i e'' (by simp; omega) (by simpa using h2)
  head := hs
  link := fun i e' h1 => by
    cases i with
    | zero =>
      simp only [List.getElem?_cons_zero, Option.some.injEq] at h1
      subst h1
      exact h.head
    | succ i =>
      simp only [List.getElem?_cons_succ] at h1
      exact h.link i e' h1

section
variable {P : Program} {A : Ann} {Ω : Type} {env : Env Ω} {out : Ω}

theorem sregD_trace (he : EnvOK P env) {nt : Nat} {all : List Oper} {k : SS → Option Ω} :
    ∀ (l : List Oper) (cs : List CR) (pre : List En) (lg : Log) (req : Nat) (s : SS), coR P nt true all l (pre.map (·.c.anc)) = some cs → sregD env A cs pre.length lg req s k = some out →
    Uniq s.t → (∀ p ∈ s.t, p.1 < nt) → Told pre lg req → ∃ (es : List En) (sf : SS), k sf = some out ∧ Trc P A nt all pre l cs s es sf
  | [], cs, pre, lg, req, s, hc, h, hu, hb, ht => by
    simp only [coR, Option.some.injEq] at hc; subst hc
    simp only [sregD] at h
    exact ⟨[], s, h, ⟨rfl, hu, hb, by simp, by simp, ⟨fun x => rfl, rfl⟩, by simp⟩⟩
  | o :: r, cs, pre, lg, req, s, hc, h, hu, hb, ht => by
    simp only [coR] at hc
    obtain ⟨hchk, hc⟩ := cond_some hc
    simp only [Bool.and_eq_true, Bool.not_true, Bool.false_or] at hchk
    have hdst : ∀ d, o.dst = some d → d < nt := fun d hd => by
      have := hchk.1
      rw [hd] at this; exact nlt this
    have hedge : ∀ x ∈ o.after, Region.binds .any x = true → x.on < pre.length := fun x hx hbx => by
      have := List.all_eq_true.1 hchk.2 x (by simpa using hx)
      simp only [hbx, Bool.not_true, Bool.false_or, List.length_map] at this
      exact nlt this
    split at hc
    · rename_i c l hco hr
      simp only [cond_true] at hr hc
      have main : ∀ (g : Option (Nat × Bool)), GuardOK all o ⟨o.dst, c, g, ancOf (pre.map (·.c.anc)) o⟩ → cs = ⟨o.dst, c, g, ancOf (pre.map (·.c.anc)) o⟩ :: l → ∃ (es : List En) (sf : SS), k sf = some out ∧ Trc P A nt all pre (o :: r) cs s es sf := by
        intro g hgd hcs
        subst hcs
        simp only [sregD] at h
        obtain ⟨hreq, h⟩ := cond_some h
        have run : ∀ (s1 : SS), Uniq s1.t → (∀ p ∈ s1.t, p.1 < nt) → (∀ x, lk s1.t x = lk s.t x) → s1.h = s.h → (∀ v ls s' kd, runs ⟨⟨o.dst, c, g, ancOf (pre.map (·.c.anc)) o⟩, s1, v, ls, s', kd⟩ true) →
            dop env A ⟨o.dst, c, g, ancOf (pre.map (·.c.anc)) o⟩ pre.length lg req s1 (fun v lg req s' => sregD env A l (pre.length + 1) lg req ⟨putD o.dst v s'.t, s'.h⟩ k) = some out →
            ∃ (es : List En) (sf : SS), k sf = some out ∧ Trc P A nt all pre (o :: r) (⟨o.dst, c, g, ancOf (pre.map (·.c.anc)) o⟩ :: l) s es sf := by
          intro s1 hu1 hb1 hl1 hh1 hr1 h1
          obtain ⟨e, lg', req', s2, h2, e1, e2, e3, hok, hp, ht', hu2, hb2⟩ := dop_sound (P := P) (o := o) (nt := nt) he rfl hchk.1 hco hu1 hb1 hr1 ht hreq h1
          have e1' := e1
          obtain ⟨es, sf, hk, T⟩ := sregD_trace he r l (pre ++ [e]) lg' req' ⟨putD o.dst e.v s2.t, s2.h⟩ (by simpa [e1] using hr) (by simpa using h2) (putD_uniq (d := o.dst) (x := e.v) hu2).1 (putD_bnd (d := o.dst) (v := e.v) hu2 hb2 hchk.1) ht'
          rw [e3.symm.trans rfl |> fun _ => show (⟨putD o.dst e.v s2.t, s2.h⟩ : SS) = e.s' from e3.symm] at T
          exact ⟨e :: es, sf, hk, T.cons ⟨fun x => by rw [e2]; exact hl1 x, by rw [e2]; exact hh1⟩ hok (by rw [e1]; exact hgd) e1.symm (by rw [e1]) hedge hdst hp⟩
        have skip : ∀ (s1 : SS), Uniq s1.t → (∀ p ∈ s1.t, p.1 < nt) → (∀ x, lk s1.t x = lk s.t x) → s1.h = s.h → (∀ v ls s' kd, runs ⟨⟨o.dst, c, g, ancOf (pre.map (·.c.anc)) o⟩, s1, v, ls, s', kd⟩ false) →
            sregD env A l (pre.length + 1) lg req ⟨putD o.dst (.tup []) s1.t, s1.h⟩ k = some out →
            ∃ (es : List En) (sf : SS), k sf = some out ∧ Trc P A nt all pre (o :: r) (⟨o.dst, c, g, ancOf (pre.map (·.c.anc)) o⟩ :: l) s es sf := by
          intro s1 hu1 hb1 hl1 hh1 hr1 h1
          let e : En := ⟨⟨o.dst, c, g, ancOf (pre.map (·.c.anc)) o⟩, s1, .tup [], [], ⟨putD o.dst (.tup []) s1.t, s1.h⟩, 0⟩
          have ht' : Told (pre ++ [e]) lg req := ht.cons (fun _ h => h) (fun _ h => h) (.inl ⟨rfl, rfl⟩)
          obtain ⟨es, sf, hk, T⟩ := sregD_trace he r l (pre ++ [e]) lg req ⟨putD o.dst (.tup []) s1.t, s1.h⟩ (by simpa [e] using hr) (by simpa using h1) (putD_uniq (d := o.dst) (x := .tup []) hu1).1 (putD_bnd (d := o.dst) (v := .tup []) hu1 hb1 hchk.1) ht'
          exact ⟨e :: es, sf, hk, Trc.cons (e := e) T ⟨hl1, hh1⟩ ⟨hu1, hb1, rfl, .inl ⟨rfl, hr1 _ _ _ _, rfl, rfl, rfl⟩⟩ hgd rfl rfl hedge hdst (pair_of ht hreq (.inl ⟨.inl rfl, rfl⟩))⟩
        rcases g with _ | ⟨d, want⟩
        · exact run s hu hb (fun _ => rfl) rfl (fun _ _ _ _ => by simp [runs]) h
        · dsimp only at h
          split at h
          · rename_i b hlb
            have hbd : ∀ v, ∀ p ∈ stt s.t d v, p.1 < nt := fun v p hp => by
              rcases (stt_uniq hu).2 p hp with rfl | ⟨_, h⟩
              · exact hb (d, lk s.t d) (lk_mem (n := d) (t := s.t) (by rw [hlb]; simp))
              · exact hb p h
            rcases br_some h with ⟨rfl, h⟩ | ⟨rfl, h⟩
            · have hl : ∀ x, lk (stt s.t d (.d (.v (.bool true)))) x = lk s.t x := fun x => by
                rw [lk_stt]; split
                · rename_i e; subst e; exact hlb.symm
                · rfl
              cases want with
              | true => exact run ⟨_, s.h⟩ (stt_uniq hu).1 (hbd _) hl rfl (fun _ _ _ _ => by simp only [runs]; exact .inl ⟨true, by rw [hl]; exact hlb, rfl⟩) h
              | false => exact skip ⟨_, s.h⟩ (stt_uniq hu).1 (hbd _) hl rfl (fun _ _ _ _ => by simp only [runs]; exact .inl ⟨true, by rw [hl]; exact hlb, rfl⟩) h
            · have hl : ∀ x, lk (stt s.t d (.d (.v (.bool false)))) x = lk s.t x := fun x => by
                rw [lk_stt]; split
                · rename_i e; subst e; exact hlb.symm
                · rfl
              cases want with
              | true => exact skip ⟨_, s.h⟩ (stt_uniq hu).1 (hbd _) hl rfl (fun _ _ _ _ => by simp only [runs]; exact .inl ⟨false, by rw [hl]; exact hlb, rfl⟩) h
              | false => exact run ⟨_, s.h⟩ (stt_uniq hu).1 (hbd _) hl rfl (fun _ _ _ _ => by simp only [runs]; exact .inl ⟨false, by rw [hl]; exact hlb, rfl⟩) h
          · rename_i hlb
            exact skip s hu hb (fun _ => rfl) rfl (fun _ _ _ _ => by simp only [runs]; exact .inr ⟨hlb, trivial⟩) h
          · simp at h
      split at hc
      · rename_i hgd
        simp only [Option.some.injEq] at hc
        exact main none (by simp [GuardOK, hgd]) hc.symm
      · rename_i j want hgd
        split at hc
        · rename_i d hd
          simp only [Option.some.injEq] at hc
          exact main (some (d, want)) (by simp only [GuardOK, hgd]; exact ⟨d, hd, rfl⟩) hc.symm
        · simp at hc
    · simp at hc
end
end Go.Sx
