/- Regions that draw their order, fourth part: one operation in any order; all of them. -/
import Derived.Test.YtaejdljgfmclpaaGreatSxDraw3
set_option linter.all false
set_option linter.unusedVariables false
set_option linter.unusedSimpArgs false
set_option linter.unnecessarySimpa false
namespace Go.Sx

theorem yielded_at {all : List Oper} {ops : Array Oper} (hops : ops.toList = all) {j d : Nat} (hd : (all[j]?).bind (·.dst) = some d) {tm : Array Value} {b : Bool} (h1 : d < tm.size) (h3 : tm.getD d undef = .bool b) : yielded ops tm j = some b := by
  unfold yielded
  have : ops[j]? = all[j]? := by rw [← hops]; simp
  rw [this, hd]
  simp only [Option.bind_some]
  rw [Array.getElem?_eq_getElem h1]
  rw [Array.getD_eq_getD_getElem?, Array.getElem?_eq_getElem h1] at h3
  simp only [Option.getD_some] at h3
  rw [h3]

theorem yielded_at_tup {all : List Oper} {ops : Array Oper} (hops : ops.toList = all) {j d : Nat} (hd : (all[j]?).bind (·.dst) = some d) {tm : Array Value} {cx : Cx} {w : World} (h1 : d < tm.size) (h2 : SRep cx w (.tup []) (tm.getD d undef)) : yielded ops tm j = none := by
  simp only [SRep] at h2
  obtain ⟨c', h3, _⟩ := h2
  unfold yielded
  have : ops[j]? = all[j]? := by rw [← hops]; simp
  rw [this, hd]
  simp only [Option.bind_some]
  rw [Array.getElem?_eq_getElem h1]
  rw [Array.getD_eq_getD_getElem?, Array.getElem?_eq_getElem h1] at h3
  simp only [Option.getD_some] at h3
  rw [h3]

theorem locs_lt {cx : Cx} {w : World} {x : SV} {u : Value} (h : SRep cx w x u) : ∀ l ∈ locsOf x, l < cx.n := by
  intro l hl
  cases x <;> simp only [locsOf, List.mem_singleton, List.not_mem_nil] at hl
  all_goals subst hl; simp only [SRep] at h; exact h.1

section
variable {P : Program} {A : Ann} {nt : Nat} {ops : Array Oper} {cs : List CR} {s : SS} {es : List En} {sf : SS}

/-- What is known where operation j comes up. -/
structure Up (es : List En) (sf : SS) (D : Nat → Bool) (e : En) (j b p : Nat) (cx : Cx) (w : World) (tm : Array Value) : Prop where
  bj : b ≤ j
  anc : ∀ x, Nat.testBit e.c.anc x = true → D x = true
  above : ∀ i, D i = true → Nat.testBit (ancE es i) j = false
  look : ∀ x ∈ looks e.c, Good cx w tm x (lk e.s.t x)

theorem Trc.nopiv (T : Trc P A nt ops.toList [] ops.toList cs s es sf) {D : Nat → Bool} {cx : Cx} {w : World} {tm : Array Value} {b p : Nat} (I : Inv nt es sf D cx w tm b p) {j : Nat} {e : En}
    (he : es[j]? = some e) (hA : ∀ x, Nat.testBit e.c.anc x = true → D x = true) : ∀ i, i < j - b → kdE es (b + i) ≠ 3 := fun i hi h3 => by
  have hj := (List.getElem?_eq_some_iff.1 he).1
  have hei : es[b + i]? = some es[b + i] := List.getElem?_eq_getElem (by omega)
  simp only [kdE, hei] at h3
  have hD' : D (b + i) = true := by
    rcases T.pair j e he (b + i) _ (by simp; omega) (by rw [List.nil_append]; exact hei) with h | ⟨_, h, _⟩
    · exact hA _ h
    · exact absurd h3 h
  exact I.piv (b + i) (by omega) hD' (by simp only [kdE, hei]; exact h3)

/-- A temporary that all ahead have written, and none behind. -/
theorem Trc.val (T : Trc P A nt ops.toList [] ops.toList cs s es sf) {D : Nat → Bool} {cx : Cx} {w : World} {tm : Array Value} {b p : Nat} (I : Inv nt es sf D cx w tm b p) {j : Nat} {e : En}
    (he : es[j]? = some e) (hbj : b ≤ j) (hA : ∀ x, Nat.testBit e.c.anc x = true → D x = true) {x : Nat} (hbefore : ∀ i, i < j → dstE es i = some x → D i = true) (hafter : ∀ i, j ≤ i → dstE es i = some x → D i = false) :
    K es D (lk (stA es sf b).t) b (es.length - b) x = lk e.s.t x := by
  have hj := (List.getElem?_eq_some_iff.1 he).1
  have hpiv := T.nopiv I he hA
  have e1 : es.length - b = (j - b) + (es.length - j) := by omega
  rw [e1, K_skip (es.length - j) (fun i a1 _ a3 => hafter (b + i) (by omega) a3), K_congr (D' := fun _ => true) (j - b) (fun i a1 a2 => hbefore (b + i) (by omega) a2), K_seq T (j - b) hpiv (by omega), show b + (j - b) = j by omega, stA_some he]

theorem Trc.up (T : Trc P A nt ops.toList [] ops.toList cs s es sf) (hap : apartAll cs [] 0 = true) {D : Nat → Bool} {cx : Cx} {w : World} {tm : Array Value} {b p : Nat} (I : Inv nt es sf D cx w tm b p) {j : Nat} {o : Oper} {e : En}
    (ho : ops[j]? = some o) (he : es[j]? = some e) (hD : D j = false) (hr : ∀ x ∈ o.after, Region.binds .any x = true → D x.on = true) : Up es sf D e j b p cx w tm := by
  have hj := (List.getElem?_eq_some_iff.1 he).1
  obtain ⟨o', e', h1, h2, hok, hgd, hcs, hanc, hedge, hdst⟩ := T.get hj
  rw [he] at h2; simp only [Option.some.injEq] at h2; subst h2
  rw [ho] at h1; simp only [Option.some.injEq] at h1; subst h1
  have hbj : b ≤ j := by
    rcases Nat.lt_or_ge j b with h | h
    · rw [I.low j h] at hD; cases hD
    · exact h
  have hA : ∀ x, Nat.testBit e.c.anc x = true → D x = true := fun x hx => by
    rw [hanc] at hx
    obtain ⟨ed, h3, h4, h5⟩ := ancOf_bit hx
    have h6 := hr ed h3 h4
    rcases h5 with rfl | h5
    · exact h6
    · have h7 := hedge ed h3 h4
      refine I.clo ed.on h6 x ?_
      have : ((es.take j).map (·.c.anc)).getD ed.on 0 = ancE es ed.on := by
        rw [List.getD_eq_getElem?_getD, List.getElem?_map, List.getElem?_take_of_lt h7]
        unfold ancE
        cases es[ed.on]? <;> rfl
      rw [this] at h5; exact h5
  have hB : ∀ i, D i = true → Nat.testBit (ancE es i) j = false := fun i hi => by
    cases hb : Nat.testBit (ancE es i) j with
    | false => rfl
    | true => rw [I.clo i hi j hb] at hD; cases hD
  refine ⟨hbj, hA, hB, fun x hx => ?_⟩
  have hcs' : ∀ (i : Nat) (e' : En), es[i]? = some e' → cs[i]? = some e'.c := fun i e' hi => by
    obtain ⟨_, e'', _, h4, _, _, h5, _⟩ := T.get (List.getElem?_eq_some_iff.1 hi).1
    rw [hi] at h4; simp only [Option.some.injEq] at h4; subst h4; exact h5
  -- those with this temporary
  have hbefore : ∀ i, i < j → dstE es i = some x → D i = true := fun i hij hd => by
    have hei : es[i]? = some es[i] := List.getElem?_eq_getElem (by omega)
    simp only [dstE, hei, Option.bind_some] at hd
    rcases apartAll_of (i := i) (j := j) (l := cs) (rev := []) hap rfl hij (by simpa using hcs' i _ hei) (by simpa using hcs' j _ he) (by omega) with h | h
    · exact hA i h
    · simp only [Sx.apart, Bool.and_eq_true] at h
      have h3 := h.1
      rw [hd] at h3
      simp only [notIn, Bool.not_eq_true'] at h3
      exact absurd hx (nmem_iff.1 h3)
  have hafter : ∀ i, j ≤ i → dstE es i = some x → D i = false := fun i hji hd => by
    cases hDi : D i with
    | false => rfl
    | true =>
      have hne : i ≠ j := fun e => by rw [e, hD] at hDi; cases hDi
      cases hei' : es[i]? with
      | none => simp [dstE, hei'] at hd
      | some ei =>
        simp only [dstE, hei', Option.bind_some] at hd
        have hBi := hB i hDi
        simp only [ancE, hei'] at hBi
        rcases apartAll_of (i := j) (j := i) (l := cs) (rev := []) hap rfl (by omega) (by simpa using hcs' j _ he) (by simpa using hcs' i _ hei') (by omega) with h | h
        · rw [hBi] at h; cases h
        · simp only [Sx.apart, Bool.and_eq_true] at h
          have h3 := h.2.1
          rw [hd] at h3
          simp only [notIn, Bool.not_eq_true'] at h3
          exact absurd hx (nmem_iff.1 h3)
  have h3 := I.tmp x
  rw [T.val I he hbj hA hbefore hafter] at h3
  exact h3

theorem Up.need {cx : Cx} {w : World} {tm : Array Value} {D : Nat → Bool} {e : En} {j b p : Nat} (U : Up es sf D e j b p cx w tm) (hu : Uniq e.s.t) (hb : ∀ q ∈ e.s.t, q.1 < tm.size) : TRep cx w (needOf e) tm := by
  intro i x hx
  obtain ⟨h1, h2⟩ := keepT_mem hx
  have h3 := U.look i (by
    unfold looks
    split
    · exact List.mem_cons_of_mem _ h1
    · exact h1)
  rw [uniq_lk hu h2] at h3
  rcases h3 with h3 | h3
  · exact ⟨hb _ h2, by rw [h3]; exact SRep.anyTop _ _ _⟩
  · exact h3

theorem Up.wanted {cx : Cx} {w : World} {tm : Array Value} {D : Nat → Bool} {e : En} {j b p : Nat} (U : Up es sf D e j b p cx w tm) {o : Oper} (hg : GuardOK ops.toList o e.c) {r : Bool} (hr : runs e r) : Region.wanted o (yielded ops tm) = r := by
  unfold GuardOK at hg
  unfold runs at hr
  unfold Region.wanted
  split at hg
  · rename_i h; rw [hg] at hr; simp [h, hr]
  · rename_i j' w' h
    obtain ⟨d, h1, h2⟩ := hg
    rw [h2] at hr
    rcases hr with ⟨x, h3, h4⟩ | ⟨h3, h4⟩
    rotate_left
    · have h5 := U.look d (by simp [looks, h2])
      rw [h3] at h5
      rcases h5 with h5 | ⟨h5, h6⟩
      · cases h5
      · have h7 := yielded_at_tup (ops := ops) rfl h1 h5 h6
        simp [h, h7, h4]
    have h5 := U.look d (by simp [looks, h2])
    rw [h3] at h5
    rcases h5 with h5 | ⟨h5, h6⟩
    · cases h5
    · have h7 := yielded_at (ops := ops) rfl h1 h5 (bool_of h6)
      simp only [h, h7, h4]
      cases x <;> cases w' <;> rfl
end
end Go.Sx

/- Regions that draw their order, fifth part: the step, and all orders. -/
namespace Go.Sx

section
variable {P : Program} {A : Ann} {nt : Nat} {ops : Array Oper} {cs : List CR} {s : SS} {es : List En} {sf : SS}

def addD (D : Nat → Bool) (j : Nat) : Nat → Bool := fun i => D i || i == j

theorem addD_ne {D : Nat → Bool} {i j : Nat} (h : i ≠ j) : addD D j i = D i := by simp [addD, h]
theorem addD_eq {D : Nat → Bool} {j : Nat} : addD D j j = true := by simp [addD]

theorem Trc.pairs (T : Trc P A nt ops.toList [] ops.toList cs s es sf) {i j : Nat} {e e' : En} (hij : i < j) (he' : es[i]? = some e') (he : es[j]? = some e) : PairOK i e' e :=
  T.pair j e he i e' (by simp; omega) (by rw [List.nil_append]; exact he')

theorem Trc.apts (T : Trc P A nt ops.toList [] ops.toList cs s es sf) (hap : apartAll cs [] 0 = true) {i j : Nat} {e e' : En} (hij : i < j) (he' : es[i]? = some e') (he : es[j]? = some e) : Nat.testBit e.c.anc i = true ∨ apart e'.c e.c = true := by
  have hcs' : ∀ (i : Nat) (e' : En), es[i]? = some e' → cs[i]? = some e'.c := fun i e' hi => by
    obtain ⟨_, e'', _, h4, _, _, h5, _⟩ := T.get (List.getElem?_eq_some_iff.1 hi).1
    rw [hi] at h4; simp only [Option.some.injEq] at h4; subst h4; exact h5
  exact apartAll_of (i := i) (j := j) (l := cs) (rev := []) hap rfl hij (by simpa using hcs' i _ he') (by simpa using hcs' j _ he) (by omega)

/-- Temporaries behind an operation that scrubs none. -/
theorem tmp_step (T : Trc P A nt ops.toList [] ops.toList cs s es sf) (hap : apartAll cs [] 0 = true) {D : Nat → Bool} {cx cx' : Cx} {w w' : World} {a : Act} {b p : Nat} (I : Inv nt es sf D cx w a.tmps b p) {j : Nat} {o : Oper} {e : En}
    (he : es[j]? = some e) (hdst : o.dst = e.c.dst) (hds : ∀ d, o.dst = some d → d < nt) (U : Up es sf D e j b p cx w a.tmps) (gr : Grow0 cx w cx' w') {v' : Value} (hv : SRep cx' w' e.v v') (x : Nat) :
    Good cx' w' (a.put o.dst v').tmps x (K es (addD D j) (lk (stA es sf b).t) b (es.length - b) x) := by
  have hj := (List.getElem?_eq_some_iff.1 he).1
  have hbj := U.bj
  by_cases hd : dstE es j = some x
  · have hd' : o.dst = some x := by rw [hdst]; simpa [dstE, he] using hd
    have hx : x < a.tmps.size := by rw [I.size]; exact hds x hd'
    have hafter : ∀ i, j < i → dstE es i = some x → addD D j i = false := fun i hji hdi => by
      rw [addD_ne (by omega)]
      cases hDi : D i with
      | false => rfl
      | true =>
        cases hei' : es[i]? with
        | none => simp [dstE, hei'] at hdi
        | some ei =>
          have hBi := U.above i hDi
          simp only [ancE, hei'] at hBi
          rcases T.apts hap hji he hei' with h | h
          · rw [hBi] at h; cases h
          · simp only [Sx.apart, Bool.and_eq_true] at h
            have h3 := h.2.2
            simp only [dstE, hei', he, Option.bind_some] at hdi hd
            rw [hdi, hd] at h3
            simp at h3
    have e1 : es.length - b = (j - b + 1) + (es.length - j - 1) := by omega
    have e2 : K es (addD D j) (lk (stA es sf b).t) b (es.length - b) x = e.v := by
      rw [e1, K_skip _ (fun i a1 _ a3 => hafter (b + i) (by omega) a3)]
      simp only [K]
      rw [show b + (j - b) = j by omega, if_pos ⟨addD_eq, hd⟩]
      simp [valE, he]
    rw [e2]
    refine .inr ⟨by rw [put_size]; exact hx, ?_⟩
    rw [hd', put_get_eq hx]; exact hv
  · have e2 : K es (addD D j) (lk (stA es sf b).t) b (es.length - b) x = K es D (lk (stA es sf b).t) b (es.length - b) x :=
      K_congr _ fun i _ h => addD_ne (fun e1 => hd (by rw [← e1]; exact h))
    rw [e2]
    have hne : o.dst ≠ some x := fun h => hd (by simpa [dstE, he, ← hdst] using h)
    rcases (I.tmp x).grow gr with h | ⟨h1, h2⟩
    · exact .inl h
    · exact .inr ⟨by rw [put_size]; exact h1, by rw [put_get_ne hne]; exact h2⟩

theorem clo_step {D : Nat → Bool} {cx : Cx} {w : World} {tm : Array Value} {b p : Nat} (I : Inv nt es sf D cx w tm b p) {j : Nat} {e : En} (he : es[j]? = some e) (U : Up es sf D e j b p cx w tm) :
    ∀ i, addD D j i = true → ∀ x, Nat.testBit (ancE es i) x = true → addD D j x = true := by
  intro i hi x hx
  by_cases h : i = j
  · subst h
    simp only [ancE, he] at hx
    simp [addD, U.anc x hx]
  · rw [addD_ne h] at hi
    simp [addD, I.clo i hi x hx]

/-- Where an effect comes up, and all effects ahead of it have been. -/
theorem eff_heap (T : Trc P A nt ops.toList [] ops.toList cs s es sf) {D : Nat → Bool} {cx : Cx} {w : World} {tm : Array Value} {b p : Nat} (I : Inv nt es sf D cx w tm b p) {j : Nat} {e : En}
    (he : es[j]? = some e) (hD : D j = false) (hk : 2 ≤ e.kd) (hpre : ∀ i, i < j → 2 ≤ kdE es i → D i = true) : p ≤ j ∧ (stA es sf p).h = e.s.h := by
  have hj := (List.getElem?_eq_some_iff.1 he).1
  have hpj : p ≤ j := by
    rcases Nat.lt_or_ge j p with h | h
    · have := (I.eff j hj (by simp only [kdE, he]; exact hk)).2 h
      rw [hD] at this; cases this
    · exact h
  refine ⟨hpj, ?_⟩
  have := heap_const T (p := p) (j - p) (by omega) (fun i a1 a2 => by
    rcases Nat.lt_or_ge (kdE es i) 2 with h | h
    · exact h
    · have h3 := hpre i (by omega) h
      have h4 := (I.eff i (by omega) h).1 h3
      omega)
  rw [show p + (j - p) = j by omega, stA_some he] at this
  exact this.symm

theorem eff_post {D : Nat → Bool} {cx : Cx} {w : World} {tm : Array Value} {b p : Nat} (I : Inv nt es sf D cx w tm b p) {j : Nat} {e : En}
    (he : es[j]? = some e) (hD : D j = false) (hk : 2 ≤ e.kd) : ∀ i, j < i → i < es.length → 2 ≤ kdE es i → D i = false := fun i hij hil hi => by
  cases hDi : D i with
  | false => rfl
  | true =>
    have h1 := (I.eff i hil hi).1 hDi
    have h2 := (I.eff j (by omega) (by simp only [kdE, he]; exact hk)).2 (by omega)
    rw [hD] at h2; cases h2

theorem inv_eff (T : Trc P A nt ops.toList [] ops.toList cs s es sf) (hap : apartAll cs [] 0 = true) {D : Nat → Bool} {cx cx' : Cx} {w w' : World} {a : Act} {b p : Nat} (I : Inv nt es sf D cx w a.tmps b p) {j : Nat} {o : Oper} {e : En}
    (he : es[j]? = some e) (hdst : o.dst = e.c.dst) (hds : ∀ d, o.dst = some d → d < nt) (U : Up es sf D e j b p cx w a.tmps) (hD : D j = false) (k2 : e.kd = 2) (hpre : ∀ i, i < j → 2 ≤ kdE es i → D i = true)
    (gr : Grow0 cx w cx' w') {v' : Value} (hv : SRep cx' w' e.v v') (hG' : Gam cx' e.s'.h w') : Inv nt es sf (addD D j) cx' w' (a.put o.dst v').tmps b (j + 1) := by
  have hj := (List.getElem?_eq_some_iff.1 he).1
  have hkd : kdE es j = e.kd := by simp [kdE, he]
  have hpost := eff_post I he hD (by omega)
  refine ⟨I.ble, by omega, fun i hi => by simp [addD, I.low i hi], fun i hi hDi => ?_, fun i hi h2 => ?_, clo_step I he U, by rw [(T.link j e he).2]; exact hG', fun x => tmp_step T hap I he hdst hds U gr hv x, by rw [put_size]; exact I.size⟩
  · by_cases h : i = j
    · subst h; rw [hkd]; omega
    · rw [addD_ne h] at hDi; exact I.piv i hi hDi
  · by_cases h : i = j
    · subst h; simp [addD]
    · rw [addD_ne h]
      rcases Nat.lt_or_ge i j with h3 | h3
      · simp [hpre i h3 h2]; omega
      · simp [hpost i (by omega) hi h2]; omega

theorem draw_op (T : Trc P A nt ops.toList [] ops.toList cs s es sf) (hap : apartAll cs [] 0 = true) {D : Nat → Bool} {cx : Cx} {w : World} {a : Act} {b p : Nat} (I : Inv nt es sf D cx w a.tmps b p) {j : Nat} {o : Oper}
    (ho : ops[j]? = some o) (hj : j < es.length) (hD : D j = false) (hr : ∀ x ∈ o.after, Region.binds .any x = true → D x.on = true) (hE : kdE es j = 2 → ∀ i, i < j → kdE es i = 2 → D i = true) {Q : Exit → Act → World → Prop} {KK : Act → World → Prop}
    (hk : ∀ cx' w' v' b' p', Grow A.p cx w cx' w' → Inv nt es sf (addD D j) cx' w' (a.put o.dst v').tmps b' p' → KK (a.put o.dst v') w') :
    if Region.wanted o (yielded ops a.tmps) then o.wp P a w KK Q ∨ (o.asks P a w ∧ LetsOut Q) else KK (a.put o.dst undef) w := by
  obtain ⟨o', e, h1, he, hok, hgd, hcs, hanc, hedge, hdst⟩ := T.get hj
  rw [ho] at h1; simp only [Option.some.injEq] at h1; subst h1
  have U := T.up hap I ho he hD hr
  have hclo := clo_step I he U
  have hnb : ∀ q ∈ e.s.t, q.1 < a.tmps.size := fun q hq => by rw [I.size]; exact hok.bnd q hq
  have hneed : TRep cx w (needOf e) a.tmps := U.need hok.uniq hnb
  have hkd : kdE es j = e.kd := by simp [kdE, he]
  have hbj := U.bj
  -- an effect ahead of j in the text has been, where j is an effect
  have hpre : 2 ≤ e.kd → ∀ i, i < j → 2 ≤ kdE es i → D i = true := fun h2 i hij hi => by
    have hei : es[i]? = some es[i] := List.getElem?_eq_getElem (by omega)
    have hi' := hi
    simp only [kdE, hei] at hi
    rcases T.pairs hij hei he with h | ⟨h4, h5, h6, _⟩
    · exact U.anc i h
    · have hb1 : e.kd ≤ 3 := by rcases hok.kind with h | h | h | h <;> omega
      obtain ⟨_, e'', _, q2, hok', _⟩ := T.get (i := i) (by omega)
      rw [hei] at q2; simp only [Option.some.injEq] at q2; subst q2
      have hb2 : es[i].kd ≤ 3 := by rcases hok'.kind with h | h | h | h <;> omega
      exact hE (by rw [hkd]; omega) i hij (by simp only [kdE, hei]; omega)
  have hheap : 2 ≤ e.kd → p ≤ j ∧ (stA es sf p).h = e.s.h := fun h2 => eff_heap T I he hD h2 (hpre h2)
  rcases hok.kind with ⟨k0, hrun, hv, hls, hs'⟩ | ⟨k1, hrun, hs', hls, hm, hhm, hst⟩ | ⟨k2, hrun, hs', hkp, hop⟩ | ⟨k3, hrun, hpa, t1, hsub, hs', hop⟩
  · -- not wanted
    rw [U.wanted hgd hrun, if_neg (by simp)]
    refine hk cx w _ b p (Grow.refl _ _ _) ⟨I.ble, I.ple, fun i hi => by simp [addD, I.low i hi], fun i hi hDi => ?_, fun i hi h2 => ?_, hclo, I.gam, fun x => tmp_step T hap I he hok.dst hdst U (Grow.refl _ _ _) (by rw [hv]; exact srep_undef _ _) x, by rw [put_size]; exact I.size⟩
    · by_cases h : i = j
      · subst h; rw [hkd]; omega
      · rw [addD_ne h] at hDi; exact I.piv i hi hDi
    · have : i ≠ j := fun e1 => by subst e1; omega
      rw [addD_ne this]; exact I.eff i hi h2
  · -- it looks
    rw [U.wanted hgd hrun, if_pos rfl]
    left
    have hseen : Seen cx hm w := ⟨fun l => by
      rcases hhm l with h | ⟨h, h'⟩
      · rw [h]; trivial
      · rw [h']
        obtain ⟨n, hn, hln⟩ := hls l h
        have hgo := U.look n (by
          unfold looks
          split
          · exact List.mem_cons_of_mem _ hn
          · exact hn)
        rcases hgo with hgo | ⟨_, hgo⟩
        · rw [hgo] at hln; simp [locsOf] at hln
        · have hlt := locs_lt hgo l hln
          rw [I.gam.n] at hlt
          have hobj := I.gam.obj l
          rcases Nat.le_total p j with hpj | hpj
          · have := heap_fwd T hlt (j - p) (by omega) (fun i ei a1 a2 hei => by
              have hDi : ei.kd = 2 ∨ ei.kd = 3 → D i = false := fun h2 => by
                cases hDi : D i with
                | false => rfl
                | true => have := (I.eff i (by omega) (by simp only [kdE, hei]; omega)).1 hDi; omega
              have hna : ei.kd = 2 ∨ ei.kd = 3 → ¬ Nat.testBit e.c.anc i = true := fun h2 hb => by
                rw [U.anc i hb] at hDi; exact absurd (hDi h2) (by simp)
              rcases T.pairs (by omega) hei he with hb | ⟨_, h5, _, h7⟩
              · exact ⟨fun h3 => hna (.inr h3) hb, fun h3 => absurd hb (hna (.inl h3))⟩
              · exact ⟨h5, fun h3 => h7 (.inr h3) l h⟩)
            rw [show p + (j - p) = j by omega, stA_some he] at this
            rw [this.1]; exact hobj
          · rcases Nat.lt_or_ge l e.s.h.length with hl2 | hl2
            · have := heap_fwd T (p := j) (l := l) (by rw [stA_some he]; exact hl2) (p - j) (by have := I.ple; omega) (fun i ei a1 a2 hei => by
                by_cases hij : i = j
                · subst hij
                  rw [he] at hei; simp only [Option.some.injEq] at hei; subst hei
                  exact ⟨by omega, fun h3 => by omega⟩
                · have hil := (List.getElem?_eq_some_iff.1 hei).1
                  have hDi : ei.kd = 2 ∨ ei.kd = 3 → D i = true := fun h2 => (I.eff i hil (by simp only [kdE, hei]; omega)).2 (by omega)
                  refine ⟨fun h3 => I.piv i (by omega) (hDi (.inr h3)) (by simp only [kdE, hei]; exact h3), fun h3 => ?_⟩
                  have hBi := U.above i (hDi (.inl h3))
                  simp only [ancE, hei] at hBi
                  rcases T.pairs (by omega) he hei with hb | ⟨_, _, _, h7⟩
                  · rw [hBi] at hb; cases hb
                  · exact fun hmem => h7 (.inl h3) l hmem h)
              rw [show j + (p - j) = p by omega, stA_some he] at this
              rw [← this.1]; exact hobj
            · rw [hget_ge hl2]; trivial⟩
    refine hst cx w a _ I.gam hseen hneed _ _ fun cx' w' v' gr hv hG' => ?_
    refine hk cx' w' _ b p gr.to ⟨I.ble, I.ple, fun i hi => by simp [addD, I.low i hi], fun i hi hDi => ?_, fun i hi h2 => ?_, hclo, hG', fun x => tmp_step T hap I he hok.dst hdst U gr hv x, by rw [put_size]; exact I.size⟩
    · by_cases h : i = j
      · subst h; rw [hkd]; omega
      · rw [addD_ne h] at hDi; exact I.piv i hi hDi
    · have : i ≠ j := fun e1 => by subst e1; omega
      rw [addD_ne this]; exact I.eff i hi h2
  · -- an effect
    rw [U.wanted hgd hrun, if_pos rfl]
    left
    obtain ⟨hpj, hh⟩ := hheap (by omega)
    have hG := I.gam
    rw [hh] at hG
    exact hop cx w a hG hneed _ _ fun cx' w' v' gr hv _ hG' => hk cx' w' _ b (j + 1) gr.to (inv_eff T hap I he hok.dst hdst U hD k2 (hpre (by omega)) gr hv hG')
  · -- a pivot
    rw [U.wanted hgd hrun, if_pos rfl]
    left
    obtain ⟨hpj, hh⟩ := hheap (by omega)
    have hG := I.gam
    rw [hh] at hG
    have hall : ∀ i, i < j → D i = true := fun i hi => U.anc i (bit_pivot hpa hi)
    have hnone : ∀ i, j ≤ i → i < es.length → D i = false := fun i hji hil => by
      by_cases h : i = j
      · rw [h]; exact hD
      · cases hDi : D i with
        | false => rfl
        | true =>
          have hei : es[i]? = some es[i] := List.getElem?_eq_getElem hil
          have hBi := U.above i hDi
          simp only [ancE, hei] at hBi
          rcases T.pairs (by omega) he hei with hb | ⟨_, h5, _⟩
          · rw [hBi] at hb; cases hb
          · exact absurd k3 h5
    have hTR : TRep cx w e.s.t a.tmps := by
      intro x y hxy
      have hlk := uniq_lk hok.uniq hxy
      have hg := I.tmp x
      have hpv : ∀ i, i < j - b → kdE es (b + i) ≠ 3 := fun i hi => I.piv (b + i) (by omega) (hall (b + i) (by omega))
      rw [show es.length - b = (j - b) + (es.length - j) by omega, K_skip (es.length - j) (fun i a1 a2 _ => hnone (b + i) (by omega) (by omega)), K_congr (D' := fun _ => true) (j - b) (fun i a1 _ => hall (b + i) (by omega)), K_seq T (j - b) hpv (by omega), show b + (j - b) = j by omega, stA_some he, hlk] at hg
      rcases hg with hg | hg
      · exact ⟨hnb _ hxy, by rw [hg]; exact SRep.anyTop _ _ _⟩
      · exact hg
    refine hop cx w a hG hTR _ _ fun cx' w' v' gr hv ht' hG' => ?_
    have hnone' : ∀ i, j + 1 ≤ i → i < es.length → addD D j i = false := fun i h3 h4 => by
      rw [addD_ne (by omega)]; exact hnone i (by omega) h4
    refine hk cx' w' _ (j + 1) (j + 1) gr ⟨by omega, by omega, fun i hi => ?_, fun i hi hDi => ?_, fun i hi h2 => ?_, hclo, by rw [(T.link j e he).2]; exact hG', fun x => ?_, by rw [put_size]; exact I.size⟩
    · by_cases h : i = j
      · subst h; exact addD_eq
      · rw [addD_ne h]; exact hall i (by omega)
    · rcases Nat.lt_or_ge i es.length with h | h
      · rw [hnone' i hi h] at hDi; cases hDi
      · simp [kdE, List.getElem?_eq_none h]
    · by_cases h : i = j
      · subst h; simp [addD]
      · rw [addD_ne h]
        rcases Nat.lt_or_ge i j with h3 | h3
        · simp [hall i h3]; omega
        · simp [hnone i (by omega) hi]; omega
    · have e0 : es.length - (j + 1) = 0 + (es.length - (j + 1)) := by omega
      rw [e0, K_skip _ (fun i a1 a2 _ => hnone' (j + 1 + i) (by omega) (by omega))]
      simp only [K]
      rw [(T.link j e he).1, hs']
      have htp := TRep.put (v := e.v) (hok.uniq.sub hsub) ht' (d := o.dst) (fun d hd => by rw [I.size]; exact hdst d hd) hv
      rw [← hok.dst]
      by_cases ht : lk (putD o.dst e.v t1) x = .top
      · exact .inl ht
      · exact .inr (htp x _ (lk_mem ht))
end
end Go.Sx

/- Regions that draw their order, sixth part: all orders. -/
namespace Go.Sx

theorem countP_lt {α : Type} {p q : α → Bool} {x : α} : ∀ {l : List α}, (∀ y ∈ l, q y = true → p y = true) → x ∈ l → p x = true → q x = false → l.countP q < l.countP p
  | [], _, hx, _, _ => by simp at hx
  | y :: r, h, hx, hp, hq => by
    have hr : ∀ z ∈ r, q z = true → p z = true := fun z hz => h z (by simp [hz])
    have hle : r.countP q ≤ r.countP p := List.countP_mono_left hr
    simp only [List.countP_cons]
    rcases List.mem_cons.1 hx with rfl | hx
    · simp [hp, hq]; omega
    · have := countP_lt hr hx hp hq
      cases hqy : q y with
      | false => simp; split <;> omega
      | true => simp [h y (by simp) hqy]; omega

section
variable {P : Program} {A : Ann} {nt : Nat} {ops : Array Oper} {cs : List CR} {s : SS} {es : List En} {sf : SS}

theorem draw_end (T : Trc P A nt ops.toList [] ops.toList cs s es sf) {D : Nat → Bool} {cx : Cx} {w : World} {tm : Array Value} {b p : Nat} (I : Inv nt es sf D cx w tm b p) (hall : ∀ i, i < es.length → D i = true) : Gam cx sf.h w ∧ TRep cx w sf.t tm := by
  have hsf : stA es sf es.length = sf := by simp [stA]
  constructor
  · have := heap_const T (p := p) (es.length - p) (by have := I.ple; omega) (fun i a1 a2 => by
      rcases Nat.lt_or_ge (kdE es i) 2 with h | h
      · exact h
      · have h2 := (I.eff i (by omega) h).1 (hall i (by omega))
        omega)
    rw [show p + (es.length - p) = es.length by have := I.ple; omega, hsf] at this
    rw [this]; exact I.gam
  · intro x y hxy
    have hlk := uniq_lk T.uniq hxy
    have hg := I.tmp x
    have hb := I.ble
    rw [K_congr (D' := fun _ => true) (es.length - b) (fun i a1 _ => hall (b + i) (by omega)), K_seq T (es.length - b) (fun i a1 => I.piv (b + i) (by omega) (hall (b + i) (by omega))) (by omega), show b + (es.length - b) = es.length by omega, hsf, hlk] at hg
    rcases hg with hg | hg
    · exact ⟨by rw [I.size]; exact T.bnd _ hxy, by rw [hg]; exact SRep.anyTop _ _ _⟩
    · exact hg

/-- A block is laid ahead of its turn (i0): some effect ahead of it has not been. -/
structure Pend (nt : Nat) (ops : Array Oper) (es : List En) (sf : SS) (D : Nat → Bool) (cx : Cx) (w : World) (tm : Array Value) (b p i0 : Nat) (o : Oper) (e : En) (D' : Nat → Bool) (B d q : Nat) (t : TypeId) (z : List SV) : Prop where
  ho : ops[i0]? = some o
  he : es[i0]? = some e
  er : e.er = true
  eq : D = addD D' i0
  no : D' i0 = false
  inv : Inv nt es sf D' cx w tm b p
  rdy : ∀ x ∈ o.after, Region.binds .any x = true → D' x.on = true
  q1 : q < i0
  q2 : 2 ≤ kdE es q
  q3 : D' q = false
  dst : e.c.dst = some d
  v : e.v = .ptr e.s.h.length 0
  h' : e.s'.h = e.s.h ++ [.cells t z]
  tmv : tm.getD d undef = .pointer (some (ad B 0))
  free : Free cx (stA es sf p).h w B z

def PInv (nt : Nat) (ops : Array Oper) (es : List En) (sf : SS) (D : Nat → Bool) (cx : Cx) (w : World) (tm : Array Value) (b p : Nat) : Prop :=
  Inv nt es sf D cx w tm b p ∨ ∃ i0 o e D' B d q t z, Pend nt ops es sf D cx w tm b p i0 o e D' B d q t z

theorem Inv.ctx {D : Nat → Bool} {cx : Cx} {w : World} {tm : Array Value} {b p : Nat} (I : Inv nt es sf D cx w tm b p) {f : Nat → Prop} (g : Gam { cx with fr := f } (stA es sf p).h w) : Inv nt es sf D { cx with fr := f } w tm b p :=
  ⟨I.ble, I.ple, I.low, I.piv, I.eff, I.clo, g, fun x => (I.tmp x).imp id fun ⟨h1, h2⟩ => ⟨h1, h2.frm⟩, I.size⟩

theorem Inv.temps {D : Nat → Bool} {cx : Cx} {w : World} {tm tm' : Array Value} {b p : Nat} (I : Inv nt es sf D cx w tm b p) (hs : tm'.size = tm.size) (hg : ∀ x, tm'.getD x undef = tm.getD x undef) : Inv nt es sf D cx w tm' b p :=
  ⟨I.ble, I.ple, I.low, I.piv, I.eff, I.clo, I.gam, fun x => (I.tmp x).imp id fun ⟨h1, h2⟩ => ⟨by rw [hs]; exact h1, by rw [hg]; exact h2⟩, by rw [hs]; exact I.size⟩

theorem after_anc {acc : List Nat} {o : Oper} {x : Edge} (hx : x ∈ o.after) (hb : Region.binds .any x = true) : Nat.testBit (ancOf acc o) x.on = true := by
  unfold ancOf
  have : ∀ (l : List Edge) (s : Nat), (Nat.testBit s x.on = true ∨ x ∈ l) → Nat.testBit (l.foldl (fun s e => bif Region.binds .any e then s ||| (2 ^ e.on ||| acc.getD e.on 0) else s) s) x.on = true := by
    intro l
    induction l with
    | nil => intro s h; rcases h with h | h; exact h; simp at h
    | cons y r ih =>
      intro s h
      simp only [List.foldl_cons]
      refine ih _ ?_
      rcases h with h | h
      · left
        cases Region.binds .any y <;> simp [Nat.testBit_or, h]
      · rcases List.mem_cons.1 h with rfl | h
        · left; rw [hb, cond_true, Nat.testBit_or, Nat.testBit_or, Nat.testBit_two_pow_self]; simp
        · exact .inr h
  have := this o.after.toList 0 (.inr (by simpa using hx))
  simpa using this

theorem anc_lt (T : Trc P A nt ops.toList [] ops.toList cs s es sf) {x : Nat} : ∀ j, j < es.length → Nat.testBit (ancE es j) x = true → x < j := by
  intro j
  induction j using Nat.strongRecOn with
  | _ j ih =>
    intro hj hb
    obtain ⟨o, e, _, he, _, _, _, hanc, hedge, _⟩ := T.get hj
    simp only [ancE, he] at hb
    rw [hanc] at hb
    obtain ⟨ed, h4, h5, h6⟩ := ancOf_bit hb
    have h7 := hedge ed h4 h5
    rcases h6 with rfl | h6
    · exact h7
    · have : ((es.take j).map (·.c.anc)).getD ed.on 0 = ancE es ed.on := by
        rw [List.getD_eq_getElem?_getD, List.getElem?_map, List.getElem?_take_of_lt h7]
        unfold ancE
        cases es[ed.on]? <;> rfl
      rw [this] at h6
      exact Nat.lt_trans (ih ed.on h7 (by omega) h6) h7

/-- Its turn has come. -/
theorem pend_done (T : Trc P A nt ops.toList [] ops.toList cs s es sf) (hap : apartAll cs [] 0 = true) {D : Nat → Bool} {cx : Cx} {w : World} {a : Act} {b p i0 : Nat} {o : Oper} {e : En} {B d : Nat} {t : TypeId} {z : List SV}
    (ho : ops[i0]? = some o) (he : es[i0]? = some e) (her : e.er = true) (hno : D i0 = false) (I : Inv nt es sf D cx w a.tmps b p) (hrdy : ∀ x ∈ o.after, Region.binds .any x = true → D x.on = true) (hdst' : e.c.dst = some d)
    (hv : e.v = .ptr e.s.h.length 0) (hh' : e.s'.h = e.s.h ++ [.cells t z]) (htm : a.tmps.getD d undef = .pointer (some (ad B 0))) (f : Free cx (stA es sf p).h w B z) (hall : ∀ i, i < i0 → 2 ≤ kdE es i → D i = true) :
    ∃ cx', Grow0 cx w cx' w ∧ Inv nt es sf (addD D i0) cx' w a.tmps b (i0 + 1) := by
  obtain ⟨o', e', h1, h2, hok, hgd, hcs, hanc, hedge, hdst⟩ := T.get (List.getElem?_eq_some_iff.1 he).1
  rw [he] at h2; simp only [Option.some.injEq] at h2; subst h2
  rw [ho] at h1; simp only [Option.some.injEq] at h1; subst h1
  have U := T.up hap I ho he hno hrdy
  have hE := hok.ear her
  obtain ⟨hp, hh⟩ := eff_heap T I he hno (by rw [hE.kd]; omega) hall
  have hG := I.gam
  rw [hh] at hG f
  obtain ⟨k1, k2, k3⟩ := hG.took f t
  refine ⟨_, k2, ?_⟩
  have I2 := inv_eff T hap I he hok.dst hdst U hno hE.kd hall k2 (v' := .pointer (some (ad B 0))) (by rw [hv]; exact k3) (by rw [hh']; exact k1)
  refine I2.temps (put_size _ _ _).symm fun x => ?_
  by_cases hx : o.dst = some x
  · have : x = d := by rw [hok.dst, hdst'] at hx; exact (Option.some.inj hx).symm
    subst this
    rw [hx, put_get_eq (by rw [I.size]; exact hdst x hx), htm]
  · rw [put_get_ne hx]

theorem draw_opP (T : Trc P A nt ops.toList [] ops.toList cs s es sf) (hap : apartAll cs [] 0 = true) {D : Nat → Bool} {cx : Cx} {w : World} {a : Act} {b p : Nat} (I : PInv nt ops es sf D cx w a.tmps b p) {j : Nat} {o : Oper}
    (ho : ops[j]? = some o) (hj : j < es.length) (hD : D j = false) (hr : ∀ x ∈ o.after, Region.binds .any x = true → D x.on = true) {Q : Exit → Act → World → Prop} {KK : Act → World → Prop}
    (hk : ∀ cx' w' a' b' p', Grow A.p cx w cx' w' → PInv nt ops es sf (addD D j) cx' w' a'.tmps b' p' → Frm a a' → KK a' w') :
    if Region.wanted o (yielded ops a.tmps) then o.wp P a w KK Q ∨ (o.asks P a w ∧ LetsOut Q) else KK (a.put o.dst undef) w := by
  obtain ⟨o', e, h1, he, hok, hgd, hcs, hanc, hedge, hdst⟩ := T.get hj
  rw [ho] at h1; simp only [Option.some.injEq] at h1; subst h1
  have hkd : kdE es j = e.kd := by simp [kdE, he]
  -- an early block or no: what is undone ahead of it
  have hearly : ∀ {D1 : Nat → Bool} (hA : ∀ x, Nat.testBit e.c.anc x = true → D1 x = true) (i : Nat), i < j → kdE es j = 2 → kdE es i = 2 → D1 i = false → e.er = true := fun hA i hij h2 h3 h4 => by
    have hei : es[i]? = some es[i] := List.getElem?_eq_getElem (by omega)
    simp only [kdE, hei] at h3
    rcases T.pairs hij hei he with h | ⟨_, _, h6, _⟩
    · rw [hA i h] at h4; cases h4
    · exact (h6 ⟨by omega, h3⟩).1
  rcases I with I | ⟨i0, o0, e0, D', B, d, q, t, z, Pd⟩
  · have U := T.up hap I ho he hD hr
    by_cases hE : kdE es j = 2 → ∀ i, i < j → kdE es i = 2 → D i = true
    · exact draw_op T hap I ho hj hD hr hE fun cx' w' v' b' p' gr I' => hk cx' w' _ b' p' gr (.inl I') (Frm.put _ _ _)
    · obtain ⟨h2, q, h3, h4, h5⟩ : kdE es j = 2 ∧ ∃ i, i < j ∧ kdE es i = 2 ∧ D i = false := by
        by_cases h2 : kdE es j = 2
        · refine ⟨h2, Classical.byContradiction fun hne => hE fun _ i hi hi2 => ?_⟩
          cases hb : D i with
          | true => rfl
          | false => exact absurd ⟨i, hi, hi2, hb⟩ hne
        · exact absurd (fun h => absurd h h2) hE
      have her := hearly U.anc q h3 h2 h4 h5
      have hEar := hok.ear her
      obtain ⟨d, hd, htop⟩ := hEar.top
      obtain ⟨t, z, hv, hh', hz, hop⟩ := hEar.ex
      rw [U.wanted hgd hEar.run, if_pos rfl]
      left
      refine lay_free hop hz I.gam fun w' B g1 gr f => ?_
      have hdo : o.dst = some d := by rw [hok.dst]; exact hd
      have hval : K es D (lk (stA es sf b).t) b (es.length - b) d = .top := by
        rw [T.val I he U.bj U.anc (x := d) ?_ ?_]
        · exact htop
        · intro i hij hdi
          have hei : es[i]? = some es[i] := List.getElem?_eq_getElem (by omega)
          simp only [dstE, hei, Option.bind_some] at hdi
          rcases T.apts hap hij hei he with h | h
          · exact U.anc i h
          · simp only [Sx.apart, Bool.and_eq_true] at h
            have h3 := h.2.2
            rw [hdi, hd] at h3
            simp at h3
        · intro i hji hdi
          by_cases hij : i = j
          · rw [hij]; exact hD
          cases hDi : D i with
          | false => rfl
          | true =>
            cases hei : es[i]? with
            | none => simp [dstE, hei] at hdi
            | some ei =>
              simp only [dstE, hei, Option.bind_some] at hdi
              have hBi := U.above i hDi
              simp only [ancE, hei] at hBi
              rcases T.apts hap (by omega) he hei with h | h
              · rw [hBi] at h; cases h
              · simp only [Sx.apart, Bool.and_eq_true] at h
                have h3 := h.2.2
                rw [hdi, hd] at h3
                simp at h3
      have I' : Inv nt es sf D cx w' (a.put o.dst (.pointer (some (ad B 0)))).tmps b p := by
        refine ⟨I.ble, I.ple, I.low, I.piv, I.eff, I.clo, g1, fun x => ?_, by rw [put_size]; exact I.size⟩
        by_cases hx : x = d
        · subst hx; exact .inl hval
        · rcases (I.tmp x).grow gr with h | ⟨h6, h7⟩
          · exact .inl h
          · exact .inr ⟨by rw [put_size]; exact h6, by rw [put_get_ne (by rw [hdo]; exact fun e => hx (Option.some.inj e).symm)]; exact h7⟩
      exact hk cx w' _ b p gr.to (.inr ⟨j, o, e, D, B, d, q, t, z, ⟨ho, he, her, rfl, hD, I', hr, h3, by omega, h5, hd, hv, hh', by rw [hdo, put_get_eq (by rw [I.size]; exact hdst d hdo)], f⟩⟩) (Frm.put _ _ _)
  · obtain ⟨ho0, he0, her0, heq, hno, I, hrdy, q1, q2, q3, hd, hv, hh', htm, f⟩ := Pd
    subst heq
    have hi0 : i0 < es.length := (List.getElem?_eq_some_iff.1 he0).1
    obtain ⟨o0', e0', h1, h2, hok0, hgd0, hcs0, hanc0, hedge0, hdst0⟩ := T.get hi0
    rw [he0] at h2; simp only [Option.some.injEq] at h2; subst h2
    rw [ho0] at h1; simp only [Option.some.injEq] at h1; subst h1
    have hne : j ≠ i0 := fun h => by subst h; rw [addD_eq] at hD; cases hD
    have hDj : D' j = false := by rwa [addD_ne hne] at hD
    have U0 := T.up hap I ho0 he0 hno hrdy
    -- all that it waits for has been
    have hcl : ∀ i, addD D' i0 i = true → ∀ x, Nat.testBit (ancE es i) x = true → addD D' i0 x = true := clo_step I he0 U0
    have hA0 : ∀ x, Nat.testBit e.c.anc x = true → addD D' i0 x = true := fun x hx => by
      rw [hanc] at hx
      obtain ⟨ed, h3, h4, h5⟩ := ancOf_bit hx
      have h6 := hr ed h3 h4
      rcases h5 with rfl | h5
      · exact h6
      · have h7 := hedge ed h3 h4
        refine hcl ed.on h6 x ?_
        have : ((es.take j).map (·.c.anc)).getD ed.on 0 = ancE es ed.on := by
          rw [List.getD_eq_getElem?_getD, List.getElem?_map, List.getElem?_take_of_lt h7]
          unfold ancE
          cases es[ed.on]? <;> rfl
        rw [this] at h5; exact h5
    have hnd : Nat.testBit e.c.anc i0 = false := by
      cases hb : Nat.testBit e.c.anc i0 with
      | false => rfl
      | true =>
        exfalso
        have hij : i0 < j := anc_lt T j hj (by simp only [ancE, he]; exact hb)
        have hq : es[q]? = some es[q] := List.getElem?_eq_getElem (by omega)
        have q2' := q2
        simp only [kdE, hq] at q2'
        rcases T.fol j e he i0 e0 (by simp; omega) (by rw [List.nil_append]; exact he0) her0 hb q es[q] q1 (by rw [List.nil_append]; exact hq) q2' with h | h
        · have := hA0 q h
          rw [addD_ne (by omega), q3] at this; cases this
        · rw [U0.anc q h] at q3; cases q3
    have hr' : ∀ x ∈ o.after, Region.binds .any x = true → D' x.on = true := fun x hx hb => by
      have h3 := hr x hx hb
      by_cases h4 : x.on = i0
      · have := after_anc (acc := (es.take j).map (·.c.anc)) hx hb
        rw [← hanc, h4, hnd] at this; cases this
      · rwa [addD_ne h4] at h3
    have U := T.up hap I ho he hDj hr'
    have hEar0 := hok0.ear her0
    have hE : kdE es j = 2 → ∀ i, i < j → kdE es i = 2 → D' i = true := fun h2 i hij hi => by
      cases hb : D' i with
      | true => rfl
      | false =>
        exfalso
        have her := hearly U.anc i hij h2 hi hb
        rcases Nat.lt_or_ge i0 j with h | h
        · rcases T.pairs h he0 he with h5 | ⟨_, _, h6, _⟩
          · rw [hnd] at h5; cases h5
          · have := (h6 ⟨by omega, hEar0.kd⟩).2
            rw [her0] at this; cases this
        · rcases T.pairs (show j < i0 by omega) he he0 with h5 | ⟨_, _, h6, _⟩
          · rw [U0.anc j h5] at hDj; cases hDj
          · have := (h6 ⟨hEar0.kd, by omega⟩).2
            rw [her] at this; cases this
    have hdd : o.dst ≠ some d := fun h => by
      have hcd : e.c.dst = some d := by rw [← hok.dst]; exact h
      have bad : ∀ (x y : CR), apart x y = true → x.dst = some d → y.dst = some d → False := fun x y h3 h4 h5 => by
        simp only [Sx.apart, Bool.and_eq_true] at h3
        have h6 := h3.2.2
        rw [h4, h5] at h6
        simp at h6
      rcases Nat.lt_or_ge i0 j with h3 | h3
      · rcases T.apts hap h3 he0 he with h5 | h5
        · rw [hnd] at h5; cases h5
        · exact bad _ _ h5 hd hcd
      · rcases T.apts hap (show j < i0 by omega) he he0 with h5 | h5
        · rw [U0.anc j h5] at hDj; cases hDj
        · exact bad _ _ h5 hcd hd
    refine draw_op T hap (I.ctx (I.gam.lend f)) ho hj hDj hr' hE fun cx' w' v' b' p' gr I' => ?_
    obtain ⟨g1, gr1, f1⟩ := I'.gam.back gr f
    have I1 : Inv nt es sf (addD D' j) (backC cx cx') w' (a.put o.dst v').tmps b' p' := I'.ctx g1
    have htm' : (a.put o.dst v').tmps.getD d undef = .pointer (some (ad B 0)) := by rw [put_get_ne hdd]; exact htm
    have heq : addD (addD D' i0) j = addD (addD D' j) i0 := by
      funext i; simp only [addD]; cases D' i <;> cases (i == i0) <;> cases (i == j) <;> rfl
    have hno' : addD D' j i0 = false := by rw [addD_ne (fun h => hne h.symm)]; exact hno
    have hrdy' : ∀ x ∈ o0.after, Region.binds .any x = true → addD D' j x.on = true := fun x hx hb => by simp [addD, hrdy x hx hb]
    by_cases hall : ∀ i, i < i0 → 2 ≤ kdE es i → addD D' j i = true
    · obtain ⟨cx2, k1, k2⟩ := pend_done T hap ho0 he0 her0 hno' I1 hrdy' hd hv hh' htm' f1 hall
      exact hk cx2 w' _ b' (i0 + 1) (gr1.trans k1.to) (.inl (by rw [heq]; exact k2)) (Frm.put _ _ _)
    · obtain ⟨q', h3, h4, h5⟩ : ∃ q', q' < i0 ∧ 2 ≤ kdE es q' ∧ addD D' j q' = false := by
        refine Classical.byContradiction fun hne => hall fun i hi hi2 => ?_
        cases hb : addD D' j i with
        | true => rfl
        | false => exact absurd ⟨i, hi, hi2, hb⟩ hne
      exact hk _ w' _ b' p' gr1 (.inr ⟨i0, o0, e0, addD D' j, B, d, q', t, z, ⟨ho0, he0, her0, heq, hno', I1, hrdy', h3, h4, h5, hd, hv, hh', htm', f1⟩⟩) (Frm.put _ _ _)

/-- All have been: nothing is laid ahead. -/
theorem pend_end {D : Nat → Bool} {cx : Cx} {w : World} {tm : Array Value} {b p : Nat} (I : PInv nt ops es sf D cx w tm b p) (hall : ∀ i, i < es.length → D i = true) : Inv nt es sf D cx w tm b p := by
  rcases I with I | ⟨i0, o0, e0, D', B, d, q, t, z, Pd⟩
  · exact I
  · exfalso
    have hi0 : i0 < es.length := (List.getElem?_eq_some_iff.1 Pd.he).1
    have q1 := Pd.q1
    have h1 := hall q (by omega)
    rw [Pd.eq, addD_ne (by omega), Pd.q3] at h1; cases h1

theorem ready_nil (T : Trc P A nt ops.toList [] ops.toList cs s es sf) {listed : Array Bool} (hsz : listed.size = es.length) (h : Region.ready .any ops listed = []) : ∀ i, i < es.length → listed.getD i false = true := by
  intro i
  induction i using Nat.strongRecOn with
  | _ i ih =>
    intro hi
    cases hb : listed.getD i false with
    | true => rfl
    | false =>
      exfalso
      obtain ⟨o, e, h1, _, _, _, _, _, hedge, _⟩ := T.get hi
      have : i ∈ Region.ready .any ops listed := mem_ready.2 ⟨by
        rw [Array.getD_eq_getD_getElem?] at hb ⊢
        rw [Array.getElem?_eq_getElem (by omega)] at hb ⊢
        simpa using hb, o, h1, fun x hx hbx => ih x.on (hedge x hx hbx) (by have := hedge x hx hbx; omega)⟩
      rw [h] at this; cases this

theorem draw_any (T : Trc P A nt ops.toList [] ops.toList cs s es sf) (hap : apartAll cs [] 0 = true) {Q : Exit → Act → World → Prop} : ∀ (fuel : Nat) (listed : Array Bool) (a : Act) (w : World) (cx : Cx) (b p : Nat),
    listed.size = es.length → (List.range es.length).countP (fun i => !listed.getD i false) ≤ fuel → PInv nt ops es sf (fun i => listed.getD i false) cx w a.tmps b p →
    (∀ cx' w' a', Grow A.p cx w cx' w' → Gam cx' sf.h w' → TRep cx' w' sf.t a'.tmps → Frm a a' → Q .normal a' w') → wpAny P .any ops Q fuel listed a w
  | 0, listed, a, w, cx, b, p, hsz, hc, I, hk => by
    have hall : ∀ i, i < es.length → listed.getD i false = true := fun i hi => by
      cases hb : listed.getD i false with
      | true => rfl
      | false =>
        have h0 : (List.range es.length).countP (fun i => !listed.getD i false) = 0 := by omega
        have := List.countP_eq_zero.1 h0 i (List.mem_range.2 hi)
        simp [hb] at this
    refine ⟨?_, hk cx w a (Grow.refl _ _ _) (draw_end T (pend_end I hall) hall).1 (draw_end T (pend_end I hall) hall).2 (Frm.refl a)⟩
    cases hr : Region.ready .any ops listed with
    | nil => rfl
    | cons i r =>
      have hi : i ∈ Region.ready .any ops listed := by rw [hr]; simp
      obtain ⟨h1, o, h2, _⟩ := mem_ready.1 hi
      have hlt : i < es.length := by
        rw [T.len]; have := (Array.getElem?_eq_some_iff.1 h2).1; simpa using this
      have h3 := hall i hlt
      rw [Array.getD_eq_getD_getElem?] at h1 h3
      rw [Array.getElem?_eq_getElem (by omega)] at h1 h3
      simp at h1 h3
      rw [h1] at h3; cases h3
  | fuel + 1, listed, a, w, cx, b, p, hsz, hc, I, hk => by
    refine ⟨fun hn => ?_, fun j hj => ?_⟩
    · have hall := ready_nil T hsz hn
      exact hk cx w a (Grow.refl _ _ _) (draw_end T (pend_end I hall) hall).1 (draw_end T (pend_end I hall) hall).2 (Frm.refl a)
    · obtain ⟨h1, o, h2, h3⟩ := mem_ready.1 hj
      have hlt : j < es.length := by
        rw [T.len]; have := (Array.getElem?_eq_some_iff.1 h2).1; simpa using this
      have hD : listed.getD j false = false := by
        rw [Array.getD_eq_getD_getElem?] at h1 ⊢
        rw [Array.getElem?_eq_getElem (by omega)] at h1 ⊢
        simpa using h1
      have hset : (fun i => (listed.setIfInBounds j true).getD i false) = addD (fun i => listed.getD i false) j := by
        funext i
        by_cases h : i = j
        · subst h
          rw [addD_eq, Array.getD_eq_getD_getElem?, Array.getElem?_setIfInBounds_self_of_lt (by omega)]; rfl
        · rw [addD_ne h, Array.getD_eq_getD_getElem?, Array.getElem?_setIfInBounds_ne (Ne.symm h), Array.getD_eq_getD_getElem?]
      unfold wpOp
      rw [h2]
      refine draw_opP T hap I h2 hlt hD h3 fun cx' w' a' b' p' gr I' fr => ?_
      refine draw_any T hap fuel _ a' w' cx' b' p' (by simp [hsz]) ?_ (by rw [hset]; exact I') fun cx2 w2 a2 g2 h4 h5 h6 => hk cx2 w2 a2 (gr.trans g2) h4 h5 (fr.trans h6)
      have := countP_lt (l := List.range es.length) (p := fun i => !listed.getD i false) (q := fun i => !(listed.setIfInBounds j true).getD i false) (x := j) (fun y _ hy => by
        have e : (listed.setIfInBounds j true).getD y false = addD (fun i => listed.getD i false) j y := congrFun hset y
        rw [e] at hy
        simp only [addD, Bool.not_or, Bool.and_eq_true] at hy
        exact hy.1) (List.mem_range.2 hlt) (by simp [hD]) (by
        have e : (listed.setIfInBounds j true).getD j false = addD (fun i => listed.getD i false) j j := congrFun hset j
        rw [e, addD_eq]; rfl)
      omega

/-- A region that draws its order. -/
theorem sregD_sound {Ω : Type} {env : Env Ω} {out : Ω} (he : EnvOK P env) (hmix : P.follows .mixedOrders = true) {k : SS → Option Ω} {Q : Exit → Act → World → Prop} {id : Nat}
    (hc : coR P nt true ops.toList ops.toList [] = some cs) (hap : apartAll cs [] 0 = true) (h : sregD env A cs 0 [] 0 s k = some out)
    {cx : Cx} {w : World} {a : Act} (hsz : a.tmps.size = nt) (hu : Uniq s.t) (hg : Gam cx s.h w) (ht : TRep cx w s.t a.tmps)
    (hk : ∀ cx' w' a' s', k s' = some out → Frm a a' → Uniq s'.t → Grow A.p cx w cx' w' → Gam cx' s'.h w' → TRep cx' w' s'.t a'.tmps → Q .normal a' w') : (Code.region id ops true).wp P Q a w := by
  obtain ⟨es, sf, hksf, T⟩ := sregD_trace (P := P) (A := A) he ops.toList cs [] [] 0 s hc h hu (fun p hp => by rw [← hsz]; exact (ht p.1 p.2 hp).1) ⟨by simp, by simp⟩
  have hn : es.length = ops.size := by rw [T.len]; simp
  refine wp_region_any hmix ?_
  have hg' : Gam cx s.h { w with drawn := w.drawn + 1 } := (Gam.world hg (w' := { w with drawn := w.drawn + 1 }) rfl rfl rfl).1
  have gr0 : Grow0 cx w cx { w with drawn := w.drawn + 1 } := (Gam.world hg (w' := { w with drawn := w.drawn + 1 }) rfl rfl rfl).2
  have hlist : ∀ i, (Array.replicate ops.size false).getD i false = false := fun i => by
    rw [Array.getD_eq_getD_getElem?, Array.getElem?_replicate]; split <;> rfl
  refine draw_any T hap ops.size _ a _ cx 0 0 (by simp [hn]) ?_ ?_ fun cx' w' a' gr h1 h2 h3 => hk cx' w' a' sf hksf h3 T.uniq (gr0.to.trans gr) h1 h2
  · have := List.countP_le_length (p := fun i => !(Array.replicate ops.size false).getD i false) (l := List.range es.length)
    simp only [List.length_range] at this
    omega
  · refine .inl ⟨Nat.zero_le _, Nat.zero_le _, fun i hi => absurd hi (by omega), fun i _ h => absurd h (by simp only [hlist]; simp), fun i _ _ => by simp only [hlist]; simp, fun i h => absurd h (by simp only [hlist]; simp), ?_, fun x => ?_, hsz⟩
    · rw [T.head.2]; exact hg'
    · have e0 : es.length - 0 = 0 + es.length := by omega
      rw [e0, K_skip es.length (fun i _ _ _ => hlist _)]
      simp only [K]
      rw [T.head.1]
      by_cases h : lk s.t x = .top
      · exact .inl h
      · have := ht x _ (lk_mem h)
        exact .inr ⟨this.1, this.2.grow gr0⟩
end
end Go.Sx
