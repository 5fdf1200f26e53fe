/- Regions that draw their order, fourth part: one operation in any order; all of them. -/
import Derived.Test.YtpnnnklahanecaaSxDraw3
namespace Go.Sx

theorem yielded_at {all : List Oper} {ops : Array Oper} (hops : ops.toList = all) {j d : Nat} (hd : (all[j]?).bind (·.dst) = some d) {tm : Array Value} {b : Bool} (h1 : d < tm.size) (h3 : tm.getD d undef = .bool b) : yielded ops tm j = some b := by
  unfold yielded
  have : ops[j]? = all[j]? := by rw [← hops]; simp
  rw [this, hd]
  simp only [Option.bind_some]
  rw [Array.getElem?_eq_getElem h1]
  rw [Array.getD_eq_getD_getElem?, Array.getElem?_eq_getElem h1] at h3
  simp only [Option.getD_some] at h3
  rw [h3]

theorem yielded_at_tup {all : List Oper} {ops : Array Oper} (hops : ops.toList = all) {j d : Nat} (hd : (all[j]?).bind (·.dst) = some d) {tm : Array Value} {cx : Cx} {w : World} (h1 : d < tm.size) (h2 : SRep cx w (.tup []) (tm.getD d undef)) : yielded ops tm j = none := by
  simp only [SRep] at h2
  obtain ⟨c', h3, _⟩ := h2
  unfold yielded
  have : ops[j]? = all[j]? := by rw [← hops]; simp
  rw [this, hd]
  simp only [Option.bind_some]
  rw [Array.getElem?_eq_getElem h1]
  rw [Array.getD_eq_getD_getElem?, Array.getElem?_eq_getElem h1] at h3
  simp only [Option.getD_some] at h3
  rw [h3]

theorem locs_lt {cx : Cx} {w : World} {x : SV} {u : Value} (h : SRep cx w x u) : ∀ l ∈ locsOf x, l < cx.n := by
  intro l hl
  cases x <;> simp only [locsOf, List.mem_singleton, List.not_mem_nil] at hl
  all_goals subst hl; simp only [SRep] at h; exact h.1

section
variable {P : Program} {A : Ann} {nt : Nat} {ops : Array Oper} {cs : List CR} {s : SS} {es : List En} {sf : SS}

/-- What is known where operation j comes up. -/
structure Up (es : List En) (sf : SS) (D : Nat → Bool) (e : En) (j b p : Nat) (cx : Cx) (w : World) (tm : Array Value) : Prop where
  bj : b ≤ j
  anc : ∀ x, Nat.testBit e.c.anc x = true → D x = true
  above : ∀ i, D i = true → Nat.testBit (ancE es i) j = false
  look : ∀ x ∈ looks e.c, Good cx w tm x (lk e.s.t x)

theorem Trc.up (T : Trc P A nt ops.toList [] ops.toList cs s es sf) (hap : apartAll cs [] 0 = true) {D : Nat → Bool} {cx : Cx} {w : World} {tm : Array Value} {b p : Nat} (I : Inv nt es sf D cx w tm b p) {j : Nat} {o : Oper} {e : En}
    (ho : ops[j]? = some o) (he : es[j]? = some e) (hD : D j = false) (hr : ∀ x ∈ o.after, Region.binds .any x = true → D x.on = true) : Up es sf D e j b p cx w tm := by
  have hj := (List.getElem?_eq_some_iff.1 he).1
  obtain ⟨o', e', h1, h2, hok, hgd, hcs, hanc, hedge, hdst⟩ := T.get hj
  rw [he] at h2; simp only [Option.some.injEq] at h2; subst h2
  rw [ho] at h1; simp only [Option.some.injEq] at h1; subst h1
  have hbj : b ≤ j := by
    rcases Nat.lt_or_ge j b with h | h
    · rw [I.low j h] at hD; cases hD
    · exact h
  have hA : ∀ x, Nat.testBit e.c.anc x = true → D x = true := fun x hx => by
    rw [hanc] at hx
    obtain ⟨ed, h3, h4, h5⟩ := ancOf_bit hx
    have h6 := hr ed h3 h4
    rcases h5 with rfl | h5
    · exact h6
    · have h7 := hedge ed h3 h4
      refine I.clo ed.on h6 x ?_
      have : ((es.take j).map (·.c.anc)).getD ed.on 0 = ancE es ed.on := by
        rw [List.getD_eq_getElem?_getD, List.getElem?_map, List.getElem?_take_of_lt h7]
        unfold ancE
        cases es[ed.on]? <;> rfl
      rw [this] at h5; exact h5
  have hB : ∀ i, D i = true → Nat.testBit (ancE es i) j = false := fun i hi => by
    cases hb : Nat.testBit (ancE es i) j with
    | false => rfl
    | true => rw [I.clo i hi j hb] at hD; cases hD
  refine ⟨hbj, hA, hB, fun x hx => ?_⟩
  have hcs' : ∀ (i : Nat) (e' : En), es[i]? = some e' → cs[i]? = some e'.c := fun i e' hi => by
    obtain ⟨_, e'', _, h4, _, _, h5, _⟩ := T.get (List.getElem?_eq_some_iff.1 hi).1
    rw [hi] at h4; simp only [Option.some.injEq] at h4; subst h4; exact h5
  -- those with this temporary
  have hbefore : ∀ i, i < j → dstE es i = some x → D i = true := fun i hij hd => by
    have hei : es[i]? = some es[i] := List.getElem?_eq_getElem (by omega)
    simp only [dstE, hei, Option.bind_some] at hd
    rcases apartAll_of (i := i) (j := j) (l := cs) (rev := []) hap rfl hij (by simpa using hcs' i _ hei) (by simpa using hcs' j _ he) (by omega) with h | h
    · exact hA i h
    · simp only [Sx.apart, Bool.and_eq_true] at h
      have h3 := h.1
      rw [hd] at h3
      simp only [notIn, Bool.not_eq_true'] at h3
      exact absurd hx (nmem_iff.1 h3)
  have hafter : ∀ i, j ≤ i → dstE es i = some x → D i = false := fun i hji hd => by
    cases hDi : D i with
    | false => rfl
    | true =>
      have hne : i ≠ j := fun e => by rw [e, hD] at hDi; cases hDi
      cases hei' : es[i]? with
      | none => simp [dstE, hei'] at hd
      | some ei =>
        simp only [dstE, hei', Option.bind_some] at hd
        have hBi := hB i hDi
        simp only [ancE, hei'] at hBi
        rcases apartAll_of (i := j) (j := i) (l := cs) (rev := []) hap rfl (by omega) (by simpa using hcs' j _ he) (by simpa using hcs' i _ hei') (by omega) with h | h
        · rw [hBi] at h; cases h
        · simp only [Sx.apart, Bool.and_eq_true] at h
          have h3 := h.2.1
          rw [hd] at h3
          simp only [notIn, Bool.not_eq_true'] at h3
          exact absurd hx (nmem_iff.1 h3)
  have hpiv : ∀ i, i < j - b → kdE es (b + i) ≠ 3 := fun i hi h3 => by
    have hei : es[b + i]? = some es[b + i] := List.getElem?_eq_getElem (by omega)
    simp only [kdE, hei] at h3
    have hD' : D (b + i) = true := by
      rcases T.pair j e he (b + i) _ (by simp; omega) (by rw [List.nil_append]; exact hei) with h | ⟨_, h, _⟩
      · exact hA _ h
      · exact absurd h3 h
    exact I.piv (b + i) (by omega) hD' (by simp only [kdE, hei]; exact h3)
  have h3 := I.tmp x
  have e1 : es.length - b = (j - b) + (es.length - j) := by omega
  rw [e1, K_skip (es.length - j) (fun i a1 _ a3 => hafter (b + i) (by omega) a3), K_congr (D' := fun _ => true) (j - b) (fun i a1 a2 => hbefore (b + i) (by omega) a2), K_seq T (j - b) hpiv (by omega), show b + (j - b) = j by omega, stA_some he] at h3
  exact h3

theorem Up.need {cx : Cx} {w : World} {tm : Array Value} {D : Nat → Bool} {e : En} {j b p : Nat} (U : Up es sf D e j b p cx w tm) (hu : Uniq e.s.t) (hb : ∀ q ∈ e.s.t, q.1 < tm.size) : TRep cx w (needOf e) tm := by
  intro i x hx
  obtain ⟨h1, h2⟩ := keepT_mem hx
  have h3 := U.look i (by
    unfold looks
    split
    · exact List.mem_cons_of_mem _ h1
    · exact h1)
  rw [uniq_lk hu h2] at h3
  rcases h3 with h3 | h3
  · exact ⟨hb _ h2, by rw [h3]; exact SRep.anyTop _ _ _⟩
  · exact h3

theorem Up.wanted {cx : Cx} {w : World} {tm : Array Value} {D : Nat → Bool} {e : En} {j b p : Nat} (U : Up es sf D e j b p cx w tm) {o : Oper} (hg : GuardOK ops.toList o e.c) {r : Bool} (hr : runs e r) : Region.wanted o (yielded ops tm) = r := by
  unfold GuardOK at hg
  unfold runs at hr
  unfold Region.wanted
  split at hg
  · rename_i h; rw [hg] at hr; simp [h, hr]
  · rename_i j' w' h
    obtain ⟨d, h1, h2⟩ := hg
    rw [h2] at hr
    rcases hr with ⟨x, h3, h4⟩ | ⟨h3, h4⟩
    rotate_left
    · have h5 := U.look d (by simp [looks, h2])
      rw [h3] at h5
      rcases h5 with h5 | ⟨h5, h6⟩
      · cases h5
      · have h7 := yielded_at_tup (ops := ops) rfl h1 h5 h6
        simp [h, h7, h4]
    have h5 := U.look d (by simp [looks, h2])
    rw [h3] at h5
    rcases h5 with h5 | ⟨h5, h6⟩
    · cases h5
    · have h7 := yielded_at (ops := ops) rfl h1 h5 (bool_of h6)
      simp only [h, h7, h4]
      cases x <;> cases w' <;> rfl
end
end Go.Sx
