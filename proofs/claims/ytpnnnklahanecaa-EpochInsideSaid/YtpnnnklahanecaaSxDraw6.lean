/- Regions that draw their order, sixth part: all orders. -/
import Derived.Test.YtpnnnklahanecaaSxDraw5
namespace Go.Sx

theorem countP_lt {α : Type} {p q : α → Bool} {x : α} : ∀ {l : List α}, (∀ y ∈ l, q y = true → p y = true) → x ∈ l → p x = true → q x = false → l.countP q < l.countP p
  | [], _, hx, _, _ => by simp at hx
  | y :: r, h, hx, hp, hq => by
    have hr : ∀ z ∈ r, q z = true → p z = true := fun z hz => h z (by simp [hz])
    have hle : r.countP q ≤ r.countP p := List.countP_mono_left hr
    simp only [List.countP_cons]
    rcases List.mem_cons.1 hx with rfl | hx
    · simp [hp, hq]; omega
    · have := countP_lt hr hx hp hq
      cases hqy : q y with
      | false => simp; split <;> omega
      | true => simp [h y (by simp) hqy]; omega

section
variable {P : Program} {A : Ann} {nt : Nat} {ops : Array Oper} {cs : List CR} {s : SS} {es : List En} {sf : SS}

theorem draw_end (T : Trc P A nt ops.toList [] ops.toList cs s es sf) {D : Nat → Bool} {cx : Cx} {w : World} {tm : Array Value} {b p : Nat} (I : Inv nt es sf D cx w tm b p) (hall : ∀ i, i < es.length → D i = true) : Gam cx sf.h w ∧ TRep cx w sf.t tm := by
  have hsf : stA es sf es.length = sf := by simp [stA]
  constructor
  · have := heap_const T (p := p) (es.length - p) (by have := I.ple; omega) (fun i a1 a2 => by
      rcases Nat.lt_or_ge (kdE es i) 2 with h | h
      · exact h
      · have h2 := (I.eff i (by omega) h).1 (hall i (by omega))
        omega)
    rw [show p + (es.length - p) = es.length by have := I.ple; omega, hsf] at this
    rw [this]; exact I.gam
  · intro x y hxy
    have hlk := uniq_lk T.uniq hxy
    have hg := I.tmp x
    have hb := I.ble
    rw [K_congr (D' := fun _ => true) (es.length - b) (fun i a1 _ => hall (b + i) (by omega)), K_seq T (es.length - b) (fun i a1 => I.piv (b + i) (by omega) (hall (b + i) (by omega))) (by omega), show b + (es.length - b) = es.length by omega, hsf, hlk] at hg
    rcases hg with hg | hg
    · exact ⟨by rw [I.size]; exact T.bnd _ hxy, by rw [hg]; exact SRep.anyTop _ _ _⟩
    · exact hg

theorem ready_nil (T : Trc P A nt ops.toList [] ops.toList cs s es sf) {listed : Array Bool} (hsz : listed.size = es.length) (h : Region.ready .any ops listed = []) : ∀ i, i < es.length → listed.getD i false = true := by
  intro i
  induction i using Nat.strongRecOn with
  | _ i ih =>
    intro hi
    cases hb : listed.getD i false with
    | true => rfl
    | false =>
      exfalso
      obtain ⟨o, e, h1, _, _, _, _, _, hedge, _⟩ := T.get hi
      have : i ∈ Region.ready .any ops listed := mem_ready.2 ⟨by
        rw [Array.getD_eq_getD_getElem?] at hb ⊢
        rw [Array.getElem?_eq_getElem (by omega)] at hb ⊢
        simpa using hb, o, h1, fun x hx hbx => ih x.on (hedge x hx hbx) (by have := hedge x hx hbx; omega)⟩
      rw [h] at this; cases this

theorem draw_any (T : Trc P A nt ops.toList [] ops.toList cs s es sf) (hap : apartAll cs [] 0 = true) {Q : Exit → Act → World → Prop} : ∀ (fuel : Nat) (listed : Array Bool) (a : Act) (w : World) (cx : Cx) (b p : Nat),
    listed.size = es.length → (List.range es.length).countP (fun i => !listed.getD i false) ≤ fuel → Inv nt es sf (fun i => listed.getD i false) cx w a.tmps b p →
    (∀ cx' w' a', Grow A.p cx w cx' w' → Gam cx' sf.h w' → TRep cx' w' sf.t a'.tmps → Frm a a' → Q .normal a' w') → wpAny P .any ops Q fuel listed a w
  | 0, listed, a, w, cx, b, p, hsz, hc, I, hk => by
    have hall : ∀ i, i < es.length → listed.getD i false = true := fun i hi => by
      cases hb : listed.getD i false with
      | true => rfl
      | false =>
        have h0 : (List.range es.length).countP (fun i => !listed.getD i false) = 0 := by omega
        have := List.countP_eq_zero.1 h0 i (List.mem_range.2 hi)
        simp [hb] at this
    refine ⟨?_, hk cx w a (Grow.refl _ _ _) (draw_end T I hall).1 (draw_end T I hall).2 (Frm.refl a)⟩
    cases hr : Region.ready .any ops listed with
    | nil => rfl
    | cons i r =>
      have hi : i ∈ Region.ready .any ops listed := by rw [hr]; simp
      obtain ⟨h1, o, h2, _⟩ := mem_ready.1 hi
      have hlt : i < es.length := by
        rw [T.len]; have := (Array.getElem?_eq_some_iff.1 h2).1; simpa using this
      have h3 := hall i hlt
      rw [Array.getD_eq_getD_getElem?] at h1 h3
      rw [Array.getElem?_eq_getElem (by omega)] at h1 h3
      simp at h1 h3
      rw [h1] at h3; cases h3
  | fuel + 1, listed, a, w, cx, b, p, hsz, hc, I, hk => by
    refine ⟨fun hn => ?_, fun j hj => ?_⟩
    · have hall := ready_nil T hsz hn
      exact hk cx w a (Grow.refl _ _ _) (draw_end T I hall).1 (draw_end T I hall).2 (Frm.refl a)
    · obtain ⟨h1, o, h2, h3⟩ := mem_ready.1 hj
      have hlt : j < es.length := by
        rw [T.len]; have := (Array.getElem?_eq_some_iff.1 h2).1; simpa using this
      have hD : listed.getD j false = false := by
        rw [Array.getD_eq_getD_getElem?] at h1 ⊢
        rw [Array.getElem?_eq_getElem (by omega)] at h1 ⊢
        simpa using h1
      have hset : (fun i => (listed.setIfInBounds j true).getD i false) = addD (fun i => listed.getD i false) j := by
        funext i
        by_cases h : i = j
        · subst h
          rw [addD_eq, Array.getD_eq_getD_getElem?, Array.getElem?_setIfInBounds_self_of_lt (by omega)]; rfl
        · rw [addD_ne h, Array.getD_eq_getD_getElem?, Array.getElem?_setIfInBounds_ne (Ne.symm h), Array.getD_eq_getD_getElem?]
      unfold wpOp
      rw [h2]
      refine draw_op T hap I h2 hlt hD h3 fun cx' w' a' b' p' gr I' fr => ?_
      refine draw_any T hap fuel _ a' w' cx' b' p' (by simp [hsz]) ?_ (by rw [hset]; exact I') fun cx2 w2 a2 g2 h4 h5 h6 => hk cx2 w2 a2 (gr.trans g2) h4 h5 (fr.trans h6)
      have := countP_lt (l := List.range es.length) (p := fun i => !listed.getD i false) (q := fun i => !(listed.setIfInBounds j true).getD i false) (x := j) (fun y _ hy => by
        have e : (listed.setIfInBounds j true).getD y false = addD (fun i => listed.getD i false) j y := congrFun hset y
        rw [e] at hy
        simp only [addD, Bool.not_or, Bool.and_eq_true] at hy
        exact hy.1) (List.mem_range.2 hlt) (by simp [hD]) (by
        have e : (listed.setIfInBounds j true).getD j false = addD (fun i => listed.getD i false) j j := congrFun hset j
        rw [e, addD_eq]; rfl)
      omega

/-- A region that draws its order. -/
theorem sregD_sound {Ω : Type} {env : Env Ω} {out : Ω} (he : EnvOK P env) (hmix : P.follows .mixedOrders = true) {k : SS → Option Ω} {Q : Exit → Act → World → Prop} {id : Nat}
    (hc : coR P nt true ops.toList ops.toList [] = some cs) (hap : apartAll cs [] 0 = true) (h : sregD env A cs 0 [] 0 s k = some out)
    {cx : Cx} {w : World} {a : Act} (hsz : a.tmps.size = nt) (hu : Uniq s.t) (hg : Gam cx s.h w) (ht : TRep cx w s.t a.tmps)
    (hk : ∀ cx' w' a' s', k s' = some out → Frm a a' → Uniq s'.t → Grow A.p cx w cx' w' → Gam cx' s'.h w' → TRep cx' w' s'.t a'.tmps → Q .normal a' w') : (Code.region id ops true).wp P Q a w := by
  obtain ⟨es, sf, hksf, T⟩ := sregD_trace (P := P) (A := A) he ops.toList cs [] [] 0 s hc h hu (fun p hp => by rw [← hsz]; exact (ht p.1 p.2 hp).1) ⟨by simp⟩
  have hn : es.length = ops.size := by rw [T.len]; simp
  refine wp_region_any hmix ?_
  have hg' : Gam cx s.h { w with drawn := w.drawn + 1 } := (Gam.world hg (w' := { w with drawn := w.drawn + 1 }) rfl rfl rfl).1
  have gr0 : Grow0 cx w cx { w with drawn := w.drawn + 1 } := (Gam.world hg (w' := { w with drawn := w.drawn + 1 }) rfl rfl rfl).2
  have hlist : ∀ i, (Array.replicate ops.size false).getD i false = false := fun i => by
    rw [Array.getD_eq_getD_getElem?, Array.getElem?_replicate]; split <;> rfl
  refine draw_any T hap ops.size _ a _ cx 0 0 (by simp [hn]) ?_ ?_ fun cx' w' a' gr h1 h2 h3 => hk cx' w' a' sf hksf h3 T.uniq (gr0.to.trans gr) h1 h2
  · have := List.countP_le_length (p := fun i => !(Array.replicate ops.size false).getD i false) (l := List.range es.length)
    simp only [List.length_range] at this
    omega
  · refine ⟨Nat.zero_le _, Nat.zero_le _, fun i hi => absurd hi (by omega), fun i _ h => absurd h (by simp only [hlist]; simp), fun i _ _ => by simp only [hlist]; simp, fun i h => absurd h (by simp only [hlist]; simp), ?_, fun x => ?_, hsz⟩
    · rw [T.head.2]; exact hg'
    · have e0 : es.length - 0 = 0 + es.length := by omega
      rw [e0, K_skip es.length (fun i _ _ _ => hlist _)]
      simp only [K]
      rw [T.head.1]
      by_cases h : lk s.t x = .top
      · exact .inl h
      · have := ht x _ (lk_mem h)
        exact .inr ⟨this.1, this.2.grow gr0⟩
end
end Go.Sx
