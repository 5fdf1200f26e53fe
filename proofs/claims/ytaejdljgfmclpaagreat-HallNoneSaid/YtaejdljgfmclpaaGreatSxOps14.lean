/- Operations, twelfth part: append and make, run and sound. -/
import Derived.Test.YtaejdljgfmclpaaGreatSxOps11
set_option linter.all false
set_option linter.unusedVariables false
set_option linter.unusedSimpArgs false
set_option linter.unnecessarySimpa false
namespace Go.Sx

section
variable {P : Program} {A : Ann} {o : Oper} {s : SS} {Ω : Type} {k : SV → List Nat → SS → Option Ω} {out : Ω}

theorem run_app_none {t u e e' ty : TypeId} (ht : uT P t = .slice e) (hu : uT P u = .slice e') (hsz : szT P e ≠ 0) {w : World} {sLen sCap m : Nat} {x : Value} {bb : Option Addr} {cc : Nat} {news : List Value}
    (hx : Src w (szT P e) m x bb cc news) (hn : sLen + m ≤ sCap) : (Builtin.append_ #[t, u] ty #[.slice none sLen sCap, x]).run P w = .ok (.slice none (sLen + m) sCap) w := by
  have hf := hx.first (P := P)
  have hi : ∃ i, P.info? e = some i := by obtain ⟨i, hi, _⟩ := info_of_sz hsz; exact ⟨i, hi⟩
  rw [hx.val] at hf ⊢
  simp [Builtin.append_, run_uT w (t := t) (by rw [ht]; simp), ht, run_uT w (t := u) (by rw [hu]; simp), hu, run_szT w hi, Builtin.lenOf, hn, hf]

theorem run_app_room {t u e e' ty t' : TypeId} (ht : uT P t = .slice e) (hu : uT P u = .slice e') (hsz : szT P e ≠ 0) {w : World} {sLen sCap m g : Nat} {x : Value} {bb : Option Addr} {cc : Nat} {news : List Value}
    {cur : Array Value} (hg : w.heap[g]? = some (.cells cur t' (0, 0))) (hfit : sLen * szT P e + news.length ≤ cur.size)
    (hx : Src w (szT P e) m x bb cc news) (hn : sLen + m ≤ sCap) : (Builtin.append_ #[t, u] ty #[.slice (some (ad g 0)) sLen sCap, x]).run P w =
      .ok (.slice (some (ad g 0)) (sLen + m) sCap) (w.setRow g (cur.toList.take (sLen * szT P e) ++ news ++ cur.toList.drop (sLen * szT P e + news.length)).toArray) := by
  have hf := hx.first (P := P)
  have hi : ∃ i, P.info? e = some i := by obtain ⟨i, hi, _⟩ := info_of_sz hsz; exact ⟨i, hi⟩
  have hst := run_storeCells_at P g (sLen * szT P e) t' news 0 cur w hg (by simpa using hfit) hx.one
  simp only [Nat.add_zero] at hst
  have hadd : (ad g 0).add (sLen * szT P e) = ⟨g, sLen * szT P e, none⟩ := by rw [addr_add, Nat.zero_add]; rfl
  rw [hx.val] at hf ⊢
  simp [Builtin.append_, run_uT w (t := t) (by rw [ht]; simp), ht, run_uT w (t := u) (by rw [hu]; simp), hu, run_szT w hi, Builtin.lenOf, hn, hf, hadd, hst]

theorem run_app_grow {t u e e' ty : TypeId} (ht : uT P t = .slice e) (hu : uT P u = .slice e') (hsz : szT P e ≠ 0) (hby : byT P e ≠ 0) (hz : (zcT P e).isSome = true) {w : World} {sLen sCap m : Nat} {S x : Value} {ba bb : Option Addr} {cc : Nat} {olds news : List Value}
    (hS : Src w (szT P e) sLen S ba sCap olds) (hx : Src w (szT P e) m x bb cc news) (hn : ¬ (sLen + m ≤ sCap)) (hft : fits (sLen + m) (byT P e) = true) :
    ∃ (nc : Nat) (rest : List Value) (w0 : World), sLen + m ≤ nc ∧ rest.length = (nc - (sLen + m)) * szT P e ∧ (w0.heap = w.heap ∧ w0.os = w.os ∧ w0.output = w.output) ∧ (Builtin.append_ #[t, u] ty #[S, x]).run P w =
      .ok (.slice (some (ad w.heap.size 0)) (sLen + m) nc) { w0 with heap := w0.heap.push (.cells ⟨olds ++ (news ++ rest)⟩ e) } := by
  obtain ⟨z, hz⟩ := Option.isSome_iff_exists.1 hz
  obtain ⟨i, zv, c', hi, hzv, hcc, hzl, hisz, hr⟩ := zcT_sound hz
  have hcl := (hr ⟨0, fun _ => 0, fun _ => 0, fun _ => 0, fun _ => false, fun _ => 0, fun _ => False, fun _ => False⟩ w).1.length
  simp only [fits, decide_eq_true_eq] at hft
  have hb : i.bytes = byT P e := by simp [byT, hi]
  have hneed : sLen + m ≤ 140737488355328 := by
    have : (sLen + m) * 1 ≤ (sLen + m) * byT P e := Nat.mul_le_mul_left _ (by omega)
    omega
  have h63 : ¬ (9223372036854775807 < ((sLen : Int) + (m : Int))) := by omega
  have h48 : ¬ (281474976710656 < Builtin.nextslicecap (sLen + m) sCap * byT P e) := by
    have := growslice_fits (need := sLen + m) (old := sCap) (bytes := byT P e) (by omega) hft
    omega
  have hf1 := hS.firstD (P := P) (w' := w.drew) rfl
  have hf2 := hx.firstD (P := P) (w' := w.drew) rfl
  refine ⟨grownCap w (sLen + m) sCap e, (Builtin.zeroCells zv.cells (grownCap w (sLen + m) sCap e - (sLen + m))).toList, w.drew, grownCap_ge _ _ _ _, ?_, ⟨rfl, rfl, rfl⟩, ?_⟩
  · rw [Array.length_toList, size_zeroCells, hcc]
    simp only [List.size_toArray]
    rw [← hcl, hzl]
  · rw [hx.val] at hf2
    rw [hS.val] at hf1
    rw [hx.val, hS.val]
    simp [Builtin.append_, run_uT w (t := t) (by rw [ht]; simp), ht, run_uT w (t := u) (by rw [hu]; simp), hu, run_szT w ⟨i, hi⟩, Builtin.lenOf, hn, h63, typeInfo, hi, hb, h48, Question.forced, hf1, hf2, newRow, grownCap, hzv, zeroValue, ad]
    rw [show ∀ Z : Array Value, ((⟨olds⟩ : Array Value) ++ ((⟨news⟩ : Array Value) ++ Z)) = ⟨olds ++ (news ++ Z.toList)⟩ from fun Z => Array.ext' (by simp)]
    rfl

/-- A loc's new block, length and room. -/
def Cx.re (cx : Cx) (l b ln cp : Nat) (nl : Bool) : Cx := { cx with th := upd cx.th l b, ln := upd cx.ln l ln, cp := upd cx.cp l cp, nl := upd cx.nl l nl }

theorem Grow.re {cx : Cx} {w w' : World} (l b ln cp : Nat) (nl : Bool) (hs : ∀ b, cx.hd b → w'.heap[b]? = w.heap[b]?) (hz : w.heap.size ≤ w'.heap.size) (hio : Io w w') : Grow (Nat.beq l) cx w (cx.re l b ln cp nl) w' where
  fr := rfl
  io := hio
  fz := fun _ h => h
  same := hs
  size := hz
  loc := fun m hm hp => by
    have hne : m ≠ l := fun e => by subst e; simp at hp
    simp [Cx.re, upd_ne, hne, hm]

theorem AppA {A : Ann} {l : Nat} (h : A.ok l = true) {cx cx' : Cx} {w w' : World} (g : Grow (Nat.beq l) cx w cx' w') : Grow A.p cx w cx' w' :=
  g.weak fun m hm => Bool.eq_false_iff.2 fun e => by
    have := Nat.eq_of_beq_eq_true e
    subst this
    simp [Ann.p, h] at hm

theorem take_left_of {α : Type} {a b : List α} {n : Nat} (h : a.length = n) : (a ++ b).take n = a := by
  subst h; exact List.take_left

theorem app_core {x y : Operand} {x' : CA} {t u e e' : TypeId} {so : SO} (ho : o.op = .call { callee := .builtin .append, args := #[x, y], argTypes := #[t, u] }) (hx : coA x = some x')
    (ht : uT P t = .slice e) (hu : uT P u = .slice e') (hsz : szT P e ≠ 0) (hby : byT P e ≠ 0) (hz : (zcT P e).isSome = true)
    (hd : dstOk s.h (szT P e) (ev s.t x') = true)
    (hown : ∀ l, ev s.t x' = .own l → (∃ t k xs, hget s.h l = .rowi t k xs ∧ szT P e = 1) ∨ (∃ t n f, hget s.h l = .row t (szT P e) n f))
    (hcont : ∀ (cx : Cx) (w : World) (a : Act), Gam cx s.h w → TRep cx w s.t a.tmps → ∃ (n m : Nat) (ba bb : Option Addr) (ca cc : Nat) (olds news : List Value),
      Src w (szT P e) n (a.eval x) ba ca olds ∧ Src w (szT P e) m (a.eval y) bb cc news ∧ Holds cx.fz w (szT P e) (n + m) (olds ++ news) so ∧ fits (n + m) (byT P e) = true)
    (h : putOwn A s (ev s.t x') so k = some out) : Plain P A o s k out := by
  have hrun : ∀ (a : Act) (w : World) (v : Value) (w' : World), (Builtin.append_ #[t, u] o.type #[a.eval x, a.eval y]).run P w = .ok v w' → ∀ (next : Act → World → Prop) (Q : Exit → Act → World → Prop), next (a.put o.dst v) w' → o.wp P a w next Q := by
    intro a w v w' hr next Q hn
    unfold Oper.wp
    rw [run_b2 ho]
    simp only [builtin, Sem.run_bind, hr, Result.andThen_ok, Sem.run_pure, Oper.upon_value]
    exact hn
  unfold putOwn at h
  split at h
  · rename_i l ex
    obtain ⟨hok, h⟩ := cond_some h
    refine ⟨_, _, _, h, (by first | exact scrubT_sub | exact List.Sublist.refl _), fun cx w a hg htr next Q hk => ?_⟩
    obtain ⟨n, m, ba, bb, ca, cc, olds, news, hS, hX, hH, hft⟩ := hcont cx w a hg htr
    have hv := eval_coA hx htr
    rw [ex] at hv
    simp only [SRep] at hv
    obtain ⟨hln, hve⟩ := hv
    have hvS := hS.val
    rw [hve] at hvS
    simp only [Value.slice.injEq] at hvS
    obtain ⟨e1, e2, e3⟩ := hvS
    have hO := hg.obj l
    have hlh : l < s.h.length := hg.n ▸ hln
    obtain ⟨hrs, hle, hnl, hblk⟩ : cx.rs l = szT P e ∧ cx.ln l ≤ cx.cp l ∧ (cx.nl l = true → cx.cp l = 0) ∧ (cx.nl l = false → ∃ t c', w.heap[cx.th l]? = some (.cells c' t (0, 0)) ∧ c'.size = cx.cp l * szT P e) := by
      rcases hown l ex with ⟨t', k', xs, hgt, hs1⟩ | ⟨t', n', f, hgt⟩
      · rw [hgt] at hO
        obtain ⟨h1, h2, h3, h4, h5⟩ := hO
        refine ⟨by rw [h2, hs1], by omega, h4, fun e => ?_⟩
        obtain ⟨t', c', h6, h7, _⟩ := h5 e
        exact ⟨t', c', h6, by rw [hs1, Nat.mul_one]; exact h7⟩
      · rw [hgt] at hO
        obtain ⟨h1, h2, h3, h4, h5⟩ := hO
        refine ⟨h2, by omega, h4, fun e => ?_⟩
        obtain ⟨t', c', h6, h7, _⟩ := h5 e
        exact ⟨t', c', h6, h7⟩
    have hlive : liv cx s.h l ↔ cx.nl l = false := by
      rcases hown l ex with ⟨t', k', xs, hgt, hs1⟩ | ⟨t', n', f, hgt⟩ <;> simp [liv, hgt]
    have hlivn : ∀ cx' : Cx, liv cx' ((scrubH l s.h).set l so) l ↔ cx'.nl l = false := fun cx' => liv_row hH (hget_set_eq (by rw [scrubH_length]; exact hlh))
    by_cases hroom : n + m ≤ cx.cp l
    · cases hq : cx.nl l with
      | true =>
        have h0 := hnl hq
        have hr := run_app_none (P := P) (ty := o.type) ht hu hsz (sLen := n) (sCap := cx.cp l) hX hroom
        have hev : a.eval x = .slice none n (cx.cp l) := by rw [hve, hq, e2]; rfl
        rw [← hev] at hr
        have gr : Grow (Nat.beq l) cx w (cx.re l (cx.th l) (n + m) (cx.cp l) true) w := Grow.re l _ _ _ _ (fun _ _ => rfl) (Nat.le_refl _) (.refl _)
        have hn0 : n + m = 0 := by omega
        have hG := Gam.renew hg hlh gr rfl (fun _ h => h) (fun _ _ _ => rfl) (o' := so) (ORep.row_of hH (by simp [Cx.re]) (by simp [Cx.re, hrs]) (by simp [Cx.re, hroom]) (by simp [Cx.re, h0]) (by simp [Cx.re])) (by rw [hlivn]; simp [Cx.re])
        refine hrun a w _ w hr next Q (hk _ _ _ (AppA hok gr) ?_ (htr.scrub gr) hG)
        simp [SRep, Cx.re, hln]
      | false =>
        obtain ⟨t', c', hb1, hb2⟩ := hblk hq
        have hv1 := hlive.2 hq
        have hnl' : news.length = m * szT P e := hX.len
        have hmul : (n + m) * szT P e ≤ cx.cp l * szT P e := Nat.mul_le_mul_right _ hroom
        have hfit : n * szT P e + news.length ≤ c'.size := by rw [hnl', ← Nat.add_mul, hb2]; exact hmul
        have hr := run_app_room (P := P) (ty := o.type) ht hu hsz (sLen := n) (sCap := cx.cp l) hb1 hfit hX hroom
        have hev : a.eval x = .slice (some (ad (cx.th l) 0)) n (cx.cp l) := by rw [hve, hq, e2]; rfl
        rw [← hev] at hr
        have holds : c'.toList.take (n * szT P e) = olds := by
          have hol := hS.len
          apply List.ext_getElem?
          intro j
          rw [List.getElem?_take]
          split
          · rename_i hj
            have hjo : j < olds.length := by omega
            have hc := hS.cell (ad (cx.th l) 0) (by rw [← e1, hq]; rfl) j _ (List.getElem?_eq_getElem hjo)
            rw [addr_add] at hc
            simp only [World.cell?, ad, hb1, Nat.zero_add, Option.isSome_none, Bool.false_eq_true, if_false] at hc
            rw [List.getElem?_eq_getElem hjo, ← hc]; simp
          · rename_i hj
            rw [List.getElem?_eq_none (by omega)]
        generalize hw' : w.setRow (cx.th l) (c'.toList.take (n * szT P e) ++ news ++ c'.toList.drop (n * szT P e + news.length)).toArray = w' at hr
        have hoth : ∀ b, b ≠ cx.th l → w'.heap[b]? = w.heap[b]? := fun b hb => by rw [← hw']; exact setRow_ne _ _ _ _ hb
        have hsz' : w'.heap.size = w.heap.size := by rw [← hw']; exact setRow_size _ _ _
        have hsame : ∀ b, cx.hd b → w'.heap[b]? = w.heap[b]? := fun b hb => hoth b (fun e => hg.own l hv1 (e ▸ hb))
        have gr : Grow (Nat.beq l) cx w (cx.re l (cx.th l) (n + m) (cx.cp l) false) w' := Grow.re l _ _ _ _ hsame (by omega) (hw' ▸ Io.setRow _ _ _)
        have hG := Gam.renew hg hlh gr rfl (fun _ h => h) (fun q hq' hvq => hoth _ (fun e => hq' (hg.inj q l hvq hv1 e))) (o' := so)
          (ORep.row_of (hH.mono (fun _ h => h) (fun b hb => hsame b (.inl hb))) (by simp [Cx.re]) (by simp [Cx.re, hrs]) (by simp [Cx.re, hroom]) (by simp [Cx.re]) (fun _ => by
            refine ⟨t', (c'.toList.take (n * szT P e) ++ news ++ c'.toList.drop (n * szT P e + news.length)).toArray, by rw [← hw']; simp only [Cx.re, upd_same]; exact setRow_get _ _ _ _ _ hb1, ?_, ?_⟩
            · simp [Cx.re]; omega
            · rw [holds, List.append_assoc, ← List.append_assoc olds]
              apply take_left_of
              have := hS.len
              simp [hnl', Nat.add_mul]; omega))
          (fun _ => by
            simp only [Cx.re, upd_same]
            exact ⟨by rw [hsz']; exact hg.lt l hv1, hg.own l hv1, fun q hq' hvq e => hq' (hg.inj l q hv1 hvq e).symm⟩)
        refine hrun a w _ w' hr next Q (hk _ _ _ (AppA hok gr) ?_ (htr.scrub gr) hG)
        simp [SRep, Cx.re, hln]
    · obtain ⟨nc, rest, w0, h1, h2, ⟨h3, h3o, h3p⟩, hr⟩ := run_app_grow (P := P) (ty := o.type) ht hu hsz hby hz hS hX (by rw [← e3]; exact hroom) hft
      generalize hw' : { w0 with heap := w0.heap.push (.cells ⟨olds ++ (news ++ rest)⟩ e) } = w' at hr
      have hhp : w'.heap = w.heap.push (.cells ⟨olds ++ (news ++ rest)⟩ e) := by rw [← hw', ← h3]
      have hoth : ∀ b, b < w.heap.size → w'.heap[b]? = w.heap[b]? := fun b hb => by rw [hhp]; simp [Array.getElem?_push, Nat.ne_of_lt hb]
      have gr : Grow (Nat.beq l) cx w (cx.re l w.heap.size (n + m) nc false) w' := Grow.re l _ _ _ _ (fun b hb => hoth b (hg.fzlt b hb)) (by rw [hhp]; simp) (by rw [← hw']; exact (Io.of_heap (w := w) (w' := w0) h3 h3o h3p).trans ⟨rfl, rfl, fun a _ => frozen_push (.inl ⟨_, _, rfl⟩) a, by simp⟩)
      have hG := Gam.renew hg hlh gr rfl (fun _ h => h) (fun q hq' hvq => hoth _ (hg.lt q hvq)) (o' := so)
        (ORep.row_of (hH.mono (fun _ h => h) (fun b hb => hoth b (hg.fzlt b (.inl hb)))) (by simp [Cx.re]) (by simp [Cx.re, hrs]) (by simp [Cx.re, h1]) (by simp [Cx.re]) (fun _ => by
          refine ⟨e, ⟨olds ++ (news ++ rest)⟩, by simp only [Cx.re, upd_same, hhp]; simp, ?_, ?_⟩
          · have h4 := hS.len; have h5 := hX.len
            simp only [List.size_toArray, List.length_append, h2, h4, h5, Cx.re, upd_same]
            rw [← Nat.add_mul, ← Nat.add_mul]
            congr 1; omega
          · rw [← List.append_assoc]
            exact take_left_of hH.length))
        (fun _ => by
          simp only [Cx.re, upd_same]
          exact ⟨by rw [hhp]; simp, fun hf => absurd (hg.fzlt _ hf) (by omega), fun q hq' hvq e => absurd (hg.lt q hvq) (by omega)⟩)
      refine hrun a w _ w' hr next Q (hk _ _ _ (AppA hok gr) ?_ (htr.scrub gr) hG)
      simp [SRep, Cx.re, hln]
  · rename_i l o' sz' n' c' ex
    obtain ⟨hok, h⟩ := cond_some h
    rw [ex] at hd
    simp only [dstOk, Bool.and_eq_true] at hd
    obtain ⟨d1, d2, d3, d4⟩ := hd
    have d1 := Nat.eq_of_beq_eq_true d1
    have d2 := Nat.eq_of_beq_eq_true d2
    have d3 := Nat.eq_of_beq_eq_true d3
    subst d1; subst d2
    refine ⟨_, _, _, h, (by first | exact scrubT_sub | exact List.Sublist.refl _), fun cx w a hg htr next Q hk => ?_⟩
    obtain ⟨n, m, ba, bb, ca, cc, olds, news, hS, hX, hH, hft⟩ := hcont cx w a hg htr
    have hv := eval_coA hx htr
    rw [ex] at hv
    simp only [SRep] at hv
    obtain ⟨hln, hve⟩ := hv
    have hvS := hS.val
    rw [hve] at hvS
    simp only [Value.slice.injEq] at hvS
    obtain ⟨e1, e2, e3⟩ := hvS
    subst e2; subst e3
    have hO := hg.obj l
    have hlh : l < s.h.length := hg.n ▸ hln
    split at d4
    · rename_i t' cs hgt
      have d4 := Nat.eq_of_beq_eq_true d4
      rw [hgt] at hO
      obtain ⟨t', c'', hb1, hb2⟩ := hO
      have hcl := hb2.length
      have hv1 : liv cx s.h l := by simp [liv, hgt]
      have hcs : c''.length = n' * szT P e := by rw [← hcl, d4]
      have holds : c'' = olds := by
        have hol := hS.len
        apply List.ext_getElem?
        intro j
        rcases Nat.lt_or_ge j olds.length with hjo | hjo
        · have hc := hS.cell (ad (cx.th l) 0) e1.symm j _ (List.getElem?_eq_getElem hjo)
          rw [addr_add] at hc
          simp only [World.cell?, ad, hb1, Nat.zero_add, Option.isSome_none, Bool.false_eq_true, if_false] at hc
          rw [List.getElem?_eq_getElem hjo, ← hc]; simp
        · rw [List.getElem?_eq_none hjo, List.getElem?_eq_none (by omega)]
      have g1 : Gam cx ((scrubH l s.h).set l .dead) w := Gam.renew hg hlh (Grow.refl _ _ _) rfl (fun _ h => h) (fun _ _ _ => rfl) trivial (fun hl => by simp [liv, hget_set_eq (h := scrubH l s.h) (l := l) (by rw [scrubH_length]; exact hlh)] at hl)
      have hlen1 : ((scrubH l s.h).set l .dead).length = s.h.length := by rw [List.length_set, scrubH_length]
      have t1 : TRep cx w (scrubT l s.t) a.tmps := htr.scrub (Grow.refl _ _ _)
      have hne1 : ∀ q, liv cx ((scrubH l s.h).set l .dead) q → q ≠ l ∧ liv cx s.h q := by
        intro q hq
        by_cases e : q = l
        · subst e; simp [liv, hget_set_eq (h := scrubH q s.h) (l := q) (by rw [scrubH_length]; exact hlh)] at hq
        · refine ⟨e, ?_⟩
          rw [← scrub_liv (l := l)]
          simpa [liv, hget_set_ne e] using hq
      by_cases hroom : n' + m ≤ n'
      · have hm0 : m = 0 := by omega
        subst hm0
        have hnews : news = [] := List.length_eq_zero_iff.1 (by rw [hX.len]; simp)
        subst hnews
        have hr := run_app_room (P := P) (ty := o.type) ht hu hsz (sLen := n') (sCap := n') hb1 (by simp; omega) hX (by omega)
        have hset : w.setRow (cx.th l) ((Array.mk c'').toList.take (n' * szT P e) ++ [] ++ (Array.mk c'').toList.drop (n' * szT P e + ([] : List Value).length)).toArray = w := by
          have : ((Array.mk c'').toList.take (n' * szT P e) ++ [] ++ (Array.mk c'').toList.drop (n' * szT P e + ([] : List Value).length)).toArray = ⟨c''⟩ := by simp
          rw [this]; exact setRow_self w _ _ t' _ hb1
        rw [hset, ← hve] at hr
        have hG := Gam.take g1 so (cx.th l) (n' + 0) n' false (szT P e)
          (ORep.row_of (hH.mono (fun _ h => h) fun _ _ => rfl) (by simp [Cx.ext]) (by simp [Cx.ext]) (by simp [Cx.ext]) (by simp [Cx.ext]) (fun _ => ⟨t', ⟨c''⟩, by simpa [Cx.ext] using hb1, by simp [Cx.ext, hcs], by simp [← holds, List.take_of_length_le, hcs]⟩))
          (fun _ => ⟨hg.lt l hv1, hg.own l hv1, fun q hq e => (hne1 q hq).1 (hg.inj l q hv1 (hne1 q hq).2 e).symm⟩)
        refine hrun a w _ w hr next Q (hk _ _ _ hG.2.to ?_ (t1.grow hG.2) hG.1)
        have hn := g1.n
        rw [hlen1] at hn
        simp [SRep, Cx.ext, ← hn]
      · obtain ⟨nc, rest, w0, h1, h2, ⟨h3, h3o, h3p⟩, hr⟩ := run_app_grow (P := P) (ty := o.type) ht hu hsz hby hz hS hX hroom hft
        obtain ⟨g2, gr2⟩ := Gam.world g1 (w' := w0) h3 h3o h3p
        have hs0 : w0.heap.size = w.heap.size := by rw [h3]
        have hoth : ∀ b, cx.fz b → ({ w0 with heap := w0.heap.push (.cells ⟨olds ++ (news ++ rest)⟩ e) } : World).heap[b]? = w.heap[b]? := fun b hb => by
          have := hg.fzlt b (.inl hb)
          simp [h3, Array.getElem?_push, Nat.ne_of_lt this]
        have hG := Gam.push g2 so (.cells ⟨olds ++ (news ++ rest)⟩ e) (n' + m) nc false (szT P e) (.inl ⟨_, _, rfl⟩)
          (ORep.row_of (hH.mono (fun _ h => h) hoth) (by simp [Cx.ext]) (by simp [Cx.ext]) (by simp [Cx.ext, h1]) (by simp [Cx.ext]) (fun _ => ⟨e, ⟨olds ++ (news ++ rest)⟩, by simp [Cx.ext], by
            have h4 := hS.len; have h5 := hX.len
            simp only [List.size_toArray, List.length_append, h2, h4, h5, Cx.ext, upd_same]
            rw [← Nat.add_mul, ← Nat.add_mul]
            congr 1; omega, by rw [← List.append_assoc]; exact take_left_of hH.length⟩))
        refine hrun a w _ _ hr next Q (hk _ _ _ (gr2.trans hG.2).to ?_ (t1.grow (gr2.trans hG.2)) hG.1)
        have hn := g1.n
        rw [hlen1] at hn
        simp [SRep, Cx.ext, ← hn, hs0]
    · simp at d4
  · rename_i hn1 hn2
    have hnil : ev s.t x' = .d (.v (.slice none 0 0)) := by
      unfold dstOk at hd
      split at hd
      · assumption
      · rename_i l e'; exact absurd e' (hn1 l)
      · rename_i l a b c d e'; exact absurd e' (hn2 l a b c d)
      · simp at hd
    refine ⟨_, _, _, h, (by first | exact scrubT_sub | exact List.Sublist.refl _), fun cx w a hg htr next Q hk => ?_⟩
    obtain ⟨n, m, ba, bb, ca, cc, olds, news, hS, hX, hH, hft⟩ := hcont cx w a hg htr
    have hv := eval_coA hx htr
    rw [hnil] at hv
    simp only [SRep, DRep] at hv
    have hve := hv.1
    have hvS := hS.val
    rw [hve] at hvS
    simp only [Value.slice.injEq] at hvS
    obtain ⟨e1, e2, e3⟩ := hvS
    subst e1; subst e2; subst e3
    have hn := hg.n
    by_cases hroom : 0 + m ≤ 0
    · have hr := run_app_none (P := P) (ty := o.type) ht hu hsz (sLen := 0) (sCap := 0) hX hroom
      rw [← hve] at hr
      have hG := Gam.take hg so 0 (0 + m) 0 true (szT P e)
        (ORep.row_of (hH.mono (fun _ h => h) fun _ _ => rfl) (by simp [Cx.ext]) (by simp [Cx.ext]) (by simp [Cx.ext]; omega) (by simp [Cx.ext]) (by simp [Cx.ext]))
        (fun hl => by
          have := (liv_row hH (by rw [hn]; exact hget_append_eq)).1 hl
          simp [Cx.ext] at this)
      refine hrun a w _ w hr next Q (hk _ _ _ hG.2.to ?_ (htr.grow hG.2) hG.1)
      simp [SRep, Cx.ext, ← hn]
    · obtain ⟨nc, rest, w0, h1, h2, ⟨h3, h3o, h3p⟩, hr⟩ := run_app_grow (P := P) (ty := o.type) ht hu hsz hby hz hS hX hroom hft
      obtain ⟨g2, gr2⟩ := Gam.world hg (w' := w0) h3 h3o h3p
      have hs0 : w0.heap.size = w.heap.size := by rw [h3]
      have hoth : ∀ b, cx.fz b → ({ w0 with heap := w0.heap.push (.cells ⟨olds ++ (news ++ rest)⟩ e) } : World).heap[b]? = w.heap[b]? := fun b hb => by
        have := hg.fzlt b (.inl hb)
        simp [h3, Array.getElem?_push, Nat.ne_of_lt this]
      have hG := Gam.push g2 so (.cells ⟨olds ++ (news ++ rest)⟩ e) (0 + m) nc false (szT P e) (.inl ⟨_, _, rfl⟩)
        (ORep.row_of (hH.mono (fun _ h => h) hoth) (by simp [Cx.ext]) (by simp [Cx.ext]) (by simp [Cx.ext]; omega) (by simp [Cx.ext]) (fun _ => ⟨e, ⟨olds ++ (news ++ rest)⟩, by simp [Cx.ext], by
          have h4 := hS.len; have h5 := hX.len
          simp only [List.size_toArray, List.length_append, h2, h4, h5, Cx.ext, upd_same]
          rw [← Nat.add_mul, ← Nat.add_mul]
          congr 1; omega, by rw [← List.append_assoc]; exact take_left_of hH.length⟩))
      refine hrun a w _ _ hr next Q (hk _ _ _ (gr2.trans hG.2).to ?_ (htr.grow (gr2.trans hG.2)) hG.1)
      simp [SRep, Cx.ext, ← hn, hs0]

/-- An append that moves the row to a new loc. -/
theorem app_coreE {x y : Operand} {x' : CA} {t u e e' : TypeId} {so : SO} (ho : o.op = .call { callee := .builtin .append, args := #[x, y], argTypes := #[t, u] }) (hx : coA x = some x')
    (ht : uT P t = .slice e) (hu : uT P u = .slice e') (hsz : szT P e ≠ 0) (hby : byT P e ≠ 0) (hz : (zcT P e).isSome = true)
    (hd : dstOk s.h (szT P e) (ev s.t x') = true)
    (hown : ∀ l, ev s.t x' = .own l → (∃ t k xs, hget s.h l = .rowi t k xs ∧ szT P e = 1) ∨ (∃ t n f, hget s.h l = .row t (szT P e) n f))
    (hcont : ∀ (cx : Cx) (w : World) (a : Act), Gam cx s.h w → TRep cx w s.t a.tmps → ∃ (n m : Nat) (ba bb : Option Addr) (ca cc : Nat) (olds news : List Value),
      Src w (szT P e) n (a.eval x) ba ca olds ∧ Src w (szT P e) m (a.eval y) bb cc news ∧ Holds cx.fz w (szT P e) (n + m) (olds ++ news) so ∧ fits (n + m) (byT P e) = true)
    (h : putNew s (ev s.t x') so k = some out) : PlainE P o s k out := by
  have hrun : ∀ (a : Act) (w : World) (v : Value) (w' : World), (Builtin.append_ #[t, u] o.type #[a.eval x, a.eval y]).run P w = .ok v w' → ∀ (next : Act → World → Prop) (Q : Exit → Act → World → Prop), next (a.put o.dst v) w' → o.wp P a w next Q := by
    intro a w v w' hr next Q hn
    unfold Oper.wp
    rw [run_b2 ho]
    simp only [builtin, Sem.run_bind, hr, Result.andThen_ok, Sem.run_pure, Oper.upon_value]
    exact hn
  have hkp : ∀ (l : Nat) (so : SO), Keeps [l] s.h (s.h.set l .dead ++ [so]) := fun l so =>
    ⟨by simp, fun q hq hm => by
      have hne : q ≠ l := by
        intro e; subst e; simp [nmem] at hm
      rw [hget_append_lt (by simpa using hq), hget_set_ne hne]⟩
  -- a grown row, where memory holds it behind what was
  have hgrow : ∀ (l : Nat) (cx : Cx) (w : World) (a : Act) (n m : Nat) (ba bb : Option Addr) (ca cc : Nat) (olds news : List Value) (h1 : SH), Gam cx h1 w → h1.length = s.h.length → TRep cx w s.t a.tmps →
      Src w (szT P e) n (a.eval x) ba ca olds → Src w (szT P e) m (a.eval y) bb cc news → Holds cx.fz w (szT P e) (n + m) (olds ++ news) so → fits (n + m) (byT P e) = true → ¬ (n + m ≤ ca) → a.eval x = .slice ba n ca →
      ∀ (next : Act → World → Prop) (Q : Exit → Act → World → Prop), (∀ cx' w' v', Grow0 cx w cx' w' → SRep cx' w' (.own s.h.length) v' → TRep cx' w' s.t a.tmps → Gam cx' (h1 ++ [so]) w' → next (a.put o.dst v') w') → o.wp P a w next Q := by
    intro l cx w a n m ba bb ca cc olds news h1 g1 hl1 htr hS hX hH hft hroom hve next Q hk
    obtain ⟨nc, rest, w0, h1', h2, ⟨h3, h3o, h3p⟩, hr⟩ := run_app_grow (P := P) (ty := o.type) ht hu hsz hby hz hS hX hroom hft
    obtain ⟨g2, gr2⟩ := Gam.world g1 (w' := w0) h3 h3o h3p
    have hs0 : w0.heap.size = w.heap.size := by rw [h3]
    have hoth : ∀ b, cx.fz b → ({ w0 with heap := w0.heap.push (.cells ⟨olds ++ (news ++ rest)⟩ e) } : World).heap[b]? = w.heap[b]? := fun b hb => by
      have := g1.fzlt b (.inl hb)
      simp [h3, Array.getElem?_push, Nat.ne_of_lt this]
    have hG := Gam.push g2 so (.cells ⟨olds ++ (news ++ rest)⟩ e) (n + m) nc false (szT P e) (.inl ⟨_, _, rfl⟩)
      (ORep.row_of (hH.mono (fun _ h => h) hoth) (by simp [Cx.ext]) (by simp [Cx.ext]) (by simp [Cx.ext, h1']) (by simp [Cx.ext]) (fun _ => ⟨e, ⟨olds ++ (news ++ rest)⟩, by simp [Cx.ext], by
        have h4 := hS.len; have h5 := hX.len
        simp only [List.size_toArray, List.length_append, h2, h4, h5, Cx.ext, upd_same]
        rw [← Nat.add_mul, ← Nat.add_mul]
        congr 1; omega, by rw [← List.append_assoc]; exact take_left_of hH.length⟩))
    refine hrun a w _ _ hr next Q (hk _ _ _ (gr2.trans hG.2) ?_ (htr.grow (gr2.trans hG.2)) hG.1)
    have hn := g1.n
    rw [hl1] at hn
    simp [SRep, Cx.ext, ← hn, hs0]
  unfold putNew at h
  split at h
  · rename_i l ex
    refine ⟨_, _, _, h, fun cx w a hg htr next Q hk => ?_, hkp l so⟩
    obtain ⟨n, m, ba, bb, ca, cc, olds, news, hS, hX, hH, hft⟩ := hcont cx w a hg htr
    have hv := eval_coA hx htr
    rw [ex] at hv
    simp only [SRep] at hv
    obtain ⟨hln, hve⟩ := hv
    have hvS := hS.val
    rw [hve] at hvS
    simp only [Value.slice.injEq] at hvS
    obtain ⟨e1, e2, e3⟩ := hvS
    have hO := hg.obj l
    have hlh : l < s.h.length := hg.n ▸ hln
    obtain ⟨hrs, hle, hnl, hblk⟩ : cx.rs l = szT P e ∧ cx.ln l ≤ cx.cp l ∧ (cx.nl l = true → cx.cp l = 0) ∧ (cx.nl l = false → ∃ t c', w.heap[cx.th l]? = some (.cells c' t (0, 0)) ∧ c'.size = cx.cp l * szT P e) := by
      rcases hown l ex with ⟨t', k', xs, hgt, hs1⟩ | ⟨t', n', f, hgt⟩
      · rw [hgt] at hO
        obtain ⟨h1, h2, h3, h4, h5⟩ := hO
        refine ⟨by rw [h2, hs1], by omega, h4, fun e => ?_⟩
        obtain ⟨t', c', h6, h7, _⟩ := h5 e
        exact ⟨t', c', h6, by rw [hs1, Nat.mul_one]; exact h7⟩
      · rw [hgt] at hO
        obtain ⟨h1, h2, h3, h4, h5⟩ := hO
        refine ⟨h2, by omega, h4, fun e => ?_⟩
        obtain ⟨t', c', h6, h7, _⟩ := h5 e
        exact ⟨t', c', h6, h7⟩
    have hlive : liv cx s.h l ↔ cx.nl l = false := by
      rcases hown l ex with ⟨t', k', xs, hgt, hs1⟩ | ⟨t', n', f, hgt⟩ <;> simp [liv, hgt]
    have hlen1 : (s.h.set l .dead).length = s.h.length := by simp
    have hne1 : ∀ q, liv cx (s.h.set l .dead) q → q ≠ l ∧ liv cx s.h q := by
      intro q hq
      by_cases e : q = l
      · subst e; simp [liv, hget_set_eq (h := s.h) hlh] at hq
      · exact ⟨e, by simpa [liv, hget_set_ne e] using hq⟩
    by_cases hroom : n + m ≤ cx.cp l
    · cases hq : cx.nl l with
      | true =>
        have h0 := hnl hq
        have hr := run_app_none (P := P) (ty := o.type) ht hu hsz (sLen := n) (sCap := cx.cp l) hX hroom
        have hev : a.eval x = .slice none n (cx.cp l) := by rw [hve, hq, e2]; rfl
        rw [← hev] at hr
        have hn0 : n + m = 0 := by omega
        have g1 : Gam cx (s.h.set l .dead) w := Gam.drop hg l
        have hn := g1.n
        rw [hlen1] at hn
        have hG := Gam.take g1 so 0 (n + m) 0 true (szT P e)
          (ORep.row_of (hH.mono (fun _ h => h) fun _ _ => rfl) (by simp [Cx.ext]) (by simp [Cx.ext]) (by simp [Cx.ext]; omega) (by simp [Cx.ext]) (by simp [Cx.ext]))
          (fun hl => by
            have := (liv_row hH (by rw [hn, ← hlen1]; exact hget_append_eq)).1 hl
            simp [Cx.ext] at this)
        refine hrun a w _ w hr next Q (hk _ _ _ hG.2 ?_ (htr.grow hG.2) hG.1)
        simp [SRep, Cx.ext, ← hn, h0]
      | false =>
        obtain ⟨t', c', hb1, hb2⟩ := hblk hq
        have hv1 := hlive.2 hq
        have hnl' : news.length = m * szT P e := hX.len
        have hmul : (n + m) * szT P e ≤ cx.cp l * szT P e := Nat.mul_le_mul_right _ hroom
        have hfit : n * szT P e + news.length ≤ c'.size := by rw [hnl', ← Nat.add_mul, hb2]; exact hmul
        have hr := run_app_room (P := P) (ty := o.type) ht hu hsz (sLen := n) (sCap := cx.cp l) hb1 hfit hX hroom
        have hev : a.eval x = .slice (some (ad (cx.th l) 0)) n (cx.cp l) := by rw [hve, hq, e2]; rfl
        rw [← hev] at hr
        have holds : c'.toList.take (n * szT P e) = olds := by
          have hol := hS.len
          apply List.ext_getElem?
          intro j
          rw [List.getElem?_take]
          split
          · rename_i hj
            have hjo : j < olds.length := by omega
            have hc := hS.cell (ad (cx.th l) 0) (by rw [← e1, hq]; rfl) j _ (List.getElem?_eq_getElem hjo)
            rw [addr_add] at hc
            simp only [World.cell?, ad, hb1, Nat.zero_add, Option.isSome_none, Bool.false_eq_true, if_false] at hc
            rw [List.getElem?_eq_getElem hjo, ← hc]; simp
          · rename_i hj
            rw [List.getElem?_eq_none (by omega)]
        generalize hw' : w.setRow (cx.th l) (c'.toList.take (n * szT P e) ++ news ++ c'.toList.drop (n * szT P e + news.length)).toArray = w' at hr
        have hoth : ∀ b, b ≠ cx.th l → w'.heap[b]? = w.heap[b]? := fun b hb => by rw [← hw']; exact setRow_ne _ _ _ _ hb
        have hsz' : w'.heap.size = w.heap.size := by rw [← hw']; exact setRow_size _ _ _
        have hsame : ∀ b, cx.hd b → w'.heap[b]? = w.heap[b]? := fun b hb => hoth b (fun e => hg.own l hv1 (e ▸ hb))
        obtain ⟨g1, gr1⟩ := Gam.write hg hv1 .dead (.inr rfl) hsz' hoth trivial (hw' ▸ Io.setRow _ _ _)
        have hn := g1.n
        rw [hlen1] at hn
        have hG := Gam.take g1 so (cx.th l) (n + m) (cx.cp l) false (szT P e)
          (ORep.row_of (hH.mono (fun _ h => h) (fun b hb => hsame b (.inl hb))) (by simp [Cx.ext]) (by simp [Cx.ext]) (by simp [Cx.ext, hroom]) (by simp [Cx.ext]) (fun _ => by
            refine ⟨t', (c'.toList.take (n * szT P e) ++ news ++ c'.toList.drop (n * szT P e + news.length)).toArray, by rw [← hw']; simp only [Cx.ext, upd_same]; exact setRow_get _ _ _ _ _ hb1, ?_, ?_⟩
            · simp [Cx.ext]; omega
            · rw [holds, List.append_assoc, ← List.append_assoc olds]
              apply take_left_of
              have := hS.len
              simp [hnl', Nat.add_mul]; omega))
          (fun _ => ⟨by rw [hsz']; exact hg.lt l hv1, hg.own l hv1, fun q hvq e => (hne1 q hvq).1 (hg.inj l q hv1 (hne1 q hvq).2 e).symm⟩)
        refine hrun a w _ w' hr next Q (hk _ _ _ (gr1.trans hG.2) ?_ (htr.grow (gr1.trans hG.2)) hG.1)
        simp [SRep, Cx.ext, ← hn]
    · refine hgrow l cx w a n m ba bb ca cc olds news (s.h.set l .dead) (Gam.drop hg l) hlen1 htr hS hX hH hft (by rw [← e3]; exact hroom) hS.val next Q hk
  · rename_i l o' sz' n' c' ex
    rw [ex] at hd
    simp only [dstOk, Bool.and_eq_true] at hd
    obtain ⟨d1, d2, d3, d4⟩ := hd
    have d1 := Nat.eq_of_beq_eq_true d1
    have d2 := Nat.eq_of_beq_eq_true d2
    have d3 := Nat.eq_of_beq_eq_true d3
    subst d1; subst d2
    refine ⟨_, _, _, h, fun cx w a hg htr next Q hk => ?_, hkp l so⟩
    obtain ⟨n, m, ba, bb, ca, cc, olds, news, hS, hX, hH, hft⟩ := hcont cx w a hg htr
    have hv := eval_coA hx htr
    rw [ex] at hv
    simp only [SRep] at hv
    obtain ⟨hln, hve⟩ := hv
    have hvS := hS.val
    rw [hve] at hvS
    simp only [Value.slice.injEq] at hvS
    obtain ⟨e1, e2, e3⟩ := hvS
    subst e2; subst e3
    have hO := hg.obj l
    have hlh : l < s.h.length := hg.n ▸ hln
    split at d4
    · rename_i t' cs hgt
      have d4 := Nat.eq_of_beq_eq_true d4
      rw [hgt] at hO
      obtain ⟨t', c'', hb1, hb2⟩ := hO
      have hcl := hb2.length
      have hv1 : liv cx s.h l := by simp [liv, hgt]
      have hcs : c''.length = n' * szT P e := by rw [← hcl, d4]
      have holds : c'' = olds := by
        have hol := hS.len
        apply List.ext_getElem?
        intro j
        rcases Nat.lt_or_ge j olds.length with hjo | hjo
        · have hc := hS.cell (ad (cx.th l) 0) e1.symm j _ (List.getElem?_eq_getElem hjo)
          rw [addr_add] at hc
          simp only [World.cell?, ad, hb1, Nat.zero_add, Option.isSome_none, Bool.false_eq_true, if_false] at hc
          rw [List.getElem?_eq_getElem hjo, ← hc]; simp
        · rw [List.getElem?_eq_none hjo, List.getElem?_eq_none (by omega)]
      have g1 : Gam cx (s.h.set l .dead) w := Gam.drop hg l
      have hlen1 : (s.h.set l .dead).length = s.h.length := by simp
      have hne1 : ∀ q, liv cx (s.h.set l .dead) q → q ≠ l ∧ liv cx s.h q := by
        intro q hq
        by_cases e : q = l
        · subst e; simp [liv, hget_set_eq (h := s.h) hlh] at hq
        · exact ⟨e, by simpa [liv, hget_set_ne e] using hq⟩
      by_cases hroom : n' + m ≤ n'
      · have hm0 : m = 0 := by omega
        subst hm0
        have hnews : news = [] := List.length_eq_zero_iff.1 (by rw [hX.len]; simp)
        subst hnews
        have hr := run_app_room (P := P) (ty := o.type) ht hu hsz (sLen := n') (sCap := n') hb1 (by simp; omega) hX (by omega)
        have hset : w.setRow (cx.th l) ((Array.mk c'').toList.take (n' * szT P e) ++ [] ++ (Array.mk c'').toList.drop (n' * szT P e + ([] : List Value).length)).toArray = w := by
          have : ((Array.mk c'').toList.take (n' * szT P e) ++ [] ++ (Array.mk c'').toList.drop (n' * szT P e + ([] : List Value).length)).toArray = ⟨c''⟩ := by simp
          rw [this]; exact setRow_self w _ _ t' _ hb1
        rw [hset, ← hve] at hr
        have hG := Gam.take g1 so (cx.th l) (n' + 0) n' false (szT P e)
          (ORep.row_of (hH.mono (fun _ h => h) fun _ _ => rfl) (by simp [Cx.ext]) (by simp [Cx.ext]) (by simp [Cx.ext]) (by simp [Cx.ext]) (fun _ => ⟨t', ⟨c''⟩, by simpa [Cx.ext] using hb1, by simp [Cx.ext, hcs], by simp [← holds, List.take_of_length_le, hcs]⟩))
          (fun _ => ⟨hg.lt l hv1, hg.own l hv1, fun q hq e => (hne1 q hq).1 (hg.inj l q hv1 (hne1 q hq).2 e).symm⟩)
        refine hrun a w _ w hr next Q (hk _ _ _ hG.2 ?_ (htr.grow hG.2) hG.1)
        have hn := g1.n
        rw [hlen1] at hn
        simp [SRep, Cx.ext, ← hn]
      · exact hgrow l cx w a n' m ba bb n' cc olds news (s.h.set l .dead) g1 hlen1 htr hS hX hH hft hroom hS.val next Q hk
    · simp at d4
  · rename_i hn1 hn2
    have hnil : ev s.t x' = .d (.v (.slice none 0 0)) := by
      unfold dstOk at hd
      split at hd
      · assumption
      · rename_i l e'; exact absurd e' (hn1 l)
      · rename_i l a b c d e'; exact absurd e' (hn2 l a b c d)
      · simp at hd
    refine ⟨_, _, _, h, fun cx w a hg htr next Q hk => ?_, .new _ _⟩
    obtain ⟨n, m, ba, bb, ca, cc, olds, news, hS, hX, hH, hft⟩ := hcont cx w a hg htr
    have hv := eval_coA hx htr
    rw [hnil] at hv
    simp only [SRep, DRep] at hv
    have hve := hv.1
    have hvS := hS.val
    rw [hve] at hvS
    simp only [Value.slice.injEq] at hvS
    obtain ⟨e1, e2, e3⟩ := hvS
    subst e1; subst e2; subst e3
    have hn := hg.n
    by_cases hroom : 0 + m ≤ 0
    · have hr := run_app_none (P := P) (ty := o.type) ht hu hsz (sLen := 0) (sCap := 0) hX hroom
      rw [← hve] at hr
      have hG := Gam.take hg so 0 (0 + m) 0 true (szT P e)
        (ORep.row_of (hH.mono (fun _ h => h) fun _ _ => rfl) (by simp [Cx.ext]) (by simp [Cx.ext]) (by simp [Cx.ext]; omega) (by simp [Cx.ext]) (by simp [Cx.ext]))
        (fun hl => by
          have := (liv_row hH (by rw [hn]; exact hget_append_eq)).1 hl
          simp [Cx.ext] at this)
      refine hrun a w _ w hr next Q (hk _ _ _ hG.2 ?_ (htr.grow hG.2) hG.1)
      simp [SRep, Cx.ext, ← hn]
    · exact hgrow 0 cx w a 0 m none bb 0 cc olds news s.h hg rfl htr hS hX hH hft hroom hS.val next Q hk
end
end Go.Sx

/- Operations, thirteenth part: append and make put together. -/
namespace Go.Sx

section
variable {P : Program} {A : Ann} {o : Oper} {s : SS} {Ω : Type} {k : SV → List Nat → SS → Option Ω} {out : Ω}

theorem catF_lt {n i : Nat} (h : i < n) (f g : Nat → Nat → DV) : catF n f g i = f i := by
  have : Nat.blt i n = true := Nat.ble_eq_true_of_le h
  simp [catF, this]
theorem catF_ge {n i : Nat} (h : n ≤ i) (f g : Nat → Nat → DV) : catF n f g i = g (i - n) := by
  have : Nat.blt i n = false := Bool.eq_false_iff.2 fun e => by have := Nat.le_of_ble_eq_true e; omega
  simp [catF, this]

theorem holds_cat {fz : Nat → Prop} {w : World} {sz n m : Nat} {l1 l2 : List Value} {e : TypeId} {f g : Nat → Nat → DV} (h1 : Holds fz w sz n l1 (.row e sz n f)) (h2 : Holds fz w sz m l2 (.row e sz m g)) :
    Holds fz w sz (n + m) (l1 ++ l2) (.row e sz (n + m) (catF n f g)) := by
  obtain ⟨_, _, a3, a4⟩ := h1
  obtain ⟨_, _, b3, b4⟩ := h2
  refine ⟨rfl, rfl, by simp [a3, b3, Nat.add_mul], fun i hi j hj => ?_⟩
  rcases Nat.lt_or_ge i n with h | h
  · obtain ⟨v, h5, h6⟩ := a4 i h j hj
    refine ⟨v, ?_, by rw [catF_lt h]; exact h6⟩
    rw [List.getElem?_append_left (List.getElem?_eq_some_iff.1 h5).1]; exact h5
  · obtain ⟨v, h5, h6⟩ := b4 (i - n) (by omega) j hj
    refine ⟨v, ?_, by rw [catF_ge h]; exact h6⟩
    have : n * sz ≤ i * sz := Nat.mul_le_mul_right _ h
    rw [List.getElem?_append_right (by rw [a3]; omega), a3]
    rw [show i * sz + j - n * sz = (i - n) * sz + j by rw [Nat.sub_mul]; omega]; exact h5

theorem snd_app {x y : Operand} {x' y' : CA} {t u e e' : TypeId} (ho : o.op = .call { callee := .builtin .append, args := #[x, y], argTypes := #[t, u] }) (hx : coA x = some x') (hy : coA y = some y')
    (ht : uT P t = .slice e) (hu : uT P u = .slice e') (hsz : szT P e ≠ 0) (hby : byT P e ≠ 0) (hz : (zcT P e).isSome = true) (hint : intOk P e = true)
    {env : Env Ω} (h : sop env A (.app e (szT P e) (byT P e) (kindT P e) x' y') s k = some out) : Plain P A o s k out := by
  simp only [sop, appS] at h
  obtain ⟨hd, h⟩ := cond_some h
  split at h
  · rename_i kd hk
    have hs1 : szT P e = 1 := by
      simp only [intOk, hk] at hint; exact Nat.eq_of_beq_eq_true hint
    split at h
    · rename_i xs ys h1 h2
      rcases br_some h with ⟨hft, h⟩ | ⟨_, h⟩
      · refine app_core ho hx ht hu hsz hby hz hd (fun l e' => ?_) (fun cx w a hg htr => ?_) h
        · left
          rw [e'] at h1
          simp only [intsOf] at h1
          split at h1
          · rename_i t' k' xs' hg; exact ⟨t', k', xs', hg, hs1⟩
          · simp at h1
        · obtain ⟨ba, ca, hS⟩ := src_ints hg (eval_coA hx htr) h1
          obtain ⟨bb, cc, hX⟩ := src_ints hg (eval_coA hy htr) h2
          refine ⟨_, _, ba, bb, ca, cc, _, _, by rw [hs1]; exact hS, by rw [hs1]; exact hX, ⟨hs1, by simp, by simp⟩, hft⟩
      · simp at h
    · simp at h
  · rename_i hk
    split at h
    · rename_i n f m g h1 h2
      rcases br_some h with ⟨hft, h⟩ | ⟨_, h⟩
      · refine app_core ho hx ht hu hsz hby hz hd (fun l e' => ?_) (fun cx w a hg htr => ?_) h
        · right
          rw [e'] at h1
          simp only [rowOf] at h1
          split at h1
          · rename_i t' sz' n' f' hg
            have := Nat.eq_of_beq_eq_true (cond_some h1).1
            exact ⟨t', n', f', by rw [hg, this]⟩
          · simp at h1
        · obtain ⟨ba, ca, l1, hS, hH1⟩ := src_row (e := e) hg (eval_coA hx htr) h1
          obtain ⟨bb, cc, l2, hX, hH2⟩ := src_row (e := e) hg (eval_coA hy htr) h2
          exact ⟨_, _, ba, bb, ca, cc, _, _, hS, hX, holds_cat hH1 hH2, hft⟩
      · simp at h
    · simp at h

/-- The same where it moves the row to a new loc. -/
theorem snd_appE {x y : Operand} {x' y' : CA} {t u e e' : TypeId} (ho : o.op = .call { callee := .builtin .append, args := #[x, y], argTypes := #[t, u] }) (hx : coA x = some x') (hy : coA y = some y')
    (ht : uT P t = .slice e) (hu : uT P u = .slice e') (hsz : szT P e ≠ 0) (hby : byT P e ≠ 0) (hz : (zcT P e).isSome = true) (hint : intOk P e = true)
    (h : appE s e (szT P e) (byT P e) (kindT P e) (ev s.t x') (ev s.t y') k = some out) : PlainE P o s k out := by
  simp only [appE] at h
  obtain ⟨hd, h⟩ := cond_some h
  split at h
  · rename_i kd hk
    have hs1 : szT P e = 1 := by
      simp only [intOk, hk] at hint; exact Nat.eq_of_beq_eq_true hint
    split at h
    · rename_i xs ys h1 h2
      rcases br_some h with ⟨hft, h⟩ | ⟨_, h⟩
      · refine app_coreE ho hx ht hu hsz hby hz hd (fun l e' => ?_) (fun cx w a hg htr => ?_) h
        · left
          rw [e'] at h1
          simp only [intsOf] at h1
          split at h1
          · rename_i t' k' xs' hg; exact ⟨t', k', xs', hg, hs1⟩
          · simp at h1
        · obtain ⟨ba, ca, hS⟩ := src_ints hg (eval_coA hx htr) h1
          obtain ⟨bb, cc, hX⟩ := src_ints hg (eval_coA hy htr) h2
          refine ⟨_, _, ba, bb, ca, cc, _, _, by rw [hs1]; exact hS, by rw [hs1]; exact hX, ⟨hs1, by simp, by simp⟩, hft⟩
      · simp at h
    · simp at h
  · rename_i hk
    split at h
    · rename_i n f m g h1 h2
      rcases br_some h with ⟨hft, h⟩ | ⟨_, h⟩
      · refine app_coreE ho hx ht hu hsz hby hz hd (fun l e' => ?_) (fun cx w a hg htr => ?_) h
        · right
          rw [e'] at h1
          simp only [rowOf] at h1
          split at h1
          · rename_i t' sz' n' f' hg
            have := Nat.eq_of_beq_eq_true (cond_some h1).1
            exact ⟨t', n', f', by rw [hg, this]⟩
          · simp at h1
        · obtain ⟨ba, ca, l1, hS, hH1⟩ := src_row (e := e) hg (eval_coA hx htr) h1
          obtain ⟨bb, cc, l2, hX, hH2⟩ := src_row (e := e) hg (eval_coA hy htr) h2
          exact ⟨_, _, ba, bb, ca, cc, _, _, hS, hX, holds_cat hH1 hH2, hft⟩
      · simp at h
    · simp at h

theorem repl_get {α : Type} {c : List α} {sz j : Nat} {v : α} : ∀ (n : Nat) {i : Nat}, c.length = sz → i < n → j < sz → c[j]? = some v → (List.replicate n c).flatten[i * sz + j]? = some v
  | 0, i, _, h, _, _ => by omega
  | n + 1, 0, hc, _, hj, hv => by
    simp only [List.replicate_succ, List.flatten_cons, Nat.zero_mul, Nat.zero_add]
    rw [List.getElem?_append_left (by omega)]; exact hv
  | n + 1, i + 1, hc, h, hj, hv => by
    simp only [List.replicate_succ, List.flatten_cons]
    rw [List.getElem?_append_right (by rw [hc, Nat.add_mul]; omega), hc]
    rw [show (i + 1) * sz + j - sz = i * sz + j by rw [Nat.add_mul]; omega]
    exact repl_get n hc (by omega) hj hv

theorem soft_rep {cx : Cx} {w : World} : ∀ {ks : List (Option IntKind)} {z : List SV} {c : List Value}, SRepL cx w z c → SRepL cx w (softL ks z) c
  | [], _, _, h => h
  | q :: _, [], [], _ => by cases q <;> simp only [softL, SRepL]
  | _ :: _, [], _ :: _, h => by simp [SRepL] at h
  | _ :: _, _ :: _, [], h => by simp [SRepL] at h
  | q :: ks, x :: r, v :: vs, h => by
    simp only [SRepL] at h
    unfold softL
    split
    · rename_i e1 e2
      simp only [List.cons.injEq] at e1 e2
      obtain ⟨rfl, rfl⟩ := e2
      obtain ⟨_, rfl⟩ := e1
      have h1 := h.1
      simp only [SRep, DRep] at h1
      exact ⟨by simp only [SRep, DRep]; exact ⟨none, 0, by rw [h1.1]; rfl, Nat.le_refl _, fun hn => absurd rfl hn⟩, soft_rep h.2⟩
    · rename_i e1 e2
      simp only [List.cons.injEq] at e1 e2
      obtain ⟨rfl, rfl⟩ := e2
      obtain ⟨_, rfl⟩ := e1
      exact ⟨h.1, soft_rep h.2⟩
    · rename_i e1; cases e1
    · rename_i e1 _; cases e1

/-- No list is known but by its value. -/
def NoInts (z : List SV) : Prop := ∀ x ∈ z, ∀ k l, x ≠ .d (.ints k l)

theorem hard_of : ∀ {z : List SV}, NoInts z → hardL z = z
  | [], _ => rfl
  | x :: r, h => by
    simp only [hardL]
    rw [hard_of (z := r) fun y hy => h y (by simp [hy])]
    have := h x (by simp)
    split
    · exact absurd rfl (this _ _)
    · rfl

theorem hard_soft : ∀ (ks : List (Option IntKind)) {z : List SV}, NoInts z → hardL (softL ks z) = z
  | [], z, h => by simp only [softL]; exact hard_of h
  | q :: _, [], _ => by cases q <;> rfl
  | q :: ks, x :: r, h => by
    have hr : NoInts r := fun y hy => h y (by simp [hy])
    unfold softL
    split
    · rename_i e1 e2
      simp only [List.cons.injEq] at e1 e2
      obtain ⟨rfl, rfl⟩ := e2
      obtain ⟨_, rfl⟩ := e1
      simp only [hardL, hard_soft _ hr]
    · rename_i e1 e2
      simp only [List.cons.injEq] at e1 e2
      obtain ⟨rfl, rfl⟩ := e2
      obtain ⟨_, rfl⟩ := e1
      simp only [hardL, hard_soft _ hr]
      have := h x (by simp)
      split
      · rename_i k l; exact absurd rfl (this _ _)
      · rfl
    · rename_i e1; cases e1
    · rename_i e1 _; cases e1

theorem zc_hard {e : TypeId} {z : List SV} (h : zcT P e = some z) : NoInts z := by
  unfold zcT at h
  split at h
  · rename_i v hv
    have hc : ∃ c, v = cst c := by
      unfold zT at hv
      split at hv
      · split at hv
        · simp only [Option.some.injEq] at hv; exact ⟨_, hv.symm⟩
        · simp at hv
      · simp at hv
    obtain ⟨c, rfl⟩ := hc
    split at h
    · rename_i y hy
      have h := (cond_some h).2
      simp only [Option.some.injEq] at h; subst h
      unfold cellsOf at hy
      split at hy
      · rename_i cs ec
        have hy := (cond_some hy).2
        simp only [Option.some.injEq] at hy; subst hy
        unfold cst at ec
        split at ec
        · simp at ec
        · simp at ec
        · rename_i c'
          cases hf' : flatV c'.toList with
          | true =>
            rw [hf'] at ec
            simp only [cond_true, SV.agg.injEq] at ec
            subst ec
            intro x hx k l e
            obtain ⟨y, _, rfl⟩ := List.mem_map.1 hx
            simp at e
          | false => rw [hf'] at ec; simp at ec
        · simp at ec
        · simp at ec
      · rename_i x hx
        have hy := (cond_some hy).2
        simp only [Option.some.injEq] at hy; subst hy
        intro x hx k l e
        simp only [List.mem_singleton] at hx
        subst hx
        unfold cst at e
        split at e
        · simp at e
        · simp at e
        · rename_i c'
          cases hf' : flatV c'.toList with
          | true => rw [hf'] at e; simp at e
          | false => rw [hf'] at e; simp at e
        · simp at e
        · simp at e
    · simp at h
  · simp at h

theorem snd_mks {ks : List (Option IntKind)} {t e : TypeId} {l : Nat} {z : List SV} (ho : o.op = .makeSlice t (.tmp l) (.tmp l)) (ht : uT P t = .slice e) (hz : zcT P e = some z) (hsz : szT P e ≠ 0) (hby : byT P e ≠ 0) (hint : intOk P e = true)
    {env : Env Ω} (h : sop env A (.mks e (szT P e) (byT P e) (kindT P e) (softL ks z) (.t l)) s k = some out) : PlainE P o s k out := by
  simp only [sop] at h
  split at h
  · rename_i kn n en
    rcases br_some h with ⟨hc, h⟩ | ⟨_, h⟩
    · simp only [Bool.and_eq_true, decide_eq_true_eq, fits] at hc
      obtain ⟨h0, hft⟩ := hc
      obtain ⟨i, zv, c', hi, hzv, hcc, hzl, hisz, hr⟩ := zcT_sound hz
      have hr' : ∀ cx w, SRepL cx w (softL ks z) c' := fun cx w => soft_rep (hr cx w).1
      have hb : i.bytes = byT P e := by simp [byT, hi]
      have core : ∀ so : SO, (∀ (cx : Cx) (w : World), Holds cx.fz w (szT P e) n.toNat (List.replicate n.toNat c').flatten so) → k (.own s.h.length) [] ⟨s.t, s.h ++ [so]⟩ = some out → (n ≤ 9223372036854775807 → PlainE P o s k out) := by
        intro so hH h hmax
        refine ⟨_, _, _, h, OpOK0.new fun cx w a hg htr => ?_, .new _ _⟩
        have hcl := (hr cx w).1.length
        have hne : c' ≠ [] := by intro e0; apply hsz; rw [← hzl, hcl, e0]; rfl
        have hm : madeCells zv.cells (n.toNat * i.size) = ⟨(List.replicate n.toNat c').flatten⟩ := by
          have := made_eq c' hne n.toNat
          rw [hcc, hisz, ← hzl, hcl]; exact this
        have hn := int_of (en ▸ (show SRep cx w (ev s.t (.t l)) (a.eval (.tmp l)) from SRep.lk l htr))
        have hrun := run_make (P := P) (w := w) t e i zv (by rw [← ht]; exact (info_of_uT (by rw [ht]; simp)).1) hi hzv kn kn n n h0 (Int.le_refl _) (by
          rw [hb]
          have : (n.toNat : Int) = n := by omega
          have h2 : ((n.toNat * byT P e : Nat) : Int) ≤ 140737488355328 := Int.ofNat_le.2 hft
          rw [Int.natCast_mul, this, Int.mul_comm] at h2
          omega) hmax
        refine ⟨.slice (some (ad w.heap.size 0)) n.toNat n.toNat, w, .cells ⟨(List.replicate n.toNat c').flatten⟩ e, n.toNat, n.toNat, false, szT P e, ⟨rfl, rfl, rfl, _, _, rfl⟩, ?_, fun cx' w' e1 e2 gr => ?_⟩
        · simp only [execOp, ho]
          rw [hn]
          rw [Sem.run_bind, hrun, hm]; rfl
        · subst e1; subst e2
          refine ⟨ORep.row_of (hH _ _) (by simp [Cx.ext]) (by simp [Cx.ext]) (by simp [Cx.ext]) (by simp [Cx.ext]) (fun _ => ⟨e, ⟨(List.replicate n.toNat c').flatten⟩, by simp [Cx.ext], ?_, ?_⟩), ?_⟩
          · simp [Cx.ext, ← hzl, hcl]
          · rw [List.take_of_length_le]
            simp [← hzl, hcl]
          · have := hg.n
            simp [SRep, Cx.ext, ← this]
      have hmax : n ≤ 9223372036854775807 := by
        have h2 : n.toNat * 1 ≤ n.toNat * byT P e := Nat.mul_le_mul_left _ (Nat.pos_of_ne_zero hby)
        omega
      split at h
      · rename_i kd hk
        have hs1 : szT P e = 1 := by
          simp only [intOk, hk] at hint; exact Nat.eq_of_beq_eq_true hint
        split at h
        · rename_i x hxz
          refine core _ (fun cx w => ?_) h hmax
          have := asInts_map hxz (hr' cx w)
          rw [this]
          refine ⟨hs1, by simp, ?_⟩
          rename_i xx _ _
          simp [List.flatten_replicate_singleton]
        · simp at h
      · rename_i hk
        cases hmc : A.mc with
        | true =>
          rw [hmc, cond_true] at h
          refine ⟨_, _, _, h, OpOK0.new fun cx w a hg htr => ?_, .new _ _⟩
          have hcl := (hr cx w).1.length
          have hne : c' ≠ [] := by intro e0; apply hsz; rw [← hzl, hcl, e0]; rfl
          have hm : madeCells zv.cells (n.toNat * i.size) = ⟨(List.replicate n.toNat c').flatten⟩ := by
            have := made_eq c' hne n.toNat
            rw [hcc, hisz, ← hzl, hcl]; exact this
          have hn := int_of (en ▸ (show SRep cx w (ev s.t (.t l)) (a.eval (.tmp l)) from SRep.lk l htr))
          have hrun := run_make (P := P) (w := w) t e i zv (by rw [← ht]; exact (info_of_uT (by rw [ht]; simp)).1) hi hzv kn kn n n h0 (Int.le_refl _) (by
            rw [hb]
            have : (n.toNat : Int) = n := by omega
            have h2 : ((n.toNat * byT P e : Nat) : Int) ≤ 140737488355328 := Int.ofNat_le.2 hft
            rw [Int.natCast_mul, this, Int.mul_comm] at h2
            omega) hmax
          refine ⟨.slice (some (ad w.heap.size 0)) n.toNat n.toNat, w, .cells ⟨(List.replicate n.toNat c').flatten⟩ e, 0, 0, false, 0, ⟨rfl, rfl, rfl, _, _, rfl⟩, ?_, fun cx' w' e1 e2 gr => ?_⟩
          · simp only [execOp, ho]
            rw [hn]
            rw [Sem.run_bind, hrun, hm]; rfl
          · subst e1; subst e2
            refine ⟨⟨e, (List.replicate n.toNat c').flatten, by simp [Cx.ext], ?_⟩, ?_⟩
            · rw [hard_soft ks (zc_hard hz)]
              exact rep_sound (hr _ _).1 n.toNat
            · have := hg.n
              simp [SRep, Cx.ext, ← this]
        | false =>
        rw [hmc, cond_false] at h
        split at h
        · rename_i ds hds
          refine core _ (fun cx w => ?_) h hmax
          obtain ⟨h3, h4⟩ := (hr' cx w).toD hds
          have hcl := (hr cx w).1.length
          have hcl' := (hr' cx w).length
          refine ⟨rfl, rfl, by simp [← hzl, hcl], fun i' hi' j hj => ?_⟩
          obtain ⟨v, h5, h6⟩ := h4 j (by omega)
          refine ⟨v, ?_, by simpa [lkD] using h6⟩
          exact repl_get n.toNat (by rw [← hcl, hzl]) hi' hj h5
        · simp at h
    · simp at h
  · simp at h
end
end Go.Sx

/- Operations, fourteenth part: calls. -/
namespace Go.Sx

/-- What a call does. -/
def CallsOK (P : Program) (g : Nat) (args : List SV) (h : SH) (r : SV) (m sc : List Nat) (h' : SH) : Prop :=
  Keeps m h h' ∧ ∀ (cx : Cx) (w : World) (vals : List Value), Gam cx h w → SRepL cx w args vals →
    Calls P g ⟨vals⟩ w fun e w' => ∃ v cx', e = .returned v ∧ Grow (fun l => nmem l sc) cx w cx' w' ∧ SRep cx' w' r v ∧ Gam cx' h' w'

def SpecOK (P : Program) (g : Nat) {Ω : Type} (sp : Spec Ω) : Prop :=
  (∀ (args : Array Value) (w : World), (callFunc g args).run P w = .ok (.enter g args) w) ∧
  ∀ args h k out, sp args h k = some out → ∃ r m sc h', k r m sc h' = some out ∧ CallsOK P g args h r m sc h'

def EnvOK (P : Program) {Ω : Type} (env : Env Ω) : Prop := ∀ g sp, env g = some sp → SpecOK P g sp

theorem scrubTs_mem : ∀ {sc : List Nat} {t : List (Nat × SV)} {i : Nat} {x : SV}, (i, x) ∈ scrubTs t sc → (i, x) ∈ t ∧ ∀ l ∈ sc, ment (Nat.beq l) x = false
  | [], t, i, x, h => ⟨h, by simp⟩
  | l :: r, t, i, x, h => by
    obtain ⟨h1, h2⟩ := scrubTs_mem (sc := r) h
    obtain ⟨h3, h4⟩ := scrubT_mem h1
    exact ⟨h3, by intro m hm; rcases List.mem_cons.1 hm with rfl | hm; exact h4; exact h2 m hm⟩

 mutual
theorem ment_or {p q r : Nat → Bool} (hr : ∀ l, r l = true → p l = true ∨ q l = true) : ∀ x : SV, ment p x = false → ment q x = false → ment r x = false
  | .d _, _, _ | .rp _ _ _, _, _ | .top, _, _ => by simp [ment]
  | .ptr l _, h1, h2 | .pe l _ _, h1, h2 | .own l, h1, h2 | .mp l, h1, h2 | .cs l _ _ _ _, h1, h2 => by
    simp only [ment] at *
    cases h : r l with
    | false => rfl
    | true => rcases hr l h with h | h <;> simp_all
  | .fn _ a b, h1, h2 => by
    simp only [ment, Bool.or_eq_false_iff] at *
    exact ⟨mentL_or hr a h1.1 h2.1, mentL_or hr b h1.2 h2.2⟩
  | .agg c, h1, h2 | .tup c, h1, h2 | .md _ c, h1, h2 | .rc c _, h1, h2 => by simp only [ment] at *; exact mentL_or hr c h1 h2
theorem mentL_or {p q r : Nat → Bool} (hr : ∀ l, r l = true → p l = true ∨ q l = true) : ∀ c : List SV, mentL p c = false → mentL q c = false → mentL r c = false
  | [], _, _ => rfl
  | x :: c, h1, h2 => by
    simp only [mentL, Bool.or_eq_false_iff] at *
    exact ⟨ment_or hr x h1.1 h2.1, mentL_or hr c h1.2 h2.2⟩
end

theorem ment_sub {p q : Nat → Bool} (hr : ∀ l, q l = true → p l = true) (x : SV) (h : ment p x = false) : ment q x = false := ment_or (fun l h => .inl (hr l h)) x h h

theorem ment_sc : ∀ (sc : List Nat) (x : SV), (∀ l ∈ sc, ment (Nat.beq l) x = false) → ment (fun l => nmem l sc) x = false
  | [], x, _ => by
    have : (fun l => nmem l []) = fun _ => false := funext fun l => by simp [nmem]
    rw [this]; exact ment_none x
  | m :: r, x, h => ment_or (p := Nat.beq m) (q := fun l => nmem l r) (fun l hl => by
      simp only [nmem] at hl
      cases hb : Nat.beq m l with
      | true => exact .inl rfl
      | false => rw [hb] at hl; exact .inr hl) x (h m (by simp)) (ment_sc r x fun l hl => h l (by simp [hl]))

theorem TRep.scrubs {cx cx' : Cx} {w w' : World} {sc : List Nat} (g : Grow (fun l => nmem l sc) cx w cx' w') {t : List (Nat × SV)} {tm : Array Value} (h : TRep cx w t tm) : TRep cx' w' (scrubTs t sc) tm :=
  fun i x hx => by
    obtain ⟨h1, h2⟩ := scrubTs_mem hx
    exact ⟨(h i x h1).1, SRep.mono g x _ (ment_sc sc x h2) (h i x h1).2⟩

section
variable {P : Program} {A : Ann} {o : Oper} {s : SS} {Ω : Type} {k : SV → List Nat → SS → Option Ω} {out : Ω}

/-- A call: what it gives, and that it does so. -/
def PlainC (P : Program) (o : Oper) (s : SS) (q : SV → List Nat → List Nat → SH → Option Ω) (out : Ω) : Prop :=
  ∃ r m sc h', q r m sc h' = some out ∧ OpOKp P (fun l => nmem l sc) o s r ⟨scrubTs s.t sc, h'⟩ ∧ Keeps m s.h h'

theorem snd_call {f : Operand} {args : Array Operand} {ats : Array TypeId} {f' : CA} {args' : List CA} (ho : o.op = .call { callee := .value f, args := args, argTypes := ats }) (hf : coA f = some f') (ha : coL args.toList = some args')
    {env : Env Ω} (he : EnvOK P env) {q : SV → List Nat → List Nat → SH → Option Ω} {g : Nat} {a b : List SV} (hv : ev s.t f' = .fn (.func g) a b) {sp : Spec Ω} (hg : env g = some sp)
    (h : sp (a ++ (evL s.t args' ++ b)) s.h q = some out) : PlainC P o s q out := by
  obtain ⟨henter, hsp⟩ := he g sp hg
  obtain ⟨r, m, sc, h', h1, hk, hc⟩ := hsp _ _ _ _ h
  refine ⟨r, m, sc, h', h1, fun cx w ac hG ht next Q hn => ?_, hk⟩
  have hfv := eval_coA hf ht
  rw [hv] at hfv
  simp only [SRep] at hfv
  obtain ⟨a', b', hfe, hra, hrb⟩ := hfv
  have hrl := eval_coL ht ha
  have hcall := hc cx w _ hG (hra.append (hrl.append hrb))
  unfold Oper.wp
  have : (execOp ac.eval o).run P w = .ok (.enter g ⟨a' ++ (args.toList.map ac.eval ++ b')⟩) w := by
    have e1 : (⟨a'⟩ ++ args.map ac.eval ++ ⟨b'⟩ : Array Value) = ⟨a' ++ (args.toList.map ac.eval ++ b')⟩ := Array.ext' (by simp)
    simp [execOp, ho, resolve, hfe, Deferred.ofValue, invoke, henter]
    try exact e1
  rw [this, Oper.upon_enter]
  refine hcall.mono fun e w' ⟨v, cx', he, gr, hr, hG'⟩ => ?_
  subst he
  exact hn cx' w' v gr hr (TRep.scrubs gr ht) hG'
end
end Go.Sx
