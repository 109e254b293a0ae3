/-
Plain laws: an event leaves a state such as may be, and alone whom it does not touch; two events of others can be done in any order.
-/
import Derived.Test.YtpmafghknafhaaaGreatStB
set_option linter.unusedSectionVars false
set_option linter.unusedVariables false
set_option linter.unusedSimpArgs false
namespace Go.Proofs.YtpmafghknafhaaaGreat
namespace Sp
theorem dropSe_is {l m : List Se} {k : SeK} (hm : maySe l = true) (h : dropSe l k = (m, 0)) : ∃ x, getK keySe l k = some x ∧ m = delK keySe l k := by
  cases hg : getK keySe l k with
  | some x =>
    rw [dropSe_ok hm hg] at h
    injection h with h1 h2
    exact ⟨x, rfl, h1.symm⟩
  | none =>
    unfold dropSe at h
    rw [if_neg (by rw [hm]; decide), idxSe_none.2 hg] at h
    simp only at h
    injection h with h1 h2
    exact absurd h2 (by decide)
theorem mayT_and {s : Sta} : mayT s = true ↔ mayRo s.1 = true ∧ maySe s.2 = true := by unfold mayT; rw [Bool.and_eq_true]
theorem applyT_ros {s : Sta} {e : Evt} (hm : mayT s = true) (hk : 1 ≤ e.k ∧ e.k ≤ 6) : applyT s e = (((doRo s.1 e.k e.u e.o).1, s.2), (doRo s.1 e.k e.u e.o).2) := by
  unfold applyT; rw [if_neg (by rw [hm]; decide), if_pos hk]
theorem applyT_put {s : Sta} {e : Evt} (hm : mayT s = true) (hk : e.k = 7) : applyT s e = ((s.1, (putSe s.2 ⟨e.u, e.i, e.v⟩).1), (putSe s.2 ⟨e.u, e.i, e.v⟩).2) := by
  unfold applyT; rw [if_neg (by rw [hm]; decide), if_neg (by omega), if_pos hk]
theorem applyT_drop {s : Sta} {e : Evt} (hm : mayT s = true) (hk : e.k = 8) : applyT s e = ((s.1, (dropSe s.2 (e.u, e.i)).1), (dropSe s.2 (e.u, e.i)).2) := by
  unfold applyT; rw [if_neg (by rw [hm]; decide), if_neg (by omega), if_neg (by omega), if_pos hk]
theorem applyT_non {s : Sta} {e : Evt} (hk : ¬ (1 ≤ e.k ∧ e.k ≤ 6) ∧ e.k ≠ 7 ∧ e.k ≠ 8) : applyT s e = (s, 1) := by
  unfold applyT
  split
  · rfl
  · rw [if_neg hk.1, if_neg hk.2.1, if_neg hk.2.2]
theorem applyT_may {s t : Sta} {e : Evt} (hm : mayT s = true) (h : applyT s e = (t, 0)) : mayT t = true := by
  obtain ⟨h1, h2⟩ := mayT_and.1 hm
  by_cases k1 : 1 ≤ e.k ∧ e.k ≤ 6
  · rw [applyT_ros hm k1] at h
    injection h with h3 h4
    rw [← h3]
    exact mayT_and.2 ⟨doRo_may (l := s.1) (k := e.k) (u := e.u) (o := e.o) (r := (doRo s.1 e.k e.u e.o).1) (Prod.ext rfl h4), h2⟩
  · by_cases k7 : e.k = 7
    · rw [applyT_put hm k7] at h
      injection h with h3 h4
      rw [← h3]
      exact mayT_and.2 ⟨h1, putSe_may (l := s.2) (s := ⟨e.u, e.i, e.v⟩) (m := (putSe s.2 ⟨e.u, e.i, e.v⟩).1) (Prod.ext rfl h4)⟩
    · by_cases k8 : e.k = 8
      · rw [applyT_drop hm k8] at h
        injection h with h3 h4
        obtain ⟨x, _, h5⟩ := dropSe_is (l := s.2) (k := (e.u, e.i)) (m := (dropSe s.2 (e.u, e.i)).1) h2 (Prod.ext rfl h4)
        rw [← h3]
        refine mayT_and.2 ⟨h1, ?_⟩
        simp only
        rw [h5]
        exact delK_may h2 _
      · rw [applyT_non ⟨k1, k7, k8⟩] at h
        injection h with h3 h4
        exact absurd h4 (by decide)
theorem applyT_may' {s : Sta} (e : Evt) (hm : mayT s = true) : mayT (applyT s e).1 = true := by
  by_cases h : (applyT s e).2 = 0
  · exact applyT_may hm (Prod.ext rfl h)
  · rw [applyT_err (t := (applyT s e).1) (d := (applyT s e).2) rfl h]; exact hm
theorem applyT_ne {s t : Sta} {e : Evt} (hm : mayT s = true) (h : applyT s e = (t, 0)) (hk : e.k ≠ 7) : s ≠ t := by
  obtain ⟨h1, h2⟩ := mayT_and.1 hm
  by_cases k1 : 1 ≤ e.k ∧ e.k ≤ 6
  · rw [applyT_ros hm k1] at h
    injection h with h3 h4
    intro e9
    rw [← h3] at e9
    exact doRo_ne (l := s.1) (k := e.k) (u := e.u) (o := e.o) (r := (doRo s.1 e.k e.u e.o).1) (Prod.ext rfl h4) (congrArg Prod.fst e9).symm
  · by_cases k8 : e.k = 8
    · rw [applyT_drop hm k8] at h
      injection h with h3 h4
      obtain ⟨x, hx, h5⟩ := dropSe_is (l := s.2) (k := (e.u, e.i)) (m := (dropSe s.2 (e.u, e.i)).1) h2 (Prod.ext rfl h4)
      intro e9
      rw [← h3] at e9
      have e10 : s.2 = delK keySe s.2 (e.u, e.i) := by
        have := congrArg Prod.snd e9
        simp only at this
        rwa [h5] at this
      rw [e10, getK_delK, if_pos rfl] at hx
      cases hx
    · rw [applyT_non ⟨k1, hk, k8⟩] at h
      injection h with h3 h4
      exact absurd h4 (by decide)
theorem applyT_alone {s t : Sta} {e : Evt} (hm : mayT s = true) (h : applyT s e = (t, 0)) {p : ByteArray} (hp : p ∉ touchT e) (q : ByteArray) : ofSe t.2 p = ofSe s.2 p ∧ getRo t.1 p q = getRo s.1 p q := by
  obtain ⟨h1, h2⟩ := mayT_and.1 hm
  unfold touchT at hp
  by_cases k1 : 1 ≤ e.k ∧ e.k ≤ 6
  · rw [if_pos k1, mergeS_mem] at hp
    simp only [List.mem_singleton, not_or] at hp
    rw [applyT_ros hm k1] at h
    injection h with h3 h4
    rw [← h3]
    exact ⟨rfl, others_get h1 (k := e.k) (u := e.u) (o := e.o) (r := (doRo s.1 e.k e.u e.o).1) (Prod.ext rfl h4) (fun e9 => hp.1 e9.1) (fun e9 => hp.2 e9.2)⟩
  · rw [if_neg k1] at hp
    by_cases k7 : e.k = 7
    · rw [if_pos (.inl k7)] at hp
      simp only [List.mem_singleton] at hp
      rw [applyT_put hm k7] at h
      injection h with h3 h4
      obtain ⟨_, _, h5, _⟩ := putSe_ok (l := s.2) (s := ⟨e.u, e.i, e.v⟩) (m := (putSe s.2 ⟨e.u, e.i, e.v⟩).1) (Prod.ext rfl h4)
      rw [← h3]
      simp only
      rw [h5]
      exact ⟨ofSe_put (maySe_ord h2) _ _ hp, by first | rfl | trivial⟩
    · by_cases k8 : e.k = 8
      · rw [if_pos (.inr k8)] at hp
        simp only [List.mem_singleton] at hp
        rw [applyT_drop hm k8] at h
        injection h with h3 h4
        obtain ⟨x, _, h5⟩ := dropSe_is (l := s.2) (k := (e.u, e.i)) (m := (dropSe s.2 (e.u, e.i)).1) h2 (Prod.ext rfl h4)
        rw [← h3]
        simp only
        rw [h5]
        exact ⟨ofSe_del (maySe_ord h2) _ _ hp, by first | rfl | trivial⟩
      · rw [applyT_non ⟨k1, k7, k8⟩] at h
        injection h with h3 h4
        exact absurd h4 (by decide)
/-- Two moves of others. -/
theorem doRo_err_eq {l l' : List En} {k : Int} {u o : ByteArray} (hm : mayRo l = true) (hm' : mayRo l' = true) (h1 : getRo l u o = getRo l' u o) (h2 : getRo l o u = getRo l' o u) (h3 : hasRo l u o = hasRo l' u o) (h4 : ofRo l u = ofRo l' u) (h5 : ofRo l o = ofRo l' o) : (doRo l k u o).2 = (doRo l' k u o).2 := by
  have e1 : okDo l k u o = okDo l' k u o := by unfold okDo; rw [hm, hm']
  have e2 : fullRo l u o = fullRo l' u o := by unfold fullRo; rw [h3, h4, h5]
  unfold doRo
  rw [e1, h1, h2, e2]
  split
  · rfl
  · simp only
    split
    · rfl
    · split <;> rfl
theorem two_ros {l : List En} (hm : mayRo l = true) {k k' : Int} {u o u' o' : ByteArray} (h1 : u ≠ u') (h2 : u ≠ o') (h3 : o ≠ u') (h4 : o ≠ o') {r1 r12 r2 r21 : List En} {d e f g : Int}
    (ha : doRo l k u o = (r1, d)) (hb : doRo r1 k' u' o' = (r12, e)) (hc : doRo l k' u' o' = (r2, f)) (hd : doRo r2 k u o = (r21, g)) : d = g ∧ e = f ∧ r12 = r21 := by
  have hm1 : mayRo r1 = true := by
    by_cases h : d = 0
    · subst h; exact doRo_may ha
    · rw [doRo_err ha h]; exact hm
  have hm2 : mayRo r2 = true := by
    by_cases h : f = 0
    · subst h; exact doRo_may hc
    · rw [doRo_err hc h]; exact hm
  have hk1 : getRo r1 u' o' = getRo l u' o' ∧ getRo r1 o' u' = getRo l o' u' ∧ hasRo r1 u' o' = hasRo l u' o' ∧ ofRo r1 u' = ofRo l u' ∧ ofRo r1 o' = ofRo l o' := by
    by_cases h : d = 0
    · subst h
      obtain ⟨_, a, b, _, hr⟩ := doRo_ok ha
      refine ⟨others_get hm ha (fun e => h1 e.1.symm) (fun e => h2 e.1.symm), ?_, ?_, others_of ha (Ne.symm h1) (Ne.symm h3), others_of ha (Ne.symm h2) (Ne.symm h4)⟩
      · exact others_get hm ha (fun e => h2 e.1.symm) (fun e => h1 e.1.symm)
      · have hk : getK keyRo r1 (u', o') = getK keyRo l (u', o') := by
          rw [hr, getK_setRo (setRo_ord (mayRo_ord hm) _ _) _ _ _ (fun e => h3 (show u' = o from congrArg Prod.fst e).symm), getK_setRo (mayRo_ord hm) _ _ _ (fun e => h1 (show u' = u from congrArg Prod.fst e).symm)]
        exact (hasRo_get hk).1
    · rw [doRo_err ha h]; exact ⟨rfl, rfl, rfl, rfl, rfl⟩
  have hk2 : getRo r2 u o = getRo l u o ∧ getRo r2 o u = getRo l o u ∧ hasRo r2 u o = hasRo l u o ∧ ofRo r2 u = ofRo l u ∧ ofRo r2 o = ofRo l o := by
    by_cases h : f = 0
    · subst h
      obtain ⟨_, a, b, _, hr⟩ := doRo_ok hc
      refine ⟨others_get hm hc (fun e => h1 e.1) (fun e => h3 e.1), others_get hm hc (fun e => h3 e.1) (fun e => h1 e.1), ?_, others_of hc h1 h2, others_of hc h3 h4⟩
      have hk : getK keyRo r2 (u, o) = getK keyRo l (u, o) := by
        rw [hr, getK_setRo (setRo_ord (mayRo_ord hm) _ _) _ _ _ (fun e => h2 (show u = o' from congrArg Prod.fst e)), getK_setRo (mayRo_ord hm) _ _ _ (fun e => h1 (show u = u' from congrArg Prod.fst e))]
      exact (hasRo_get hk).1
    · rw [doRo_err hc h]; exact ⟨rfl, rfl, rfl, rfl, rfl⟩
  have hef : e = f := by
    have := doRo_err_eq (k := k') (u := u') (o := o') hm1 hm hk1.1 hk1.2.1 hk1.2.2.1 hk1.2.2.2.1 hk1.2.2.2.2
    rw [hb, hc] at this
    exact this
  have hdg : d = g := by
    have := doRo_err_eq (k := k) (u := u) (o := o) hm2 hm hk2.1 hk2.2.1 hk2.2.2.1 hk2.2.2.2.1 hk2.2.2.2.2
    rw [hd, ha] at this
    exact this.symm
  refine ⟨hdg, hef, ?_⟩
  subst hdg hef
  by_cases h : d = 0
  · by_cases h' : e = 0
    · subst h h'
      obtain ⟨ok1, a1, b1, act1, q1⟩ := doRo_ok ha
      obtain ⟨ok2, a2, b2, act2, q2⟩ := doRo_ok hc
      obtain ⟨_, a3, b3, act3, q3⟩ := doRo_ok hb
      obtain ⟨_, a4, b4, act4, q4⟩ := doRo_ok hd
      rw [hk1.1, hk1.2.1, act2] at act3
      rw [hk2.1, hk2.2.1, act1] at act4
      injection act3 with e1 e2
      injection e2 with e2 _
      injection act4 with e3 e4
      injection e4 with e4 _
      subst e1 e2 e3 e4
      have n1 := (okDo_all ok1).2.2.2.1
      have n2 := (okDo_all ok2).2.2.2.1
      have o12 : OrdRo r12 := mayRo_ord (doRo_may hb)
      have o21 : OrdRo r21 := mayRo_ord (doRo_may hd)
      refine get_ext ltRo_ord o12 o21 fun kk => ?_
      rw [q3, q4, doRo_get (mayRo_ord hm1) n2, doRo_get (mayRo_ord hm2) n1, q1, q2, doRo_get (mayRo_ord hm) n1, doRo_get (mayRo_ord hm) n2]
      by_cases c1 : kk = (o', u')
      · subst c1
        rw [if_pos rfl, if_neg (fun e => h4 (congrArg Prod.fst e).symm), if_neg (fun e => h2 (congrArg Prod.fst e).symm), if_pos rfl]
      · rw [if_neg c1]
        by_cases c2 : kk = (u', o')
        · subst c2
          rw [if_pos rfl, if_neg (fun e => h3 (congrArg Prod.fst e).symm), if_neg (fun e => h1 (congrArg Prod.fst e).symm), if_neg c1, if_pos rfl]
        · rw [if_neg c2, if_neg c1, if_neg c2]
    · have e1 := doRo_err hb h'
      have e2 := doRo_err hc h'
      rw [e2, ha] at hd
      injection hd with hd _
      rw [e1, hd]
  · have e1 := doRo_err ha h
    have e2 := doRo_err hd h
    rw [e1, hc] at hb
    injection hb with hb _
    rw [e2, hb]
/-- What is done with a session: put, or dropped. -/
inductive SeOp where
  | put (x : Se)
  | drop (k : SeK)
def SeOp.key : SeOp → SeK
  | .put x => keySe x
  | .drop k => k
def SeOp.ok (l : List Se) : SeOp → Bool
  | .put x => oneS x
  | .drop k => (getK keySe l k).isSome
def SeOp.new : SeOp → Option Se
  | .put x => some x
  | .drop _ => none
def SeOp.err : SeOp → Int
  | .put _ => 1
  | .drop _ => 6
def SeOp.run (l : List Se) : SeOp → List Se × Int
  | .put x => putSe l x
  | .drop k => dropSe l k
theorem SeOp.run_is (l : List Se) (op : SeOp) (hm : maySe l = true) (hl : l.length ≤ 31) : (op.run l).2 = (if op.ok l then 0 else op.err) ∧ (op.ok l = false → (op.run l).1 = l) ∧ maySe (op.run l).1 = true ∧ (op.run l).1.length ≤ l.length + 1 ∧ (op.ok l = true → ∀ k, getK keySe (op.run l).1 k = if k = op.key then op.new else getK keySe l k) := by
  cases op with
  | put x =>
    show (putSe l x).2 = (if oneS x = true then 0 else 1) ∧ (oneS x = false → (putSe l x).1 = l) ∧ maySe (putSe l x).1 = true ∧ (putSe l x).1.length ≤ l.length + 1 ∧ (oneS x = true → ∀ k, getK keySe (putSe l x).1 k = if k = keySe x then some x else getK keySe l k)
    by_cases ho : oneS x = true
    · have := putSe_room hm ho (.inl (by omega))
      rw [if_pos ho, this]
      refine ⟨rfl, (fun h => absurd (ho.symm.trans h) (by decide)), putSe_may this, putK_small (maySe_ord hm) x, fun _ k => ?_⟩
      rw [getK_putK ltSe_ord (maySe_ord hm)]
    · have hf : oneS x = false := by simpa using ho
      have : putSe l x = (l, 1) := by unfold putSe; rw [if_pos (by rw [hf, Bool.and_false])]
      rw [if_neg ho, this]
      exact ⟨rfl, fun _ => rfl, hm, by simp, fun h => absurd h ho⟩
  | drop k =>
    show (dropSe l k).2 = (if (getK keySe l k).isSome = true then 0 else 6) ∧ ((getK keySe l k).isSome = false → (dropSe l k).1 = l) ∧ maySe (dropSe l k).1 = true ∧ (dropSe l k).1.length ≤ l.length + 1 ∧ ((getK keySe l k).isSome = true → ∀ k', getK keySe (dropSe l k).1 k' = if k' = k then none else getK keySe l k')
    by_cases ho : (getK keySe l k).isSome = true
    · obtain ⟨x, hg⟩ := Option.isSome_iff_exists.1 ho
      rw [if_pos ho, dropSe_ok hm hg]
      refine ⟨rfl, (fun h => absurd (ho.symm.trans h) (by decide)), delK_may hm _, Nat.le_succ_of_le (List.length_filter_le _ _), fun _ k' => ?_⟩
      rw [getK_delK]
    · have hg : getK keySe l k = none := by simpa using ho
      have : dropSe l k = (l, 6) := by unfold dropSe; rw [if_neg (by rw [hm]; decide), idxSe_none.2 hg]
      rw [if_neg ho, this]
      exact ⟨rfl, fun _ => rfl, hm, by simp, fun h => absurd h ho⟩
theorem two_ses {l : List Se} (hm : maySe l = true) (hl : l.length ≤ 30) (a b : SeOp) (hab : a.key ≠ b.key) : (a.run l).2 = (a.run (b.run l).1).2 ∧ (b.run (a.run l).1).2 = (b.run l).2 ∧ (b.run (a.run l).1).1 = (a.run (b.run l).1).1 := by
  obtain ⟨a1, a2, a3, a4, a5⟩ := a.run_is l hm (by omega)
  obtain ⟨b1, b2, b3, b4, b5⟩ := b.run_is l hm (by omega)
  obtain ⟨c1, c2, c3, c4, c5⟩ := b.run_is (a.run l).1 a3 (by omega)
  obtain ⟨d1, d2, d3, d4, d5⟩ := a.run_is (b.run l).1 b3 (by omega)
  have hok : ∀ (x y : SeOp) (l' : List Se), x.key ≠ y.key → ((x.ok l = false → l' = l)) → (x.ok l = true → ∀ k, getK keySe l' k = if k = x.key then x.new else getK keySe l k) → y.ok l' = y.ok l := by
    intro x y l' hne h1 h2
    cases y with
    | put z => rfl
    | drop k =>
      simp only [SeOp.ok]
      cases hx : x.ok l with
      | false => rw [h1 hx]
      | true => rw [h2 hx, if_neg (fun e => hne (show x.key = k from e.symm))]
  have eb : b.ok (a.run l).1 = b.ok l := hok a b _ hab a2 a5
  have ea : a.ok (b.run l).1 = a.ok l := hok b a _ (Ne.symm hab) b2 b5
  rw [ea] at d1 d2 d5
  rw [eb] at c1 c2 c5
  refine ⟨by rw [a1, d1], by rw [c1, b1], ?_⟩
  cases ha : a.ok l with
  | false =>
    rw [a2 ha, d2 ha]
  | true =>
    cases hb : b.ok l with
    | false => rw [b2 hb, c2 hb]
    | true =>
      refine get_ext ltSe_ord (maySe_ord c3) (maySe_ord d3) fun k => ?_
      rw [c5 hb, d5 ha, a5 ha, b5 hb]
      by_cases k1 : k = b.key
      · rw [if_pos k1, if_neg (fun e => hab (e.symm.trans k1)), if_pos k1]
      · rw [if_neg k1, if_neg k1]
def opOf (e : Evt) : SeOp := if e.k = 7 then .put ⟨e.u, e.i, e.v⟩ else .drop (e.u, e.i)
theorem applyT_ses {s : Sta} {e : Evt} (hm : mayT s = true) (hk : e.k = 7 ∨ e.k = 8) : applyT s e = ((s.1, ((opOf e).run s.2).1), ((opOf e).run s.2).2) := by
  rcases hk with hk | hk
  · rw [applyT_put hm hk]; unfold opOf; rw [if_pos hk]; rfl
  · rw [applyT_drop hm hk]; unfold opOf; rw [if_neg (by omega)]; rfl
theorem opOf_key (e : Evt) : (opOf e).key = (e.u, e.i) := by unfold opOf; split <;> rfl
theorem two_events {s : Sta} {a b : Evt} (hm : mayT s = true) (hl : s.2.length ≤ 30) (hab : ∀ x ∈ touchT a, x ∉ touchT b) : (applyT s a).2 = (applyT (applyT s b).1 a).2 ∧ (applyT (applyT s a).1 b).2 = (applyT s b).2 ∧ (applyT (applyT s a).1 b).1 = (applyT (applyT s b).1 a).1 := by
  obtain ⟨h1, h2⟩ := mayT_and.1 hm
  have ma := applyT_may' a hm
  have mb := applyT_may' b hm
  by_cases na : ¬ (1 ≤ a.k ∧ a.k ≤ 6) ∧ a.k ≠ 7 ∧ a.k ≠ 8
  · rw [applyT_non na, applyT_non na]; exact ⟨rfl, rfl, rfl⟩
  by_cases nb : ¬ (1 ≤ b.k ∧ b.k ≤ 6) ∧ b.k ≠ 7 ∧ b.k ≠ 8
  · rw [applyT_non nb, applyT_non nb]; exact ⟨rfl, rfl, rfl⟩
  unfold touchT at hab
  by_cases ra : 1 ≤ a.k ∧ a.k ≤ 6
  · by_cases rb : 1 ≤ b.k ∧ b.k ≤ 6
    · rw [if_pos ra, if_pos rb] at hab
      have hu := hab a.u (by rw [mergeS_mem]; simp)
      have ho := hab a.o (by rw [mergeS_mem]; simp)
      rw [mergeS_mem] at hu ho
      simp only [List.mem_singleton, not_or] at hu ho
      rw [applyT_ros hm ra, applyT_ros hm rb] at *
      rw [applyT_ros ma rb, applyT_ros mb ra]
      have := two_ros h1 (k := a.k) (k' := b.k) hu.1 hu.2 ho.1 ho.2 (r1 := (doRo s.1 a.k a.u a.o).1) (r12 := (doRo (doRo s.1 a.k a.u a.o).1 b.k b.u b.o).1) (r2 := (doRo s.1 b.k b.u b.o).1) (r21 := (doRo (doRo s.1 b.k b.u b.o).1 a.k a.u a.o).1) rfl rfl rfl rfl
      exact ⟨this.1, this.2.1, Prod.ext this.2.2 rfl⟩
    · have sb : b.k = 7 ∨ b.k = 8 := by omega
      rw [applyT_ros hm ra, applyT_ses hm sb] at *
      rw [applyT_ses ma sb, applyT_ros mb ra]
      exact ⟨rfl, rfl, rfl⟩
  · have sa : a.k = 7 ∨ a.k = 8 := by omega
    by_cases rb : 1 ≤ b.k ∧ b.k ≤ 6
    · rw [applyT_ses hm sa, applyT_ros hm rb] at *
      rw [applyT_ros ma rb, applyT_ses mb sa]
      exact ⟨rfl, rfl, rfl⟩
    · have sb : b.k = 7 ∨ b.k = 8 := by omega
      rw [if_neg ra, if_pos sa, if_neg rb, if_pos sb] at hab
      have hu := hab a.u (by simp)
      simp only [List.mem_singleton] at hu
      rw [applyT_ses hm sa, applyT_ses hm sb] at *
      rw [applyT_ses ma sb, applyT_ses mb sa]
      have := two_ses h2 hl (opOf a) (opOf b) (by rw [opOf_key, opOf_key]; exact fun e => hu (congrArg Prod.fst e))
      exact ⟨this.1, this.2.1, Prod.ext rfl this.2.2⟩
end Sp
end Go.Proofs.YtpmafghknafhaaaGreat
