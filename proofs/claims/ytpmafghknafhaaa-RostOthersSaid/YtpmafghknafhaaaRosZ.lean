/-
Plain laws: what two do changes nobody else's items.
-/
import Derived.Test.YtpmafghknafhaaaRosD
set_option linter.unusedSectionVars false
namespace Go.Proofs.Ytpmafghknafhaaa
namespace Sp
theorem doRo_err {l : List En} {k : Int} {u o : ByteArray} {r : List En} {e : Int} (h : doRo l k u o = (r, e)) (he : e ≠ 0) : r = l := by
  unfold doRo at h
  split at h
  · injection h with h1 h2; exact h1.symm
  · simp only at h
    split at h
    · injection h with h1 h2; exact h1.symm
    · split at h
      · injection h with h1 h2; exact h1.symm
      · injection h with h1 h2; exact absurd h2.symm he
theorem doRo_ok {l : List En} {k : Int} {u o : ByteArray} {r : List En} (h : doRo l k u o = (r, 0)) : okDo l k u o = true ∧ ∃ a b : It, actI (getRo l u o) (getRo l o u) k = (a, b, 0) ∧ r = setRo (setRo l ⟨u, o, a⟩ (!(emptyI a && emptyI b))) ⟨o, u, b⟩ (!(emptyI a && emptyI b)) := by
  unfold doRo at h
  split at h
  · injection h with h1 h2; exact absurd h2 (by decide)
  · rename_i hok
    refine ⟨by simpa using hok, ?_⟩
    obtain ⟨a, b, e, hact⟩ : ∃ a b e, actI (getRo l u o) (getRo l o u) k = (a, b, e) := ⟨_, _, _, rfl⟩
    rw [hact] at h
    simp only at h
    split at h
    · rename_i he
      injection h with h1 h2
      exact absurd h2 he
    · rename_i he
      have he0 : e = 0 := Decidable.not_not.1 he
      subst he0
      split at h
      · injection h with h1 h2; exact absurd h2 (by decide)
      · injection h with h1 h2
        exact ⟨a, b, hact, h1.symm⟩
theorem getK_setRo {l : List En} (h : OrdRo l) (x : En) (keep : Bool) (k : EnK) (hk : k ≠ keyRo x) : getK keyRo (setRo l x keep) k = getK keyRo l k := by
  cases keep with
  | true => rw [setRo_put h, getK_putK ltRo_ord h, if_neg hk]
  | false => rw [setRo_del, getK_delK, if_neg hk]
theorem getRo_setRo {l : List En} (h : OrdRo l) (x : En) (keep : Bool) (p q : ByteArray) (hk : (p, q) ≠ keyRo x) : getRo (setRo l x keep) p q = getRo l p q := by
  unfold getRo
  rw [getK_setRo h x keep _ hk]
theorem filter_setRo (l : List En) (x : En) (keep : Bool) (f : En → Bool) (hx : ∀ y : En, keyRo y = keyRo x → f y = false) : (setRo l x keep).filter f = l.filter f := by
  have h1 : (delK keyRo l (keyRo x)).filter f = l.filter f := by
    unfold delK
    rw [List.filter_filter]
    refine List.filter_congr fun y _ => ?_
    by_cases e : keyRo y = keyRo x
    · rw [hx y e, Bool.false_and]
    · rw [decide_eq_false e, Bool.not_false, Bool.and_true]
  unfold setRo
  split
  · rw [List.filter_append, List.filter_cons, hx x rfl, if_neg (by simp), ← List.filter_append, tw_dw, h1]
  · exact h1
theorem others_get {l : List En} (hm : mayRo l = true) {k : Int} {u o : ByteArray} {r : List En} (h : doRo l k u o = (r, 0)) {p q : ByteArray} (h1 : ¬ (p = u ∧ q = o)) (h2 : ¬ (q = u ∧ p = o)) : getRo r p q = getRo l p q := by
  obtain ⟨_, a, b, _, rfl⟩ := doRo_ok h
  rw [getRo_setRo (setRo_ord (mayRo_ord hm) _ _) _ _ _ _ (fun e => h2 ⟨congrArg Prod.snd e, congrArg Prod.fst e⟩), getRo_setRo (mayRo_ord hm) _ _ _ _ (fun e => h1 ⟨congrArg Prod.fst e, congrArg Prod.snd e⟩)]
theorem others_sees {l : List En} (hm : mayRo l = true) {k : Int} {u o : ByteArray} {r : List En} (h : doRo l k u o = (r, 0)) {p q : ByteArray} (h1 : ¬ (p = u ∧ q = o)) (h2 : ¬ (q = u ∧ p = o)) : seesRo r p q = seesRo l p q := by
  unfold seesRo
  rw [others_get hm h h1 h2, others_get hm h (fun e => h2 e) (fun e => h1 e)]
theorem others_of {l : List En} {k : Int} {u o : ByteArray} {r : List En} (h : doRo l k u o = (r, 0)) {p : ByteArray} (h1 : p ≠ u) (h2 : p ≠ o) : ofRo r p = ofRo l p := by
  obtain ⟨_, a, b, _, rfl⟩ := doRo_ok h
  unfold ofRo
  rw [filter_setRo _ _ _ _ fun y e => decide_eq_false fun e2 => h2 (e2.symm.trans (congrArg Prod.fst e)), filter_setRo _ _ _ _ fun y e => decide_eq_false fun e2 => h1 (e2.symm.trans (congrArg Prod.fst e))]
theorem others_watch {l : List En} (hm : mayRo l = true) {k : Int} {u o : ByteArray} {r : List En} (h : doRo l k u o = (r, 0)) {p : ByteArray} (h1 : p ≠ u) (h2 : p ≠ o) : watchRo r p = watchRo l p := by
  have hs : ∀ x : ByteArray, seesRo r x p = seesRo l x p := fun x => others_sees hm h (fun e => h2 e.2) (fun e => h1 e.1)
  obtain ⟨_, a, b, _, rfl⟩ := doRo_ok h
  unfold watchRo
  congr 2
  simp only [hs]
  rw [filter_setRo _ _ _ _ fun y e => by rw [decide_eq_false fun e2 => h1 (e2.symm.trans (congrArg Prod.snd e)), Bool.false_and], filter_setRo _ _ _ _ fun y e => by rw [decide_eq_false fun e2 => h2 (e2.symm.trans (congrArg Prod.snd e)), Bool.false_and]]
end Sp
end Go.Proofs.Ytpmafghknafhaaa
