/-
Plain laws: rosters; who watches whom, and both sides.
-/
import Derived.Test.YtpmafghknafhaaaRosA
set_option linter.unusedSectionVars false
namespace Go.Proofs.Ytpmafghknafhaaa
namespace Sp
theorem ofRo_sorted {l : List En} (h : OrdRo l) (o : ByteArray) : Sorted (ofRo l o) := by
  unfold ofRo Sorted
  rw [List.pairwise_map]
  have h2 : (l.filter fun x => decide (x.o = o)).Pairwise fun a b => ltRo (keyRo a) (keyRo b) = true := List.Pairwise.filter _ h
  refine (List.pairwise_iff_forall_sublist.2 fun {a b} hab => ?_)
  have h3 := List.pairwise_iff_forall_sublist.1 h2 hab
  have ha : a.o = o := by
    have := List.mem_filter.1 (hab.subset (List.mem_cons_self ..))
    simpa using this.2
  have hb : b.o = o := by
    have := List.mem_filter.1 (hab.subset (List.mem_cons_of_mem _ (List.mem_cons_self ..)))
    simpa using this.2
  simp only [ltRo, keyRo, ha, hb, less_irrefl, Bool.false_or, Bool.and_eq_true, decide_eq_true_eq] at h3
  exact h3.2
theorem side {l : List En} (h : mayRo l = true) {x : En} (hx : x ∈ l) : hasRo l x.c x.o = true ∧ fitI x.it (getRo l x.c x.o) = true ∧ getRo l x.o x.c = x.it := by
  have h1 := ((mayRo_iff l).1 h).1 x hx
  unfold oneRo at h1
  simp only [Bool.and_eq_true] at h1
  exact ⟨h1.2.2.2.2.1, h1.2.2.2.2.2.1, getRo_some (show getK keyRo l (keyRo x) = some x from getK_of_mem ltRo_ord (mayRo_ord h) hx)⟩
theorem watch_of {l : List En} (h : mayRo l = true) (c : ByteArray) : (ofRo l c).filter (fun w => seesRo l w c) = watchRo l c := by
  refine (mergeS_eq _ _ _ (List.Pairwise.filter _ (ofRo_sorted (mayRo_ord h) c)) fun x => ?_).symm
  rw [List.mem_filter, ofRo_mem]
  simp only [List.mem_map, List.mem_filter, decide_eq_true_eq, Bool.and_eq_true, List.not_mem_nil, or_false]
  constructor
  · rintro ⟨⟨y, hy, h1, h2⟩, h3⟩
    obtain ⟨z, hz, e1, e2⟩ := hasRo_mem.1 (sees_has h3)
    exact ⟨z, ⟨hz, e2, by rw [e1]; exact h3⟩, e1⟩
  · rintro ⟨z, ⟨hz, e2, h3⟩, rfl⟩
    obtain ⟨y, hy, h1, h2⟩ := hasRo_mem.1 (side h hz).1
    exact ⟨⟨y, hy, h1.trans e2, h2⟩, h3⟩
theorem watch_sorted (l : List En) (c : ByteArray) : Sorted (watchRo l c) := mergeS_sorted _ _
theorem of_back {l : List En} (h : mayRo l = true) {o c : ByteArray} (hc : c ∈ ofRo l o) : o ∈ ofRo l c ∧ fitI (getRo l o c) (getRo l c o) = true := by
  obtain ⟨x, hx, rfl, rfl⟩ := ofRo_mem.1 hc
  obtain ⟨h1, h2, h3⟩ := side h hx
  obtain ⟨y, hy, e1, e2⟩ := hasRo_mem.1 h1
  exact ⟨ofRo_mem.2 ⟨y, hy, e1, e2⟩, by rw [h3]; exact h2⟩
def ownersRo (l : List En) : List ByteArray := mergeS (l.map En.o) []
theorem owners_nodup (l : List En) : (ownersRo l).Nodup := List.Pairwise.imp (fun h e => by rw [e, less_irrefl] at h; cases h) (mergeS_sorted (l.map En.o) [])
theorem count_out (o : ByteArray) : ∀ us : List ByteArray, ¬ o ∈ us → (us.map fun u => if o = u then 1 else 0).sum = 0
  | [], _ => rfl
  | u :: us, h => by
    rw [List.map_cons, List.sum_cons, count_out o us (fun h' => h (List.mem_cons_of_mem _ h')), if_neg (fun e => h (by rw [e]; exact List.mem_cons_self ..))]
theorem count_in (o : ByteArray) : ∀ us : List ByteArray, us.Nodup → o ∈ us → (us.map fun u => if o = u then 1 else 0).sum = 1
  | [], _, h => by cases h
  | u :: us, hn, h => by
    rw [List.map_cons, List.sum_cons]
    by_cases e : o = u
    · subst e
      rw [if_pos rfl, count_out _ us (List.nodup_cons.1 hn).1]
    · rw [if_neg e, count_in o us (List.nodup_cons.1 hn).2 ((List.mem_cons.1 h).resolve_left e)]
theorem sum_of (us : List ByteArray) (hn : us.Nodup) : ∀ l : List En, (∀ x ∈ l, x.o ∈ us) → (us.map fun u => (ofRo l u).length).sum = l.length
  | [], _ => by
    have : ∀ us : List ByteArray, (us.map fun u => (ofRo [] u).length).sum = 0 := by
      intro us
      induction us with
      | nil => rfl
      | cons u us ih => rw [List.map_cons, List.sum_cons, ih]; rfl
    exact this us
  | x :: l, h => by
    have ih := sum_of us hn l fun y hy => h y (List.mem_cons_of_mem _ hy)
    have e : ∀ u, (ofRo (x :: l) u).length = (if x.o = u then 1 else 0) + (ofRo l u).length := by
      intro u
      unfold ofRo
      rw [List.length_map, List.length_map, List.filter_cons]
      by_cases e : x.o = u
      · rw [if_pos (decide_eq_true e), if_pos e, List.length_cons]; omega
      · rw [if_neg (by simpa using e), if_neg e]; omega
    have e2 : ∀ us : List ByteArray, (us.map fun u => (ofRo (x :: l) u).length).sum = (us.map fun u => if x.o = u then 1 else 0).sum + (us.map fun u => (ofRo l u).length).sum := by
      intro us
      induction us with
      | nil => rfl
      | cons u us ih => rw [List.map_cons, List.sum_cons, List.map_cons, List.sum_cons, List.map_cons, List.sum_cons, ih, e]; omega
    rw [e2, ih, count_in x.o us hn (h x (List.mem_cons_self ..)), List.length_cons]
    omega
theorem owners_sum (l : List En) : ((ownersRo l).map fun u => (ofRo l u).length).sum = l.length := by
  refine sum_of _ (owners_nodup l) l fun x hx => ?_
  unfold ownersRo
  rw [mergeS_mem]
  exact .inl (List.mem_map_of_mem hx)
end Sp
end Go.Proofs.Ytpmafghknafhaaa
