/-
Plain laws of sessions: what is put is there, all users' sessions are all of them, two are put in any order.
-/
import Derived.Test.YtcopiimflloooaaSesA
set_option linter.unusedSectionVars false
namespace Go.Proofs.Ytcopiimflloooaa
namespace Sp
theorem keeps_plain {l m : List Se} {s : Se} (h : maySe l = true) (hp : putSe l s = (m, 0)) : ∃ n, dropSe m (keySe s) = (n, 0) ∧ maySe m = true ∧ maySe n = true ∧ n.length + 1 = m.length ∧
    (ofSe m s.u).countP (fun x => decide (x.i = s.i)) = 1 ∧ (∀ x ∈ ofSe m s.u, x.i = s.i → x = s) ∧ (∀ x ∈ ofSe n s.u, x.i ≠ s.i) ∧ ∀ o, o ≠ s.u → ofSe m o = ofSe l o ∧ ofSe n o = ofSe l o := by
  obtain ⟨_, h2, h3, h4⟩ := putSe_ok hp
  have hm := putSe_may hp
  have ho := maySe_ord h
  have hmo := maySe_ord hm
  have hg : getK keySe m (keySe s) = some s := by rw [h3, getK_putK ltSe_ord ho, if_pos rfl]
  have hsm : s ∈ m := (getK_mem hg).1
  have huniq : ∀ x ∈ ofSe m s.u, x.i = s.i → x = s := by
    intro x hx hi
    obtain ⟨h5, h6⟩ := ofSe_mem.1 hx
    exact ord_key ltSe_ord hmo h5 hsm (Prod.ext h6 hi)
  refine ⟨_, dropSe_ok hm hg, hm, delK_may hm _, delK_len ltSe_ord hmo hsm, ?_, huniq, ?_, ?_⟩
  · rw [List.countP_eq_length_filter]
    have : (ofSe m s.u).filter (fun x => decide (x.i = s.i)) = [s] := by
      refine ord_ext ltSe_ord _ _ (ord_filter _ (ofSe_ord hmo _)) (List.pairwise_singleton _ _) fun x => ?_
      rw [List.mem_filter, decide_eq_true_eq, List.mem_singleton]
      constructor
      · rintro ⟨h5, h6⟩
        exact huniq x h5 h6
      · rintro rfl
        exact ⟨ofSe_mem.2 ⟨hsm, rfl⟩, rfl⟩
    rw [this]
    rfl
  · intro x hx hi
    obtain ⟨h5, h6⟩ := ofSe_mem.1 hx
    exact (delK_mem.1 h5).2 (Prod.ext h6 hi)
  · intro o ho'
    have e1 : ofSe m o = ofSe l o := by rw [h3]; exact ofSe_put ho s o ho'
    exact ⟨e1, by rw [ofSe_del hmo _ o ho']; exact e1⟩
theorem small_len : ∀ (l : List Se) (a b : Int), a ≤ b → (∀ x ∈ l, a ≤ x.i ∧ x.i < b) → l.Pairwise (fun x y => x.i < y.i) → (l.length : Int) ≤ b - a
  | [], _, _, h, _, _ => by simp only [List.length_nil]; omega
  | x :: l, a, b, h, h1, h2 => by
    obtain ⟨h3, h4⟩ := List.pairwise_cons.1 h2
    have h5 := h1 x List.mem_cons_self
    have := small_len l (x.i + 1) b (by omega) (fun y hy => ⟨by have := h3 y hy; omega, (h1 y (List.mem_cons_of_mem _ hy)).2⟩) h4
    rw [List.length_cons]
    omega
theorem users_mem {l : List Se} {u : ByteArray} : u ∈ usersSe l ↔ ∃ x ∈ l, x.u = u := by
  unfold usersSe
  rw [mergeS_mem]
  simp
theorem users_sorted (l : List Se) : Sorted (usersSe l) := mergeS_sorted _ _
theorem of_len {l : List Se} (h : maySe l = true) {u : ByteArray} (hu : u ∈ usersSe l) : 1 ≤ (ofSe l u).length ∧ (ofSe l u).length ≤ 4 := by
  obtain ⟨x, hx, hxu⟩ := users_mem.1 hu
  have hx' : x ∈ ofSe l u := ofSe_mem.2 ⟨hx, hxu⟩
  refine ⟨List.length_pos_of_mem hx', ?_⟩
  have := small_len (ofSe l u) 0 4 (by omega) (fun y hy => ?_) ?_
  · omega
  · have h2 := ((maySe_iff l).1 h).2.1 y (ofSe_mem.1 hy).1
    unfold oneS at h2
    simp only [Bool.and_eq_true, decide_eq_true_eq] at h2
    exact ⟨h2.2.1, h2.2.2.1⟩
  · have ho := ofSe_ord (maySe_ord h) u
    refine List.Pairwise.imp_of_mem ?_ ho
    intro a b ha hb hab
    have ha' := (ofSe_mem.1 ha).2
    have hb' := (ofSe_mem.1 hb).2
    unfold ltSe keySe at hab
    simp only [Bool.or_eq_true, Bool.and_eq_true, decide_eq_true_eq] at hab
    rcases hab with hab | ⟨_, hab⟩
    · rw [ha', hb', less_irrefl] at hab; cases hab
    · exact hab
theorem all_plain {l : List Se} (h : maySe l = true) : (usersSe l).flatMap (ofSe l) = l := by
  have ho := maySe_ord h
  refine ord_ext ltSe_ord _ _ ?_ ho fun x => ?_
  · have : ∀ us : List ByteArray, Sorted us → InOrd keySe ltSe (us.flatMap (ofSe l)) := by
      intro us
      induction us with
      | nil => intro _; exact List.Pairwise.nil
      | cons u us ih =>
        intro hs
        obtain ⟨h1, h2⟩ := List.pairwise_cons.1 hs
        rw [List.flatMap_cons]
        refine List.pairwise_append.2 ⟨ofSe_ord ho u, ih h2, fun a ha b hb => ?_⟩
        obtain ⟨u', hu', hb'⟩ := List.mem_flatMap.1 hb
        have := h1 u' hu'
        unfold ltSe keySe
        rw [Bool.or_eq_true]
        left
        simp only
        rw [(ofSe_mem.1 ha).2, (ofSe_mem.1 hb').2]
        exact this
    exact this _ (users_sorted l)
  · rw [List.mem_flatMap]
    constructor
    · rintro ⟨u, _, hx⟩
      exact (ofSe_mem.1 hx).1
    · intro hx
      exact ⟨x.u, users_mem.2 ⟨x, hx, rfl⟩, ofSe_mem.2 ⟨hx, rfl⟩⟩
theorem putK_small {l : List Se} (h : InOrd keySe ltSe l) (s : Se) : (putK keySe ltSe l s).length ≤ l.length + 1 := by
  cases hg : getK keySe l (keySe s) with
  | none => rw [putK_len_new hg]; omega
  | some y => rw [putK_len_old ltSe_ord h hg]; omega
theorem putK_may {l : List Se} (h : maySe l = true) (hl : l.length < 32) {s : Se} (hs : oneS s = true) : maySe (putK keySe ltSe l s) = true :=
  putSe_may (putSe_room h hs (.inl hl))
theorem two_plain {l : List Se} {a b : Se} (h : maySe l = true) (hl : l.length ≤ 30) (ha : oneS a = true) (hb : oneS b = true) : ∃ x y xy yx, putSe l a = (x, 0) ∧ putSe l b = (y, 0) ∧ putSe x b = (xy, 0) ∧ putSe y a = (yx, 0) ∧ putSe x a = (x, 0) ∧
    (if a.u = b.u ∧ a.i = b.i then xy = y ∧ yx = x else xy = yx) ∧ x.length ≤ 32 ∧ y.length ≤ 32 ∧ xy.length ≤ 32 ∧ yx.length ≤ 32 := by
  have ho := maySe_ord h
  have hxl := putK_small ho a
  have hyl := putK_small ho b
  have hx := putK_may h (by omega) ha
  have hy := putK_may h (by omega) hb
  have hxo := maySe_ord hx
  have hyo := maySe_ord hy
  have hxy := putK_small hxo b
  have hyx := putK_small hyo a
  refine ⟨_, _, _, _, putSe_room h ha (.inl (by omega)), putSe_room h hb (.inl (by omega)), putSe_room hx hb (.inl (by omega)), putSe_room hy ha (.inl (by omega)), ?_, ?_, by omega, by omega, by omega, by omega⟩
  · rw [putSe_room hx ha (.inl (by omega)), putK_twice ltSe_ord ho a a rfl]
  · split
    · rename_i e
      have e' : keySe a = keySe b := Prod.ext e.1 e.2
      exact ⟨putK_twice ltSe_ord ho a b e', putK_twice ltSe_ord ho b a e'.symm⟩
    · rename_i e
      exact putK_comm ltSe_ord ho a b fun e' => e ⟨congrArg Prod.fst e', congrArg Prod.snd e'⟩
end Sp
end Go.Proofs.Ytcopiimflloooaa
