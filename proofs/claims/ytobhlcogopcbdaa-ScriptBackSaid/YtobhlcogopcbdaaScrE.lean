/-
Layer 23: an event out of bytes without a seal, and out of bytes, by the document's answer.
-/
import Derived.Test.YtobhlcogopcbdaaScrD
import Derived.Test.YtobhlcogopcbdaaLaw03a
set_option linter.unusedVariables false
set_option linter.unusedSimpArgs false
namespace Go.Proofs.Ytobhlcogopcbdaa
open Go.RowKit
namespace Sp
def byteAt (s : ByteArray) (i : Nat) : Int := ((s.data.toList.getD i 0).toNat : Int)
def readR (s : ByteArray) : Ev :=
  if s.toList = [] then zeroE
  else if (takeN s 1).2.2 ≠ 0 then zeroE
  else if byteAt s 0 ≤ 6 then ⟨byteAt s 0, (takeN s 1).1, (takeN s (takeN s 1).2.1).1, 0, zeroV⟩
  else if (s.size : Int) ≤ (takeN s 1).2.1 then zeroE
  else ⟨byteAt s 0, (takeN s 1).1, ⟨#[]⟩, byteAt s (takeN s 1).2.1.toNat, if byteAt s 0 = 7 then (takeVal s ((takeN s 1).2.1 + 1)).1 else zeroV⟩
end Sp
open Sp
theorem bset {B : Nat} {a w : World} (h : Below B a w) (g o : Nat) (v : Value) (hg : B ≤ g) : Below B a (w.setCell ⟨g, o, none⟩ v) := h.setCell (p := ⟨g, o, none⟩) hg v
theorem byteAt_is (s : ByteArray) (i : Nat) (h : i < s.size) : byteAt s i = ((s[i]'h).toNat : Int) := by
  unfold byteAt
  have hl : i < s.data.toList.length := by rw [← size_eq_length]; exact h
  rw [List.getD_eq_getElem?_getD, List.getElem?_eq_getElem hl]; rfl
theorem takeN_ok (s : ByteArray) (a : Int) (t : ByteArray) (to : Int) (h : takeN s a = (t, to, 0)) : 0 ≤ a ∧ a ≤ to ∧ to ≤ s.size ∧ isName t = true ∧ t.size ≤ 16 := by
  simp only [takeN] at h
  have hk : (takeV s a 16).2.2 = 0 → (takeV s a 16).1.size ≤ 16 ∧ 0 ≤ a ∧ a ≤ (takeV s a 16).2.1 ∧ (takeV s a 16).2.1 ≤ s.size := takeV_size s a 16
  split at h
  · rename_i h1
    injection h with _ h2
    injection h2 with _ h3
    exact absurd h3 h1
  · rename_i h1
    split at h
    · rename_i hn
      have h1' : (takeV s a 16).2.2 = 0 := by simpa using h1
      obtain ⟨e1, e2, e3, e4⟩ := hk h1'
      rw [h] at e1 e3 e4 hn
      exact ⟨e2, e3, e4, hn, e1⟩
    · injection h with _ h2
      injection h2 with _ h3
      cases h3
theorem valTake_is (s : ByteArray) (a : Int) (v : PV) (to er : Int) (w : World) (hs : s.size ≤ 140737488351232) (h : Hid (takeVal s a = (v, to, er))) :
    Calls Try.prog 100 #[.string s, .int .i64 a] w fun e w' => e = .returned (.tuple #[.agg #[.int .i64 v.1, .int .i64 v.2.1, .int .i64 v.2.2.1, .string v.2.2.2], .int .i64 to, .int .i64 er]) ∧ Below w.heap.size w w' := by
  have := valTake_calls s a w hs
  rw [h.out] at this
  exact this
theorem refTake04_is (s : ByteArray) (a : Int) (v : PV) (to er : Int) (w : World) (hs : s.size ≤ 140737488351232) (h : Hid (takeVal s a = (v, to, er))) :
    Calls Try.prog 81 #[.string s, .int .i64 a] w fun e w' => e = .returned (.tuple #[.agg #[.int .i64 v.1, .int .i64 v.2.1, .int .i64 v.2.2.1, .string v.2.2.2], .int .i64 to, .int .i64 er]) ∧ Below w.heap.size w w' := by
  have := refTake04_calls s a w hs
  rw [h.out] at this
  exact this

set_option maxHeartbeats 20000000 in
set_option maxRecDepth 100000 in
theorem refRead_0 (s : ByteArray) (w : World) (h : s.toList = []) :
    Calls Try.prog 60 #[.string s] w fun e w' => e = .returned (evV zeroE) ∧ Below w.heap.size w w' := by
  go_enter Try.func60, Try.ntmps60
  go_wp2
  (try simp only [Exit.inBlock, Exit.then])
  refine bodyPost_ret (v := evV zeroE) (by simp [results, Try.results60, go_sem, evV, zeroE, zeroV]) rfl ⟨rfl, ?_⟩
  repeat (first | with_reducible exact Below.refl _ _ | with_reducible refine bset ?_ _ _ _ (Nat.le_refl _) | with_reducible refine below_alloc0 ?_ _)

set_option maxHeartbeats 20000000 in
set_option maxRecDepth 100000 in
theorem refRead_1 (s : ByteArray) (u : ByteArray) (at_ er : Int) (w : World) (hs : s.size ≤ 140737488351232) (h : ¬ s.toList = []) (hb : s.toList.isEmpty = false) (he : (er != 0) = true) (HU : Hid (takeN s 1 = (u, at_, er))) :
    Calls Try.prog 60 #[.string s] w fun e w' => e = .returned (evV zeroE) ∧ Below w.heap.size w w' := by
  go_enter Try.func60, Try.ntmps60
  go_wp2_with fail
  refine (refNTake_is _ s 1 u at_ er HU hs).mono ?_
  rintro e w1 ⟨rfl, b1⟩
  have B1 := below_call (below_box _) b1
  obtain ⟨hc1, hf1⟩ := bcell b1
  clear b1
  go_wp2
  (try simp only [Exit.inBlock, Exit.then])
  refine bodyPost_ret (v := evV zeroE) (by simp [results, Try.results60, go_sem, evV, zeroE, zeroV, hc1]) rfl ⟨rfl, ?_⟩
  repeat (first | with_reducible exact B1 | with_reducible refine bset ?_ _ _ _ (Nat.le_refl _) | with_reducible refine below_alloc0 ?_ _)

set_option maxHeartbeats 20000000 in
set_option maxRecDepth 100000 in
theorem refRead_2 (s : ByteArray) (u o : ByteArray) (m k i : Nat) (to2 er2 to3 er3 : Int) (v : PV) (w : World) (hs : s.size ≤ 140737488351232) (h : ¬ s.toList = []) (hb : s.toList.isEmpty = false) (h0 : 0 < s.size) (hm : m ≤ s.size) (hk : (s[0]'h0).toNat = k) (hi : ∀ h : m < s.size, (s[m]'h).toNat = i)
    (HU : Hid (takeN s 1 = (u, (m : Int), 0))) (HO : Hid (takeN s m = (o, to2, er2))) (HV : Hid (takeVal s ((m : Int) + 1) = (v, to3, er3))) (r : Ev)
    (HR1 : (k : Int) ≤ 6 → Hid (r = ⟨k, u, o, 0, zeroV⟩)) (HR2 : 6 < (k : Int) → s.size ≤ m → Hid (r = zeroE)) (HR3 : (k : Int) = 7 → m < s.size → Hid (r = ⟨k, u, ⟨#[]⟩, i, v⟩)) (HR4 : 6 < (k : Int) → (k : Int) ≠ 7 → m < s.size → Hid (r = ⟨k, u, ⟨#[]⟩, i, zeroV⟩)) :
    Calls Try.prog 60 #[.string s] w fun e w' => e = .returned (evV r) ∧ Below w.heap.size w w' := by
  have hk2 : k < 256 := by rw [← hk]; exact UInt8.toNat_lt _
  obtain ⟨va, vp, vn, vt⟩ := v
  by_cases h6 : (k : Int) ≤ 6
  · have HR := HR1 h6
    clear HR1 HR2 HR3 HR4 hi
    go_enter Try.func60, Try.ntmps60
    go_wp2_with fail
    refine (refNTake_is _ s 1 u m 0 HU hs).mono ?_
    rintro e w1 ⟨rfl, b1⟩
    have B1 := below_call (below_box _) b1
    obtain ⟨hc1, hf1⟩ := bcell b1
    have hz1 : w.heap.size < w1.heap.size := Nat.lt_of_lt_of_le (by simp) b1.size
    clear b1
    go_wp2_with fail
    refine (refNTake_is _ s m o to2 er2 HO hs).mono ?_
    rintro e w2 ⟨rfl, b2⟩
    have B2 := below_call (below_alloc0 B1 _) b2
    obtain ⟨hc2, hf2⟩ := bcell b2
    have hz2 : w.heap.size < w2.heap.size := Nat.lt_of_lt_of_le (by simp; omega) b2.size
    have hy2 : w1.heap.size < w2.heap.size := Nat.lt_of_lt_of_le (by simp) b2.size
    clear b2
    go_wp2
    (try simp only [Exit.inBlock, Exit.then])
    refine bodyPost_ret (v := evV ⟨k, u, o, 0, zeroV⟩) (by simp [results, Try.results60, go_sem, evV, zeroE, zeroV, hc1, hc2, hz1, hz2, hy2, Nat.ne_of_lt hz1, Nat.ne_of_gt hz1, Nat.ne_of_lt hy2, Nat.ne_of_gt hy2, Nat.lt_succ_of_lt hz1]) rfl ⟨by rw [HR.out], ?_⟩
    repeat (first | with_reducible exact B2 | with_reducible refine bset ?_ _ _ _ (Nat.le_refl _) | with_reducible refine bset ?_ _ _ _ (Nat.le_of_lt hz1) | with_reducible refine below_alloc0 ?_ _)
  by_cases hsm : s.size ≤ m
  · have HR := HR2 (by omega) hsm
    clear HR1 HR2 HR3 HR4 hi
    have hg1 : (s.size : Int) ≤ (m : Int) := by omega
    have hk6 : 6 < (k : Int) := by omega
    go_enter Try.func60, Try.ntmps60
    go_wp2_with fail
    refine (refNTake_is _ s 1 u m 0 HU hs).mono ?_
    rintro e w1 ⟨rfl, b1⟩
    have B1 := below_call (below_box _) b1
    obtain ⟨hc1, hf1⟩ := bcell b1
    have hz1 : w.heap.size < w1.heap.size := Nat.lt_of_lt_of_le (by simp) b1.size
    clear b1
    go_wp2
    (try simp only [Exit.inBlock, Exit.then])
    refine bodyPost_ret (v := evV zeroE) (by simp [results, Try.results60, go_sem, evV, zeroE, zeroV, hc1, hz1]) rfl ⟨by rw [HR.out], ?_⟩
    repeat (first | with_reducible exact B1 | with_reducible refine bset ?_ _ _ _ (Nat.le_refl _) | with_reducible refine bset ?_ _ _ _ (Nat.le_of_lt hz1) | with_reducible refine below_alloc0 ?_ _)
  have hm' : m < s.size := by omega
  have hg1 : (m : Int) < (s.size : Int) := by omega
  have hk6 : 6 < (k : Int) := by omega
  have hi' := hi hm'
  have hi2 : i < 256 := by rw [← hi']; exact UInt8.toNat_lt _
  clear hi
  by_cases h7 : (k : Int) = 7
  · have HR := HR3 h7 hm'
    obtain rfl : k = 7 := by omega
    clear HR1 HR2 HR3 HR4 h7
    go_enter Try.func60, Try.ntmps60
    go_wp2_with fail
    refine (refNTake_is _ s 1 u m 0 HU hs).mono ?_
    rintro e w1 ⟨rfl, b1⟩
    have B1 := below_call (below_box _) b1
    obtain ⟨hc1, hf1⟩ := bcell b1
    have hz1 : w.heap.size < w1.heap.size := Nat.lt_of_lt_of_le (by simp) b1.size
    clear b1
    go_wp2_with fail
    refine (refTake04_is s _ (va, vp, vn, vt) to3 er3 _ hs HV).mono ?_
    rintro e w2 ⟨rfl, b2⟩
    have B2 := below_call (by with_reducible first | exact below_alloc0 B1 _ | exact (below_alloc0 B1 _).setCell (p := ⟨w1.heap.size, _, none⟩) (Nat.le_of_lt hz1) _) b2
    obtain ⟨hc2, hf2⟩ := bcell b2
    have hz2 : w.heap.size < w2.heap.size := Nat.lt_of_lt_of_le (by simp; omega) b2.size
    have hy2 : w1.heap.size < w2.heap.size := Nat.lt_of_lt_of_le (by simp) b2.size
    clear b2
    go_wp2
    (try simp only [Exit.inBlock, Exit.then])
    refine bodyPost_ret (v := evV ⟨(7 : Nat), u, ⟨#[]⟩, i, (va, vp, vn, vt)⟩) (by simp [results, Try.results60, go_sem, evV, zeroE, zeroV, hc1, hc2, hz1, hz2, hy2, Nat.ne_of_lt hz1, Nat.ne_of_gt hz1, Nat.ne_of_lt hy2, Nat.ne_of_gt hy2, Nat.lt_succ_of_lt hz1]) rfl ⟨by rw [HR.out], ?_⟩
    repeat (first | with_reducible exact B2 | with_reducible refine bset ?_ _ _ _ (Nat.le_refl _) | with_reducible refine bset ?_ _ _ _ (Nat.le_of_lt hz1) | with_reducible refine below_alloc0 ?_ _)
  · have HR := HR4 hk6 h7 hm'
    have h7b : ((k : Int) == 7) = false := by simpa using h7
    clear HR1 HR2 HR3 HR4 h7
    go_enter Try.func60, Try.ntmps60
    go_wp2_with fail
    refine (refNTake_is _ s 1 u m 0 HU hs).mono ?_
    rintro e w1 ⟨rfl, b1⟩
    have B1 := below_call (below_box _) b1
    obtain ⟨hc1, hf1⟩ := bcell b1
    have hz1 : w.heap.size < w1.heap.size := Nat.lt_of_lt_of_le (by simp) b1.size
    clear b1
    go_wp2
    (try simp only [Exit.inBlock, Exit.then])
    refine bodyPost_ret (v := evV ⟨k, u, ⟨#[]⟩, i, zeroV⟩) (by simp [results, Try.results60, go_sem, evV, zeroE, zeroV, hc1, hz1]) rfl ⟨by rw [HR.out], ?_⟩
    repeat (first | with_reducible exact B1 | with_reducible refine bset ?_ _ _ _ (Nat.le_refl _) | with_reducible refine bset ?_ _ _ _ (Nat.le_of_lt hz1) | with_reducible refine below_alloc0 ?_ _)

theorem refRead_calls (s : ByteArray) (w : World) (hs : s.size ≤ 140737488351232) :
    Calls Try.prog 60 #[.string s] w fun e w' => e = .returned (evV (readR s)) ∧ Below w.heap.size w w' := by
  by_cases h : s.toList = []
  · have : readR s = zeroE := by unfold readR; rw [if_pos h]
    rw [this]; exact refRead_0 s w h
  have hb : s.toList.isEmpty = false := by simpa using h
  obtain ⟨u, at_, er, hu⟩ : ∃ u a e, takeN s 1 = (u, a, e) := ⟨_, _, _, rfl⟩
  by_cases he : er = 0
  · subst he
    obtain ⟨_, e2, e3, _⟩ := takeN_ok s 1 u at_ hu
    obtain ⟨m, rfl⟩ := Int.eq_ofNat_of_zero_le (show 0 ≤ at_ by omega)
    have h0 : 0 < s.size := by omega
    obtain ⟨o, to2, er2, ho⟩ : ∃ u a e, takeN s m = (u, a, e) := ⟨_, _, _, rfl⟩
    obtain ⟨v, to3, er3, hv⟩ : ∃ u a e, takeVal s ((m : Int) + 1) = (u, a, e) := ⟨_, _, _, rfl⟩
    obtain ⟨r, hr⟩ : ∃ r, readR s = r := ⟨_, rfl⟩
    rw [hr]
    have hr' := hr
    unfold readR at hr
    simp only [hu, ho, hv, byteAt_is s 0 h0, Int.toNat_natCast] at hr
    rw [if_neg h, if_neg (by simp)] at hr
    by_cases hm' : m < s.size
    · rw [byteAt_is s m hm'] at hr
      refine refRead_2 s u o m _ (s[m].toNat) to2 er2 to3 er3 v w hs h hb h0 (by omega) rfl (fun _ => rfl) hu ho hv r (fun h6 => ?_) (fun h6 hsm => ?_) (fun h7 hm' => ?_) (fun h6 h7 hm' => ?_)
      · show _ = _; rw [← hr, if_pos h6]
      · omega
      · show _ = _; rw [← hr, if_neg (by omega), if_neg (by omega), if_pos h7]
      · show _ = _; rw [← hr, if_neg (by omega), if_neg (by omega), if_neg h7]
    · refine refRead_2 s u o m _ 0 to2 er2 to3 er3 v w hs h hb h0 (by omega) rfl (fun h => absurd h hm') hu ho hv r (fun h6 => ?_) (fun h6 hsm => ?_) (fun h7 hm' => absurd hm' (by assumption)) (fun h6 h7 hm' => absurd hm' (by assumption))
      · show _ = _; rw [← hr, if_pos h6]
      · show _ = _; rw [← hr, if_neg (by omega), if_pos (by omega)]
  · have : readR s = zeroE := by unfold readR; rw [if_neg h, hu, if_pos he]
    rw [this]; exact refRead_1 s u at_ er w hs h hb (by simpa using he) hu
end Go.Proofs.Ytobhlcogopcbdaa
