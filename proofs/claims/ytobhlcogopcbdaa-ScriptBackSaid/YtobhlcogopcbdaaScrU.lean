/-
Layer 23: events out of one text.
-/
import Derived.Test.YtobhlcogopcbdaaScrT
set_option linter.unusedVariables false
set_option linter.unusedSimpArgs false
namespace Go.Proofs.Ytobhlcogopcbdaa
open Go.RowKit
open Sp
namespace Sp
def unbL (s : ByteArray) : Nat → Int → List Ev → Option (List Ev)
  | 0, _, _ => none
  | f + 1, a, l =>
    if (s.size : Int) ≤ a then some l
    else if (takeV s a 300).2.2 ≠ 0 then none
    else if (decR (takeV s a 300).1).2 ≠ 0 then none
    else unbL s f (takeV s a 300).2.1 (l ++ [(decR (takeV s a 300).1).1])
def cutU (o : Option (List Ev)) : List Ev × Int := match o with | none => ([], 3) | some l => if 100 < l.length then ([], 3) else (l, 0)
def unbE (s : ByteArray) : List Ev × Int := cutU (unbL s (s.size + 1) 0 [])
theorem unbL_end (s : ByteArray) (f : Nat) (a : Int) (l : List Ev) (h : (s.size : Int) ≤ a) : unbL s (f + 1) a l = some l := by unfold unbL; rw [if_pos h]
theorem unbL_bad (s : ByteArray) (f : Nat) (a : Int) (l : List Ev) (t : ByteArray) (to er : Int) (h : ¬ (s.size : Int) ≤ a) (ht : takeV s a 300 = (t, to, er)) (he : er ≠ 0) : unbL s (f + 1) a l = none := by
  unfold unbL; rw [if_neg h, ht]; simp only; rw [if_pos he]
theorem unbL_no (s : ByteArray) (f : Nat) (a : Int) (l : List Ev) (t : ByteArray) (to : Int) (e : Ev) (er : Int) (h : ¬ (s.size : Int) ≤ a) (ht : takeV s a 300 = (t, to, 0)) (hd : decR t = (e, er)) (he : er ≠ 0) : unbL s (f + 1) a l = none := by
  unfold unbL; rw [if_neg h, ht]; simp only; rw [if_neg (by simp), hd, if_pos he]
theorem unbL_yes (s : ByteArray) (f : Nat) (a : Int) (l : List Ev) (t : ByteArray) (to : Int) (e : Ev) (h : ¬ (s.size : Int) ≤ a) (ht : takeV s a 300 = (t, to, 0)) (hd : decR t = (e, 0)) : unbL s (f + 1) a l = unbL s f to (l ++ [e]) := by
  conv => lhs; unfold unbL
  rw [if_neg h, ht]; simp only; rw [if_neg (by simp), hd, if_neg (by simp)]
theorem unbL_long (s : ByteArray) : ∀ (f : Nat) (a : Int) (l : List Ev), 100 < l.length → cutU (unbL s f a l) = ([], 3)
  | 0, _, _, _ => rfl
  | f + 1, a, l, h => by
    unfold unbL
    split
    · show (if 100 < l.length then (([] : List Ev), (3 : Int)) else (l, 0)) = _
      rw [if_pos h]
    · split
      · rfl
      · split
        · rfl
        · exact unbL_long s f _ _ (by rw [List.length_append]; omega)
theorem unbL_full (s : ByteArray) (f : Nat) (a : Int) (l : List Ev) (h : ¬ (s.size : Int) ≤ a) (hl : 100 ≤ l.length) : cutU (unbL s f a l) = ([], 3) := by
  cases f with
  | zero => rfl
  | succ f =>
    unfold unbL
    rw [if_neg h]
    split
    · rfl
    · split
      · rfl
      · exact unbL_long s f _ _ (by rw [List.length_append, List.length_singleton]; omega)
theorem takeV_on (s : ByteArray) (a : Int) (m : Nat) (t : ByteArray) (to : Int) (h : takeV s a m = (t, to, 0)) : 0 ≤ a ∧ a < to ∧ to ≤ s.size ∧ t.size ≤ m := by
  obtain ⟨n, fr, er, hg⟩ : ∃ n fr er, getV s a = (n, fr, er) := ⟨_, _, _, rfl⟩
  obtain ⟨h1, h2, h3, h4⟩ := takeV_size s a m (by rw [h])
  rw [h] at h1 h3 h4
  by_cases he : er = 0
  · subst he
    obtain ⟨g1, g2, g3, g4⟩ := getV_ok s a n fr hg
    have := (takeV_text s a m t to h).2
    have := (getV_text s a n fr hg)
    have hl : 0 < (textV t).size := by rw [size_eq_length]; show 0 < (putV t.size ++ _ : List UInt8).toArray.toList.length; simp only [List.toList_toArray, List.length_append]; have := putV_len_pos t.size; omega
    exact ⟨h2, by omega, h4, h1⟩
  · rw [takeV_err s a m n fr er hg he] at h
    simp only [Prod.mk.injEq] at h
    exact absurd h.2.2 he
end Sp
open Sp
theorem refDec_is (s : ByteArray) (e : Ev) (er : Int) (w : World) (hs : s.size ≤ 140737488351232) (h : Hid (decR s = (e, er))) :
    Calls Try.prog 32 #[.string s] w fun x w' => x = .returned (.tuple #[evV e, .int .i64 er]) ∧ Below w.heap.size w w' := by
  have := refDec_calls s w hs
  rwa [h.out] at this
theorem dec_is (s : ByteArray) (e : Ev) (er : Int) (w : World) (hs : s.size ≤ 140737488351232) (h : Hid (decR s = (e, er))) :
    Calls Try.prog 31 #[.string s] w fun x w' => x = .returned (.tuple #[evV e, .int .i64 er]) ∧ Below w.heap.size w w' := by
  have := dec_calls s w hs
  rwa [dec_both, h.out] at this
theorem info_evz : (Try.prog.info? 44).map (fun i => (i.zero, i.size, i.bytes)) = some (some (.agg #[.int .i64 0, .string ⟨#[]⟩, .string ⟨#[]⟩, .int .i64 0, .int .i64 0, .int .i64 0, .int .i64 0, .string ⟨#[]⟩]), 8, 88) := by kernel_rfl

set_option maxHeartbeats 8000000 in
set_option maxRecDepth 100000 in
theorem refUnb_calls (s : ByteArray) (w : World) (hs : s.size ≤ 1048576) :
    Calls Try.prog 35 #[.string s] w fun e w' => ∃ v, e = .returned (.tuple #[v, .int .i64 (unbE s).2]) ∧ Own enE 8 44 w' w.heap.size v (unbE s).1 ∧ Below w.heap.size w w' := by
  obtain ⟨r, er, hr⟩ : ∃ r er, unbE s = (r, er) := ⟨_, _, rfl⟩
  rw [hr]
  have HR := Lib.hid (show cutU (unbL s (s.size + 1) 0 []) = (r, er) from hr)
  clear hr
  go_enter Try.func35, Try.ntmps35
  go_wp2
  go_loopw [4, 5] (fun v4 v5 wr => ∃ (m f : Nat) (l : List Ev), v5 = .int .i64 m ∧ m ≤ s.size ∧ s.size < f + m ∧ l.length ≤ m ∧ Own enE 8 44 wr w.heap.size v4 l ∧ Below w.heap.size w wr ∧ Hid (cutU (unbL s f m l) = (r, er))) (fun _ v5 _ => (s.size - intOf v5).toNat)
  case atStart => exact ⟨0, s.size + 1, [], rfl, Nat.zero_le _, by omega, Nat.zero_le _, Own.nil _ _ _ _ _, Below.refl _ _, HR⟩
  case round =>
    clear HR
    obtain ⟨m, f, l, rfl, hm, hf, hlm, hO, hB, HL⟩ := hrel
    obtain ⟨A, c, rfl, hcl⟩ := hO.slice
    by_cases hlt : m < s.size
    · have hge : ¬ (s.size : Int) ≤ (m : Int) := by omega
      obtain ⟨f, rfl⟩ : ∃ g, f = g + 1 := ⟨f - 1, by omega⟩
      obtain ⟨t, to, et, ht⟩ : ∃ t to et, takeV s m 300 = (t, to, et) := ⟨_, _, _, rfl⟩
      have HT := Lib.hid ht
      by_cases het : et = 0
      · subst het
        obtain ⟨_, t2, t3, t4⟩ := takeV_on s m 300 t to ht
        obtain ⟨p, rfl⟩ := Int.eq_ofNat_of_zero_le (show 0 ≤ to by omega)
        obtain ⟨⟨k, u, o, i, a, q, n, x⟩, ed, hd⟩ : ∃ e ed, decR t = (e, ed) := ⟨_, _, rfl⟩
        have HD := Lib.hid hd
        by_cases hed : ed = 0
        · subst hed
          have HN : Hid (cutU (unbL s f p (l ++ [⟨k, u, o, i, a, q, n, x⟩])) = (r, er)) := by
            show _ = _
            rw [← HL.out, unbL_yes s f m l t p _ hge ht hd]
          clear ht hd HL
          go_wp2_with fail
          refine (refTake_is s m 300 t p 0 _ (by omega) (by omega) (by omega) HT).mono ?_
          rintro e w1 ⟨rfl, rfl⟩
          go_wp2_with fail
          refine (refDec_is t _ 0 _ (by omega) HD).mono ?_
          rintro e w1 ⟨rfl, b1⟩
          have hB1 := below_call hB b1
          have hO1 := hO.below b1
          have HZZ : Hid ((w1.alloc (.cells #[.int .i64 k, .string u, .string o, .int .i64 i, .int .i64 a, .int .i64 q, .int .i64 n, .string x] 44)).heap.size = w1.heap.size + 1) := Array.size_push ..
          unfold evV
          clear b1 hB hO
          go_wp2_with (at_builtin; go_must (refine Own.append (w0 := w) w.heap.size rfl (.tmp 30) (.tmp 32) 48 44 (.agg #[.int .i64 0, .string ⟨#[]⟩, .string ⟨#[]⟩, .int .i64 0, .int .i64 0, .int .i64 0, .int .i64 0, .string ⟨#[]⟩]) 8 88 rfl Try.underlying48 info_evz rfl (by decide) (.slice A l.length c) l ⟨k, u, o, i, a, q, n, x⟩ (enE ⟨k, u, o, i, a, q, n, x⟩) rfl (by rw [HZZ.out]; rfl) rfl rfl (enE_one _) (hO1.alloc _) (below_alloc0 hB1 _) (below_alloc0 hB1 _).size (by omega) (by omega) ?_; intro v2 w2 hO2 hB2 _ _))
          exact ⟨⟨p, f, l ++ [⟨k, u, o, i, a, q, n, x⟩], by go_num, by omega, by omega, by rw [List.length_append, List.length_singleton]; omega, hO2, hB2, HN⟩, by simp [intOf]; omega⟩
        · have hedb : (ed != 0) = true := by simpa using hed
          have HF : Hid (r = [] ∧ er = 3) := by
            have := HL.out
            rw [unbL_no s f m l t p _ ed hge ht hd hed] at this
            injection this with h1 h2
            exact ⟨h1.symm, h2.symm⟩
          clear ht hd HL hed
          go_wp2_with fail
          refine (refTake_is s m 300 t p 0 _ (by omega) (by omega) (by omega) HT).mono ?_
          rintro e w1 ⟨rfl, rfl⟩
          go_wp2_with fail
          refine (refDec_is t _ ed _ (by omega) HD).mono ?_
          rintro e w1 ⟨rfl, b1⟩
          have hB1 := below_call hB b1
          unfold evV
          clear b1 hB hO
          go_wp2
          go_ret2
          rw [HF.out.1, HF.out.2]
          exact ⟨_, rfl, Own.nil _ _ _ _ _, below_alloc0 hB1 _⟩
      · have hetb : (et != 0) = true := by simpa using het
        have HF : Hid (r = [] ∧ er = 3) := by
          have := HL.out
          rw [unbL_bad s f m l t to et hge ht het] at this
          injection this with h1 h2
          exact ⟨h1.symm, h2.symm⟩
        clear ht HL het
        go_wp2_with fail
        refine (refTake_is s m 300 t to et _ (by omega) (by omega) (by omega) HT).mono ?_
        rintro e w1 ⟨rfl, rfl⟩
        go_wp2
        go_ret2
        rw [HF.out.1, HF.out.2]
        exact ⟨_, rfl, Own.nil _ _ _ _ _, hB⟩
    · have hmn : m = s.size := by omega
      subst hmn
      obtain ⟨f, rfl⟩ : ∃ g, f = g + 1 := ⟨f - 1, by omega⟩
      have HE : Hid (cutU (some l) = (r, er)) := by
        show _ = _
        rw [← HL.out, unbL_end s f _ l (by omega)]
      clear HL
      by_cases hbig : 100 < (l.length : Int)
      · have HF : Hid (r = [] ∧ er = 3) := by
          have := HE.out
          unfold cutU at this
          simp only at this
          rw [if_pos (by omega)] at this
          injection this with h1 h2
          exact ⟨h1.symm, h2.symm⟩
        go_wp2
        go_ret2
        rw [HF.out.1, HF.out.2]
        exact ⟨_, rfl, Own.nil _ _ _ _ _, hB⟩
      · have HF : Hid (r = l ∧ er = 0) := by
          have := HE.out
          unfold cutU at this
          simp only at this
          rw [if_neg (by omega)] at this
          injection this with h1 h2
          exact ⟨h1.symm, h2.symm⟩
        go_wp2
        go_ret2
        rw [HF.out.1, HF.out.2]
        exact ⟨_, rfl, hO, hB⟩

set_option maxHeartbeats 8000000 in
set_option maxRecDepth 100000 in
theorem unb_calls (s : ByteArray) (w : World) (hs : s.size ≤ 1048576) :
    Calls Try.prog 34 #[.string s] w fun e w' => ∃ v, e = .returned (.tuple #[v, .int .i64 (unbE s).2]) ∧ Own enE 8 44 w' w.heap.size v (unbE s).1 ∧ Below w.heap.size w w' := by
  obtain ⟨r, er, hr⟩ : ∃ r er, unbE s = (r, er) := ⟨_, _, rfl⟩
  rw [hr]
  have HR := Lib.hid (show cutU (unbL s (s.size + 1) 0 []) = (r, er) from hr)
  clear hr
  go_enter Try.func34, Try.ntmps34
  go_wp2
  go_loopw [4, 5] (fun v4 v5 wr => ∃ (m f : Nat) (l : List Ev), v5 = .int .i64 m ∧ m ≤ s.size ∧ s.size < f + m ∧ l.length ≤ m ∧ l.length ≤ 100 ∧ Own enE 8 44 wr w.heap.size v4 l ∧ Below w.heap.size w wr ∧ Hid (cutU (unbL s f m l) = (r, er))) (fun _ v5 _ => (s.size - intOf v5).toNat)
  case atStart => exact ⟨0, s.size + 1, [], rfl, Nat.zero_le _, by omega, Nat.zero_le _, Nat.zero_le _, Own.nil _ _ _ _ _, Below.refl _ _, HR⟩
  case round =>
    clear HR
    obtain ⟨m, f, l, rfl, hm, hf, hlm, hl100, hO, hB, HL⟩ := hrel
    obtain ⟨A, c, rfl, hcl⟩ := hO.slice
    by_cases hlt : m < s.size
    · have hge : ¬ (s.size : Int) ≤ (m : Int) := by omega
      obtain ⟨f, rfl⟩ : ∃ g, f = g + 1 := ⟨f - 1, by omega⟩
      obtain ⟨t, to, et, ht⟩ : ∃ t to et, takeV s m 300 = (t, to, et) := ⟨_, _, _, rfl⟩
      have HT := Lib.hid ht
      by_cases het : et = 0
      · subst het
        obtain ⟨_, t2, t3, t4⟩ := takeV_on s m 300 t to ht
        obtain ⟨p, rfl⟩ := Int.eq_ofNat_of_zero_le (show 0 ≤ to by omega)
        obtain ⟨⟨k, u, o, i, a, q, n, x⟩, ed, hd⟩ : ∃ e ed, decR t = (e, ed) := ⟨_, _, rfl⟩
        have HD := Lib.hid hd
        by_cases hed : ed = 0
        · subst hed
          have HN : Hid (cutU (unbL s f p (l ++ [⟨k, u, o, i, a, q, n, x⟩])) = (r, er)) := by
            show _ = _
            rw [← HL.out, unbL_yes s f m l t p _ hge ht hd]
          by_cases hfull : l.length = 100
          · have HF : Hid (r = [] ∧ er = 3) := by
              have := HL.out
              rw [unbL_full s _ _ l hge (by omega)] at this
              injection this with h1 h2
              exact ⟨h1.symm, h2.symm⟩
            clear ht hd HL HN
            go_wp2_with fail
            refine (varTake_is s m 300 t p 0 _ (by omega) (by omega) (by omega) HT).mono ?_
            rintro e w1 ⟨rfl, rfl⟩
            go_wp2_with fail
            refine (dec_is t _ 0 _ (by omega) HD).mono ?_
            rintro e w1 ⟨rfl, b1⟩
            have hB1 := below_call hB b1
            unfold evV
            clear b1 hB hO
            go_wp2
            go_ret2
            rw [HF.out.1, HF.out.2]
            exact ⟨_, rfl, Own.nil _ _ _ _ _, below_alloc0 hB1 _⟩
          · clear ht hd HL
            go_wp2_with fail
            refine (varTake_is s m 300 t p 0 _ (by omega) (by omega) (by omega) HT).mono ?_
            rintro e w1 ⟨rfl, rfl⟩
            go_wp2_with fail
            refine (dec_is t _ 0 _ (by omega) HD).mono ?_
            rintro e w1 ⟨rfl, b1⟩
            have hB1 := below_call hB b1
            have hO1 := hO.below b1
            have HZZ : Hid ((w1.alloc (.cells #[.int .i64 k, .string u, .string o, .int .i64 i, .int .i64 a, .int .i64 q, .int .i64 n, .string x] 44)).heap.size = w1.heap.size + 1) := Array.size_push ..
            unfold evV
            clear b1 hB hO
            go_wp2_with (at_builtin; go_must (refine Own.append (w0 := w) w.heap.size rfl (.tmp 35) (.tmp 37) 48 44 (.agg #[.int .i64 0, .string ⟨#[]⟩, .string ⟨#[]⟩, .int .i64 0, .int .i64 0, .int .i64 0, .int .i64 0, .string ⟨#[]⟩]) 8 88 rfl Try.underlying48 info_evz rfl (by decide) (.slice A l.length c) l ⟨k, u, o, i, a, q, n, x⟩ (enE ⟨k, u, o, i, a, q, n, x⟩) rfl (by rw [HZZ.out]; rfl) rfl rfl (enE_one _) (hO1.alloc _) (below_alloc0 hB1 _) (below_alloc0 hB1 _).size (by omega) (by omega) ?_; intro v2 w2 hO2 hB2 _ _))
            exact ⟨⟨p, f, l ++ [⟨k, u, o, i, a, q, n, x⟩], by go_num, by omega, by omega, by rw [List.length_append, List.length_singleton]; omega, by rw [List.length_append, List.length_singleton]; omega, hO2, hB2, HN⟩, by simp [intOf]; omega⟩
        · have hedb : (ed != 0) = true := by simpa using hed
          have HF : Hid (r = [] ∧ er = 3) := by
            have := HL.out
            rw [unbL_no s f m l t p _ ed hge ht hd hed] at this
            injection this with h1 h2
            exact ⟨h1.symm, h2.symm⟩
          clear ht hd HL hed
          go_wp2_with fail
          refine (varTake_is s m 300 t p 0 _ (by omega) (by omega) (by omega) HT).mono ?_
          rintro e w1 ⟨rfl, rfl⟩
          go_wp2_with fail
          refine (dec_is t _ ed _ (by omega) HD).mono ?_
          rintro e w1 ⟨rfl, b1⟩
          have hB1 := below_call hB b1
          unfold evV
          clear b1 hB hO
          go_wp2
          go_ret2
          rw [HF.out.1, HF.out.2]
          exact ⟨_, rfl, Own.nil _ _ _ _ _, below_alloc0 hB1 _⟩
      · have hetb : (et != 0) = true := by simpa using het
        have HF : Hid (r = [] ∧ er = 3) := by
          have := HL.out
          rw [unbL_bad s f m l t to et hge ht het] at this
          injection this with h1 h2
          exact ⟨h1.symm, h2.symm⟩
        clear ht HL het
        go_wp2_with fail
        refine (varTake_is s m 300 t to et _ (by omega) (by omega) (by omega) HT).mono ?_
        rintro e w1 ⟨rfl, rfl⟩
        go_wp2
        go_ret2
        rw [HF.out.1, HF.out.2]
        exact ⟨_, rfl, Own.nil _ _ _ _ _, hB⟩
    · have hmn : m = s.size := by omega
      subst hmn
      obtain ⟨f, rfl⟩ : ∃ g, f = g + 1 := ⟨f - 1, by omega⟩
      have HE : Hid (cutU (some l) = (r, er)) := by
        show _ = _
        rw [← HL.out, unbL_end s f _ l (by omega)]
      clear HL
      have HF : Hid (r = l ∧ er = 0) := by
        have := HE.out
        unfold cutU at this
        simp only at this
        rw [if_neg (by omega)] at this
        injection this with h1 h2
        exact ⟨h1.symm, h2.symm⟩
      go_wp2
      go_ret2
      rw [HF.out.1, HF.out.2]
      exact ⟨_, rfl, hO, hB⟩
end Go.Proofs.Ytobhlcogopcbdaa
