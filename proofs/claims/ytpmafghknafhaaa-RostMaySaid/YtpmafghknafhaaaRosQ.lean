/-
Layer 8: the answers by their equations; 'live' of the statements on rosters.
Layer 8: the walk of RostTells.
-/
import Derived.Test.YtpmafghknafhaaaRosP
import Derived.Test.YtpmafghknafhaaaRosK
set_option linter.unusedVariables false
set_option linter.unusedSimpArgs false
namespace Go.Proofs.Ytpmafghknafhaaa
open Go.RowKit
open Sp
section
variable (n c : Nat) (A : Option Addr) (l : List En) (w : World) (hl : Row enEn 7 w (.slice A n c) l)
include hl
theorem Do8_is (k : Int) (u o : ByteArray) (r : List En) (er : Int) (hz : SzRo l) (hn : n ≤ 900) (hu : u.size ≤ 140737488351232) (ho : o.size ≤ 140737488351232) (h : Hid (doRo l k u o = (r, er))) :
    Calls Try.prog 23 #[.slice A n c, .int .i64 k, .string u, .string o] w fun e w' => ∃ v, e = .returned (.tuple #[v, .int .i64 er]) ∧ Row enEn 7 w' v r ∧ Below w.heap.size w w' := by
  have := DoRo_calls n c A l k u o w hl hz hn hu ho
  rw [h.out] at this
  exact this.mono fun e w' ⟨v, h1, h2, h3, _⟩ => ⟨v, h1, h2, h3⟩
theorem Do8F_is (k : Int) (u o : ByteArray) (r : List En) (er : Int) (hz : SzRo l) (hn : n ≤ 900) (hu : u.size ≤ 140737488351232) (ho : o.size ≤ 140737488351232) (h : Hid (doRo l k u o = (r, er))) :
    Calls Try.prog 23 #[.slice A n c, .int .i64 k, .string u, .string o] w fun e w' => ∃ v, e = .returned (.tuple #[v, .int .i64 er]) ∧ Row enEn 7 w' v r ∧ Below w.heap.size w w' ∧ (v = .slice A n c ∨ ∀ g, v.ownBlock = some g → w.heap.size ≤ g) := by
  have := DoRo_calls n c A l k u o w hl hz hn hu ho
  rwa [h.out] at this
theorem May8_is (b : Bool) (hz : SzRo l) (hn : n ≤ 100000) (h : Hid (mayRo l = b)) : Calls Try.prog 12 #[.slice A n c] w fun e w' => e = .returned (.bool b) ∧ Below w.heap.size w w' :=
  re_ (MayRo_calls n c A l w hl hz hn) (ret_bool h.out)
theorem refMay8_is (b : Bool) (hz : SzRo l) (hn : n ≤ 100000) (h : Hid (mayRo l = b)) : Calls Try.prog 13 #[.slice A n c] w fun e w' => e = .returned (.bool b) ∧ Below w.heap.size w w' :=
  re_ (refMayRo_calls n c A l w hl hz hn) (ret_bool h.out)
theorem Get8_is (o q : ByteArray) (a b c' d e : Bool) (h : Hid (getRo l o q = ⟨a, b, c', d, e⟩)) : Calls Try.prog 14 #[.slice A n c, .string o, .string q] w fun x w' => x = .returned (agI a b c' d e) ∧ Below w.heap.size w w' := by
  have := GetRo_calls n c A l o q w hl
  rwa [h.out] at this
theorem refGet8_is (o q : ByteArray) (a b c' d e : Bool) (h : Hid (getRo l o q = ⟨a, b, c', d, e⟩)) : Calls Try.prog 15 #[.slice A n c, .string o, .string q] w fun x w' => x = .returned (agI a b c' d e) ∧ Below w.heap.size w w' := by
  have := refGetRo_calls n c A l o q w hl
  rwa [h.out] at this
theorem Sees8_is (o q : ByteArray) (b : Bool) (h : Hid (seesRo l o q = b)) : Calls Try.prog 19 #[.slice A n c, .string o, .string q] w fun x w' => x = .returned (.bool b) ∧ Below w.heap.size w w' :=
  re_ (SeesRo_calls n c A l o q w hl) (ret_bool h.out)
theorem refSees8_is (o q : ByteArray) (b : Bool) (h : Hid (seesRo l o q = b)) : Calls Try.prog 20 #[.slice A n c, .string o, .string q] w fun x w' => x = .returned (.bool b) ∧ Below w.heap.size w w' :=
  re_ (refSeesRo_calls n c A l o q w hl) (ret_bool h.out)
theorem Watch8_is (q : ByteArray) (r : List ByteArray) (hn : n ≤ 100000) (h : Hid (watchRo l q = r)) : Calls Try.prog 21 #[.slice A n c, .string q] w fun e w' => ∃ v, e = .returned v ∧ Row enS 1 w' v r ∧ Below w.heap.size w w' := by
  have := WatchRo_calls n c A l q w hl hn
  rwa [h.out] at this
theorem refWatch8_is (q : ByteArray) (r : List ByteArray) (hn : n ≤ 100000) (h : Hid (watchRo l q = r)) : Calls Try.prog 22 #[.slice A n c, .string q] w fun e w' => ∃ v, e = .returned v ∧ Row enS 1 w' v r ∧ Below w.heap.size w w' := by
  have := refWatchRo_calls n c A l q w hl hn
  rwa [h.out] at this
theorem Of8_is (q : ByteArray) (r : List ByteArray) (hn : n ≤ 100000) (h : Hid (ofRo l q = r)) : Calls Try.prog 17 #[.slice A n c, .string q] w fun e w' => ∃ v, e = .returned v ∧ Row enS 1 w' v r ∧ Below w.heap.size w w' :=
  (OfRo_calls n c A l q w hl hn).mono fun e w' ⟨v, he, ho, hb⟩ => ⟨v, he, by have := ho.row; rwa [show (l.filter (fun s : En => decide (s.o = q))).map En.c = r from h.out] at this, hb⟩
theorem refOf8_is (q : ByteArray) (r : List ByteArray) (hn : n ≤ 100000) (h : Hid (ofRo l q = r)) : Calls Try.prog 18 #[.slice A n c, .string q] w fun e w' => ∃ v, e = .returned v ∧ Row enS 1 w' v r ∧ Below w.heap.size w w' :=
  (refOfRo_calls n c A l q w hl hn).mono fun e w' ⟨v, he, ho, hb⟩ => ⟨v, he, by have := ho.row; rwa [show (l.filter (fun s : En => decide (s.o = q))).map En.c = r from h.out] at this, hb⟩
end
theorem Row.form8 {α : Type} {enc : α → List Value} {k : Nat} {w : World} {v : Value} {xs : List α} (h : Row enc k w v xs) (n : Nat) (hn : xs.length = n) : ∃ A c, v = .slice A n c := by
  obtain ⟨A, c, e, _⟩ := h
  exact ⟨A, c, by rw [e, hn]⟩
theorem szRo_of (l : List En) (h : l.all (fun s => decide (s.o.size ≤ 140737488351232) && decide (s.c.size ≤ 140737488351232)) = true) : SzRo l := fun s hs => by
  have := List.all_eq_true.1 h s hs
  rw [Bool.and_eq_true, decide_eq_true_eq, decide_eq_true_eq] at this
  exact this
abbrev b8A : ByteArray := ⟨#[97, 110, 110]⟩
abbrev b8B : ByteArray := ⟨#[98, 111, 98]⟩
abbrev l8 : List En := [⟨b8A, b8B, false, false, false, true, false⟩, ⟨b8B, b8A, false, false, true, false, false⟩]
abbrev m8 : List En := [⟨b8A, b8B, false, true, false, false, false⟩, ⟨b8B, b8A, true, false, false, false, false⟩]
theorem l8a : Hid (doRo [] 1 b8B b8A = (l8, 0)) := by show _ = _; decide +kernel
theorem l8b : Hid (doRo l8 2 b8A b8B = (m8, 0)) := by show _ = _; decide +kernel
theorem l8c : Hid (doRo m8 1 b8B b8A = (m8, 7)) := by show _ = _; decide +kernel
theorem l8d : Hid (doRo m8 1 b8B b8B = (m8, 1)) := by show _ = _; decide +kernel
theorem l8e : Hid (doRo m8 3 b8B b8A = ([], 0)) := by show _ = _; decide +kernel
theorem l8f : Hid (getRo m8 b8B b8A = ⟨true, false, false, false, false⟩) := by show _ = _; decide +kernel
theorem l8g : Hid (mayRo m8 = true) := by show _ = _; decide +kernel
theorem l8h : Hid (mayRo (m8.take 1) = false) := by show _ = _; decide +kernel
theorem l8i : Hid (seesRo m8 b8B b8A = true) := by show _ = _; decide +kernel
theorem l8j : Hid (seesRo m8 b8A b8B = false) := by show _ = _; decide +kernel
theorem l8k : Hid (watchRo m8 b8A = [b8B]) := by show _ = _; decide +kernel
theorem l8l : Hid (ofRo m8 b8A = [b8B]) := by show _ = _; decide +kernel
set_option maxHeartbeats 32000000 in
set_option maxRecDepth 100000 in
theorem live08 (w : World) : Calls Try.prog 11 #[] w fun e w' => e = .returned (.bool true) ∧ Below w.heap.size w w' := by
  have D := Below.refl w.heap.size w
  go_enter Try.func11, Try.ntmps11
  go_wp2_with fail
  with_reducible refine (Do8_is 0 0 none [] _ (Row.nil _ _ _) 1 b8B b8A l8 0 (szRo_of _ (by decide)) (by decide) (by decide) (by decide) l8a).mono ?_
  rintro e w1 ⟨v1, rfl, rl, b1⟩
  obtain ⟨Al, cl, rfl⟩ := rl.form8 2 rfl
  replace D := below_call D b1
  clear b1
  go_wp2_with fail
  with_reducible refine (Do8_is 2 cl Al l8 _ rl 2 b8A b8B m8 0 (szRo_of _ (by decide)) (by decide) (by decide) (by decide) l8b).mono ?_
  rintro e w2 ⟨v2, rfl, rm, b2⟩
  obtain ⟨Am, cm, rfl⟩ := rm.form8 2 rfl
  replace D := below_call D b2
  replace rl := rl.below b2
  clear b2
  go_wp2_with fail
  with_reducible refine (Do8_is 2 cm Am m8 _ rm 1 b8B b8A m8 7 (szRo_of _ (by decide)) (by decide) (by decide) (by decide) l8c).mono ?_
  rintro e w3 ⟨v3, rfl, r3, b3⟩
  obtain ⟨A3, c3, rfl⟩ := r3.form8 _ rfl
  replace D := below_call D b3
  replace rl := rl.below b3
  replace rm := rm.below b3
  clear b3 r3
  go_wp2_with fail
  with_reducible refine (Do8_is 2 cm Am m8 _ rm 1 b8B b8B m8 1 (szRo_of _ (by decide)) (by decide) (by decide) (by decide) l8d).mono ?_
  rintro e w4 ⟨v4, rfl, r4, b4⟩
  obtain ⟨A4, c4, rfl⟩ := r4.form8 _ rfl
  replace D := below_call D b4
  replace rl := rl.below b4
  replace rm := rm.below b4
  clear b4 r4
  go_wp2_with fail
  with_reducible refine (Do8_is 2 cm Am m8 _ rm 3 b8B b8A [] 0 (szRo_of _ (by decide)) (by decide) (by decide) (by decide) l8e).mono ?_
  rintro e w5 ⟨v5, rfl, r5, b5⟩
  obtain ⟨A5, c5, rfl⟩ := r5.form8 _ rfl
  replace D := below_call D b5
  replace rl := rl.below b5
  replace rm := rm.below b5
  clear b5 r5
  obtain ⟨adl, rfl, -⟩ := rl.get enEn_len 0 (by decide)
  obtain ⟨adm, rfl, -⟩ := rm.get enEn_len 0 (by decide)
  have hcm : (1 : Int) ≤ (cm : Int) := by
    obtain ⟨_, _, he, h1, _⟩ := id rm
    injection he with _ _ h3
    subst h3
    have : (2 : Nat) ≤ cm := h1
    omega
  have hcm2 : 1 ≤ cm := by omega
  obtain ⟨f0, f1, f2, f3, f4, f5, f6⟩ := rowsEn rl 0 (by decide) _ _ _ _ _ _ _ rfl
  have n0 : w5.cell? adl = some (.string ⟨#[97, 110, 110]⟩) := by simpa [Addr.add] using f0
  have n1 : w5.cell? ⟨adl.block, adl.off + 2, none⟩ = some (.bool false) := by simpa [Addr.add] using f2
  have n2 : w5.cell? ⟨adl.block, adl.off + 3, none⟩ = some (.bool false) := by simpa [Addr.add] using f3
  have n3 : w5.cell? ⟨adl.block, adl.off + 4, none⟩ = some (.bool false) := by simpa [Addr.add] using f4
  have n4 : w5.cell? ⟨adl.block, adl.off + 5, none⟩ = some (.bool true) := by simpa [Addr.add] using f5
  have n5 : w5.cell? ⟨adl.block, adl.off + 6, none⟩ = some (.bool false) := by simpa [Addr.add] using f6
  clear rl f0 f1 f2 f3 f4 f5 f6
  go_wp2_with fail
  with_reducible refine (Get8_is 2 cm (some adm) m8 _ rm b8B b8A true false false false false l8f).mono ?_
  rintro e w6 ⟨rfl, b6⟩
  replace rm := rm.below b6
  replace D := below_call D b6
  clear b6 n0 n1 n2 n3 n4 n5
  go_wp2_with fail
  with_reducible refine (May8_is 2 cm (some adm) m8 _ rm true (szRo_of _ (by decide)) (by decide) l8g).mono ?_
  rintro e w7 ⟨rfl, b7⟩
  replace rm := rm.below b7
  replace D := below_call D b7
  clear b7
  go_wp2_with fail
  with_reducible refine (May8_is 1 cm (some adm) (m8.take 1) _ (rm.take enEn_len 1 (by decide)) false (szRo_of _ (by decide)) (by decide) l8h).mono ?_
  rintro e w8 ⟨rfl, b8⟩
  replace rm := rm.below b8
  replace D := below_call D b8
  clear b8
  go_wp2_with fail
  with_reducible refine (Sees8_is 2 cm (some adm) m8 _ rm b8B b8A true l8i).mono ?_
  rintro e w9 ⟨rfl, b9⟩
  replace rm := rm.below b9
  replace D := below_call D b9
  clear b9
  go_wp2_with fail
  with_reducible refine (Sees8_is 2 cm (some adm) m8 _ rm b8A b8B false l8j).mono ?_
  rintro e w10 ⟨rfl, b10⟩
  replace rm := rm.below b10
  replace D := below_call D b10
  clear b10
  go_wp2_with fail
  with_reducible refine (Watch8_is 2 cm (some adm) m8 _ rm b8A [b8B] (by decide) l8k).mono ?_
  rintro e w11 ⟨vW, rfl, rW, b11⟩
  replace rm := rm.below b11
  replace D := below_call D b11
  clear b11
  obtain ⟨AW, cW, rfl⟩ := rW.form8 1 rfl
  have rL := (Own.lit (e := 9) (base := 0) enS_len w11 [b8B] #[.string b8B] 1 rfl rfl (Nat.zero_le _) (by omega)).row
  replace rm := rm.below (below_box (.cells #[.string b8B] 9))
  replace rW := rW.below (below_box (.cells #[.string b8B] 9))
  replace D := below_alloc0 D (.cells #[.string b8B] 9)
  go_wp2_with fail
  with_reducible refine (re_ (refSame_calls 1 cW 1 1 _ _ [b8B] [b8B] _ rW rL) (ret_bool (decide_eq_true rfl))).mono ?_
  rintro e w12 ⟨rfl, b12⟩
  replace rm := rm.below b12
  replace rW := rW.below b12
  replace D := below_call D b12
  clear b12
  clear rL
  clear rW
  go_wp2_with fail
  with_reducible refine (Of8_is 2 cm (some adm) m8 _ rm b8A [b8B] (by decide) l8l).mono ?_
  rintro e w13 ⟨vW, rfl, rW, b13⟩
  replace rm := rm.below b13
  replace D := below_call D b13
  clear b13
  obtain ⟨AW, cW, rfl⟩ := rW.form8 1 rfl
  have rL := (Own.lit (e := 9) (base := 0) enS_len w13 [b8B] #[.string b8B] 1 rfl rfl (Nat.zero_le _) (by omega)).row
  replace rm := rm.below (below_box (.cells #[.string b8B] 9))
  replace rW := rW.below (below_box (.cells #[.string b8B] 9))
  replace D := below_alloc0 D (.cells #[.string b8B] 9)
  go_wp2_with fail
  with_reducible refine (re_ (refSame_calls 1 cW 1 1 _ _ [b8B] [b8B] _ rW rL) (ret_bool (decide_eq_true rfl))).mono ?_
  rintro e w14 ⟨rfl, b14⟩
  replace rm := rm.below b14
  replace rW := rW.below b14
  replace D := below_call D b14
  clear b14
  clear rL
  clear rW
  go_wp2
  go_ret
  exact ⟨rfl, D⟩
end Go.Proofs.Ytpmafghknafhaaa
set_option linter.unusedVariables false
set_option linter.unusedSimpArgs false
namespace Go.Proofs.Ytpmafghknafhaaa
open Go.RowKit
open Sp
abbrev SzE (l : List En) : Prop := ∀ s ∈ l, s.o.size ≤ 9223372036854775807 ∧ s.c.size ≤ 9223372036854775807
theorem fewRo_sz {l : List En} (h : fewRo l = true) : SzRo l ∧ l.length ≤ 80 := by
  unfold fewRo at h
  rw [Bool.and_eq_true, List.all_eq_true, decide_eq_true_eq] at h
  refine ⟨fun s hs => ?_, h.1⟩
  have := h.2 s hs
  rw [Bool.and_eq_true, decide_eq_true_eq, decide_eq_true_eq] at this
  omega
theorem few8_is (n c : Nat) (A : Option Addr) (l : List En) (w : World) (hl : Row enEn 7 w (.slice A n c) l) (b : Bool) (hz : SzE l) (h : Hid (fewRo l = b)) : Calls Try.prog 10 #[.slice A n c] w fun e w' => e = .returned (.bool b) ∧ Below w.heap.size w w' :=
  re_ (few8_calls n c A l w hl hz) (ret_bool h.out)
set_option maxHeartbeats 16000000 in
set_option maxRecDepth 100000 in
theorem tells8_walk (n c : Nat) (A : Option Addr) (l : List En) (p q : ByteArray) (w : World) (hl : Row enEn 7 w (.slice A n c) l) (hz : SzE l) (hp : p.size ≤ 9223372036854775807) (hq : q.size ≤ 9223372036854775807) :
    Calls Try.prog 3 #[.slice A n c, .string p, .string q] w fun e w' => e = .returned (.bool true) ∧ Below w.heap.size w w' := by
  have EA := Lib.hid hl.len_eq
  have D := Below.refl w.heap.size w
  cases h : fewRo l with
  | false =>
    have H := Lib.hid h
    clear h
    go_enter Try.func3, Try.ntmps3
    go_wp2_with fail
    with_reducible refine (few8_is n c A l _ (hl.below D) false hz H).mono ?_
    rintro e w1 ⟨rfl, b1⟩
    replace D := below_call D b1
    clear b1
    go_wp2_with fail
    with_reducible refine (live08 _).mono ?_
    rintro e w2 ⟨rfl, b2⟩
    replace D := below_call D b2
    clear b2
    go_wp2
    go_ret
    exact ⟨rfl, D⟩
  | true =>
  obtain ⟨hs, h80⟩ := fewRo_sz h
  have hn : n ≤ 100000 := by have := EA.out; omega
  have H := Lib.hid h
  clear h h80
  by_cases hps : (40 : Int) < (p.size : Int)
  · go_enter Try.func3, Try.ntmps3
    go_wp2_with fail
    with_reducible refine (few8_is n c A l _ (hl.below D) true hz H).mono ?_
    rintro e w1 ⟨rfl, b1⟩
    replace D := below_call D b1
    clear b1
    go_wp2_with fail
    with_reducible refine (live08 _).mono ?_
    rintro e w2 ⟨rfl, b2⟩
    replace D := below_call D b2
    clear b2
    go_wp2
    go_ret
    exact ⟨rfl, D⟩
  by_cases hqs : (40 : Int) < (q.size : Int)
  · go_enter Try.func3, Try.ntmps3
    go_wp2_with fail
    with_reducible refine (few8_is n c A l _ (hl.below D) true hz H).mono ?_
    rintro e w1 ⟨rfl, b1⟩
    replace D := below_call D b1
    clear b1
    go_wp2_with fail
    with_reducible refine (live08 _).mono ?_
    rintro e w2 ⟨rfl, b2⟩
    replace D := below_call D b2
    clear b2
    go_wp2
    go_ret
    exact ⟨rfl, D⟩
  have hps' : (p.size : Int) ≤ 40 := by omega
  have hqs' : (q.size : Int) ≤ 40 := by omega
  clear hps hqs
  obtain ⟨m, hm⟩ : ∃ m, mayRo l = m := ⟨_, rfl⟩
  obtain ⟨⟨a1, a2, a3, a4, a5⟩, hg⟩ : ∃ x, getRo l p q = x := ⟨_, rfl⟩
  obtain ⟨os, ho⟩ : ∃ r, ofRo l p = r := ⟨_, rfl⟩
  obtain ⟨b, hb⟩ : ∃ b, seesRo l p q = b := ⟨_, rfl⟩
  obtain ⟨ws, hw⟩ : ∃ r, watchRo l p = r := ⟨_, rfl⟩
  have HM := Lib.hid hm
  have HG := Lib.hid hg
  have HO := Lib.hid ho
  have HB := Lib.hid hb
  have HW := Lib.hid hw
  have hci := eqlIt a1 a2 a3 a4 a5 a1 a2 a3 a4 a5
  rw [eqvIt, decide_eq_true rfl] at hci
  clear hm hg ho hb hw
  go_enter Try.func3, Try.ntmps3
  go_wp2_with fail
  with_reducible refine (few8_is n c A l _ (hl.below D) true hz H).mono ?_
  rintro e w1 ⟨rfl, b1⟩
  replace D := below_call D b1
  clear b1
  go_wp2_with fail
  with_reducible refine (May8_is n c A l _ (hl.below D) m hs hn HM).mono ?_
  rintro e w2 ⟨rfl, b2⟩
  replace D := below_call D b2
  clear b2
  go_wp2_with fail
  with_reducible refine (refMay8_is n c A l _ (hl.below D) m hs hn HM).mono ?_
  rintro e w3 ⟨rfl, b3⟩
  replace D := below_call D b3
  clear b3
  go_wp2_with fail
  with_reducible refine (Get8_is n c A l _ (hl.below D) p q a1 a2 a3 a4 a5 HG).mono ?_
  rintro e w4 ⟨rfl, b4⟩
  replace D := below_call D b4
  clear b4
  go_wp2_with fail
  with_reducible refine (refGet8_is n c A l _ (hl.below D) p q a1 a2 a3 a4 a5 HG).mono ?_
  rintro e w5 ⟨rfl, b5⟩
  replace D := below_call D b5
  clear b5
  go_wp2_with fail
  with_reducible refine (Of8_is n c A l _ (hl.below D) p os hn HO).mono ?_
  rintro e w6 ⟨v1, rfl, r1, b6⟩
  replace D := below_call D b6
  clear b6
  obtain ⟨A1, c1, rfl⟩ := r1.form8 _ rfl
  go_wp2_with fail
  with_reducible refine (refOf8_is n c A l _ (hl.below D) p os hn HO).mono ?_
  rintro e w7 ⟨v2, rfl, r2, b7⟩
  replace r1 := r1.below b7
  replace D := below_call D b7
  clear b7
  obtain ⟨A2, c2, rfl⟩ := r2.form8 _ rfl
  go_wp2_with fail
  with_reducible refine (re_ (refSame_calls _ _ _ _ _ _ os os _ r1 r2) (ret_bool (decide_eq_true rfl))).mono ?_
  rintro e w8 ⟨rfl, b8⟩
  replace r1 := r1.below b8
  replace r2 := r2.below b8
  replace D := below_call D b8
  clear b8
  clear r1 r2
  go_wp2_with fail
  with_reducible refine (Sees8_is n c A l _ (hl.below D) p q b HB).mono ?_
  rintro e w9 ⟨rfl, b9⟩
  replace D := below_call D b9
  clear b9
  go_wp2_with fail
  with_reducible refine (refSees8_is n c A l _ (hl.below D) p q b HB).mono ?_
  rintro e w10 ⟨rfl, b10⟩
  replace D := below_call D b10
  clear b10
  go_wp2_with fail
  with_reducible refine (Watch8_is n c A l _ (hl.below D) p ws hn HW).mono ?_
  rintro e w11 ⟨v1, rfl, r1, b11⟩
  replace D := below_call D b11
  clear b11
  obtain ⟨A1, c1, rfl⟩ := r1.form8 _ rfl
  go_wp2_with fail
  with_reducible refine (refWatch8_is n c A l _ (hl.below D) p ws hn HW).mono ?_
  rintro e w12 ⟨v2, rfl, r2, b12⟩
  replace r1 := r1.below b12
  replace D := below_call D b12
  clear b12
  obtain ⟨A2, c2, rfl⟩ := r2.form8 _ rfl
  go_wp2_with fail
  with_reducible refine (re_ (refSame_calls _ _ _ _ _ _ ws ws _ r1 r2) (ret_bool (decide_eq_true rfl))).mono ?_
  rintro e w13 ⟨rfl, b13⟩
  replace r1 := r1.below b13
  replace r2 := r2.below b13
  replace D := below_call D b13
  clear b13
  clear r1 r2
  go_wp2_with fail
  with_reducible refine (live08 _).mono ?_
  rintro e w14 ⟨rfl, b14⟩
  replace D := below_call D b14
  clear b14
  go_wp2
  go_ret
  exact ⟨rfl, D⟩
end Go.Proofs.Ytpmafghknafhaaa
