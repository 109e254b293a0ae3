/-
Layer 8: the answers by their equations; 'live' of the statements on rosters.
Layer 8: the walk of RostTells.
-/
import Derived.Test.YtpmafghknafhaaaGreatRosP
import Derived.Test.YtpmafghknafhaaaGreatRosK
set_option linter.unusedVariables false
set_option linter.unusedSimpArgs false
namespace Go.Proofs.YtpmafghknafhaaaGreat
open Go.RowKit
open Sp
section
variable (n c : Nat) (A : Option Addr) (l : List En) (w : World) (hl : Row enEn 7 w (.slice A n c) l)
include hl
theorem Do8_is (k : Int) (u o : ByteArray) (r : List En) (er : Int) (hz : SzRo l) (hn : n ≤ 900) (hu : u.size ≤ 140737488351232) (ho : o.size ≤ 140737488351232) (h : Hid (doRo l k u o = (r, er))) :
    Calls Tryz.prog 28 #[.slice A n c, .int .i64 k, .string u, .string o] w fun e w' => ∃ v, e = .returned (.tuple #[v, .int .i64 er]) ∧ Row enEn 7 w' v r ∧ Below w.heap.size w w' := by
  have := DoRo_calls n c A l k u o w hl hz hn hu ho
  rw [h.out] at this
  exact this.mono fun e w' ⟨v, h1, h2, h3, _⟩ => ⟨v, h1, h2, h3⟩
theorem Do8F_is (k : Int) (u o : ByteArray) (r : List En) (er : Int) (hz : SzRo l) (hn : n ≤ 900) (hu : u.size ≤ 140737488351232) (ho : o.size ≤ 140737488351232) (h : Hid (doRo l k u o = (r, er))) :
    Calls Tryz.prog 28 #[.slice A n c, .int .i64 k, .string u, .string o] w fun e w' => ∃ v, e = .returned (.tuple #[v, .int .i64 er]) ∧ Row enEn 7 w' v r ∧ Below w.heap.size w w' ∧ (v = .slice A n c ∨ ∀ g, v.ownBlock = some g → w.heap.size ≤ g) := by
  have := DoRo_calls n c A l k u o w hl hz hn hu ho
  rwa [h.out] at this
theorem May8_is (b : Bool) (hz : SzRo l) (hn : n ≤ 100000) (h : Hid (mayRo l = b)) : Calls Tryz.prog 35 #[.slice A n c] w fun e w' => e = .returned (.bool b) ∧ Below w.heap.size w w' :=
  re_ (MayRo_calls n c A l w hl hz hn) (ret_bool h.out)
theorem refMay8_is (b : Bool) (hz : SzRo l) (hn : n ≤ 100000) (h : Hid (mayRo l = b)) : Calls Tryz.prog 37 #[.slice A n c] w fun e w' => e = .returned (.bool b) ∧ Below w.heap.size w w' :=
  re_ (refMayRo_calls n c A l w hl hz hn) (ret_bool h.out)
theorem Get8_is (o q : ByteArray) (a b c' d e : Bool) (h : Hid (getRo l o q = ⟨a, b, c', d, e⟩)) : Calls Tryz.prog 45 #[.slice A n c, .string o, .string q] w fun x w' => x = .returned (agI a b c' d e) ∧ Below w.heap.size w w' := by
  have := GetRo_calls n c A l o q w hl
  rwa [h.out] at this
theorem refGet8_is (o q : ByteArray) (a b c' d e : Bool) (h : Hid (getRo l o q = ⟨a, b, c', d, e⟩)) : Calls Tryz.prog 24 #[.slice A n c, .string o, .string q] w fun x w' => x = .returned (agI a b c' d e) ∧ Below w.heap.size w w' := by
  have := refGetRo_calls n c A l o q w hl
  rwa [h.out] at this
theorem Of8_is (q : ByteArray) (r : List ByteArray) (hn : n ≤ 100000) (h : Hid (ofRo l q = r)) : Calls Tryz.prog 47 #[.slice A n c, .string q] w fun e w' => ∃ v, e = .returned v ∧ Row enS 1 w' v r ∧ Below w.heap.size w w' :=
  (OfRo_calls n c A l q w hl hn).mono fun e w' ⟨v, he, ho, hb⟩ => ⟨v, he, by have := ho.row; rwa [show (l.filter (fun s : En => decide (s.o = q))).map En.c = r from h.out] at this, hb⟩
theorem refOf8_is (q : ByteArray) (r : List ByteArray) (hn : n ≤ 100000) (h : Hid (ofRo l q = r)) : Calls Tryz.prog 64 #[.slice A n c, .string q] w fun e w' => ∃ v, e = .returned v ∧ Row enS 1 w' v r ∧ Below w.heap.size w w' :=
  (refOfRo_calls n c A l q w hl hn).mono fun e w' ⟨v, he, ho, hb⟩ => ⟨v, he, by have := ho.row; rwa [show (l.filter (fun s : En => decide (s.o = q))).map En.c = r from h.out] at this, hb⟩
end
theorem Row.form8 {α : Type} {enc : α → List Value} {k : Nat} {w : World} {v : Value} {xs : List α} (h : Row enc k w v xs) (n : Nat) (hn : xs.length = n) : ∃ A c, v = .slice A n c := by
  obtain ⟨A, c, e, _⟩ := h
  exact ⟨A, c, by rw [e, hn]⟩
theorem szRo_of (l : List En) (h : l.all (fun s => decide (s.o.size ≤ 140737488351232) && decide (s.c.size ≤ 140737488351232)) = true) : SzRo l := fun s hs => by
  have := List.all_eq_true.1 h s hs
  rw [Bool.and_eq_true, decide_eq_true_eq, decide_eq_true_eq] at this
  exact this
abbrev b8A : ByteArray := ⟨#[97, 110, 110]⟩
abbrev b8B : ByteArray := ⟨#[98, 111, 98]⟩
abbrev l8 : List En := [⟨b8A, b8B, false, false, false, true, false⟩, ⟨b8B, b8A, false, false, true, false, false⟩]
abbrev m8 : List En := [⟨b8A, b8B, false, true, false, false, false⟩, ⟨b8B, b8A, true, false, false, false, false⟩]
theorem l8a : Hid (doRo [] 1 b8B b8A = (l8, 0)) := by show _ = _; decide +kernel
theorem l8b : Hid (doRo l8 2 b8A b8B = (m8, 0)) := by show _ = _; decide +kernel
theorem l8c : Hid (doRo m8 1 b8B b8A = (m8, 7)) := by show _ = _; decide +kernel
theorem l8d : Hid (doRo m8 1 b8B b8B = (m8, 1)) := by show _ = _; decide +kernel
theorem l8e : Hid (doRo m8 3 b8B b8A = ([], 0)) := by show _ = _; decide +kernel
theorem l8f : Hid (getRo m8 b8B b8A = ⟨true, false, false, false, false⟩) := by show _ = _; decide +kernel
theorem l8g : Hid (mayRo m8 = true) := by show _ = _; decide +kernel
theorem l8h : Hid (mayRo (m8.take 1) = false) := by show _ = _; decide +kernel
theorem l8i : Hid (seesRo m8 b8B b8A = true) := by show _ = _; decide +kernel
theorem l8j : Hid (seesRo m8 b8A b8B = false) := by show _ = _; decide +kernel
theorem l8k : Hid (watchRo m8 b8A = [b8B]) := by show _ = _; decide +kernel
theorem l8l : Hid (ofRo m8 b8A = [b8B]) := by show _ = _; decide +kernel
end Go.Proofs.YtpmafghknafhaaaGreat
set_option linter.unusedVariables false
set_option linter.unusedSimpArgs false
namespace Go.Proofs.YtpmafghknafhaaaGreat
open Go.RowKit
open Sp
abbrev SzE (l : List En) : Prop := ∀ s ∈ l, s.o.size ≤ 9223372036854775807 ∧ s.c.size ≤ 9223372036854775807
theorem fewRo_sz {l : List En} (h : fewRo l = true) : SzRo l ∧ l.length ≤ 80 := by
  unfold fewRo at h
  rw [Bool.and_eq_true, List.all_eq_true, decide_eq_true_eq] at h
  refine ⟨fun s hs => ?_, h.1⟩
  have := h.2 s hs
  rw [Bool.and_eq_true, decide_eq_true_eq, decide_eq_true_eq] at this
  omega
theorem few8_is (n c : Nat) (A : Option Addr) (l : List En) (w : World) (hl : Row enEn 7 w (.slice A n c) l) (b : Bool) (hz : SzE l) (h : Hid (fewRo l = b)) : Calls Tryz.prog 25 #[.slice A n c] w fun e w' => e = .returned (.bool b) ∧ Below w.heap.size w w' :=
  re_ (few8_calls n c A l w hl hz) (ret_bool h.out)
end Go.Proofs.YtpmafghknafhaaaGreat
