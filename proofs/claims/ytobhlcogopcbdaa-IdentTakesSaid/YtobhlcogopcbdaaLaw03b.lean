/-
The walks of the statements IdentTells, IdentTakes and IdentFolds: each returns true whatever the input.
-/
import Derived.Test.YtobhlcogopcbdaaLaw03a
namespace Go.Proofs.Ytobhlcogopcbdaa
open Go.RowKit Sp

set_option maxHeartbeats 2000000 in
set_option maxRecDepth 100000 in
theorem tells_walk (s : ByteArray) (w : World) : Calls Try.prog 3 #[.string s] w fun e w' => e = .returned (.bool true) ∧ Below w.heap.size w w' := by
  obtain ⟨t, b, h1⟩ : ∃ t b, foldV s = (t, b) := ⟨_, _, rfl⟩
  obtain ⟨p, c, h2⟩ : ∃ t b, putN s = (t, b) := ⟨_, _, rfl⟩
  obtain ⟨d, h3⟩ : ∃ b, isName s = b := ⟨_, rfl⟩
  have H1 := Lib.hid h1
  have H2 := Lib.hid h2
  have H3 := Lib.hid h3
  clear h1 h2 h3
  by_cases hs : (s.size : Int) > 100
  · go_enter Try.func3, Try.ntmps3
    go_wp2_with fail
    refine (live03 _).mono ?_
    rintro e w1 ⟨rfl, b1⟩
    go_wp2
    go_ret
    exact ⟨rfl, b1⟩
  · have hl : s.size ≤ 140737488351232 := by omega
    go_enter Try.func3, Try.ntmps3
    go_wp2_with fail
    refine (identFold_is _ s t b H1 hl).mono ?_
    rintro e w1 ⟨rfl, b1⟩
    go_wp2_with fail
    refine (refFold_is _ s t b H1 hl).mono ?_
    rintro e w2 ⟨rfl, b2⟩
    replace b2 := below_call b1 b2
    clear b1
    go_wp2_with fail
    refine (identPut_is _ s p c H2 hl).mono ?_
    rintro e w3 ⟨rfl, b3⟩
    replace b3 := below_call b2 b3
    clear b2
    go_wp2_with fail
    refine (refNPut_is _ s p c H2 hl).mono ?_
    rintro e w4 ⟨rfl, b4⟩
    replace b4 := below_call b3 b4
    clear b3
    go_wp2_with fail
    refine (Is_is _ s d H3 hl).mono ?_
    rintro e w5 ⟨rfl, b5⟩
    replace b5 := below_call b4 b5
    clear b4
    go_wp2_with fail
    refine (refIs_is _ s d H3 hl).mono ?_
    rintro e w6 ⟨rfl, rfl⟩
    go_wp2_with fail
    refine (live03 _).mono ?_
    rintro e w7 ⟨rfl, b7⟩
    replace b7 := below_call b5 b7
    go_wp2
    go_ret
    exact ⟨rfl, b7⟩

set_option maxHeartbeats 2000000 in
set_option maxRecDepth 100000 in
theorem takes_walk (s : ByteArray) (a : Int) (w : World) : Calls Try.prog 4 #[.string s, .int .i64 a] w fun e w' => e = .returned (.bool true) ∧ Below w.heap.size w w' := by
  obtain ⟨t, to, er, h1⟩ : ∃ t b c, takeN s a = (t, b, c) := ⟨_, _, _, rfl⟩
  have H1 := Lib.hid h1
  clear h1
  by_cases hs : (s.size : Int) > 300
  · go_enter Try.func4, Try.ntmps4
    go_wp2_with fail
    refine (live03 _).mono ?_
    rintro e w1 ⟨rfl, b1⟩
    go_wp2
    go_ret
    exact ⟨rfl, b1⟩
  · have hl : s.size ≤ 140737488351232 := by omega
    go_enter Try.func4, Try.ntmps4
    go_wp2_with fail
    refine (identTake_is _ s a t to er H1 hl).mono ?_
    rintro e w1 ⟨rfl, b1⟩
    go_wp2_with fail
    refine (refNTake_is _ s a t to er H1 hl).mono ?_
    rintro e w2 ⟨rfl, b2⟩
    replace b2 := below_call b1 b2
    clear b1
    go_wp2_with fail
    refine (live03 _).mono ?_
    rintro e w7 ⟨rfl, b7⟩
    replace b7 := below_call b2 b7
    go_wp2
    go_ret
    exact ⟨rfl, b7⟩
end Go.Proofs.Ytobhlcogopcbdaa
