/-
The walk of the statement IdentFolds: it returns true whatever the input.
-/
import Derived.Test.YtobhlcogopcbdaaLaw03a
import Derived.Test.YtobhlcogopcbdaaSpecD
namespace Go.Proofs.Ytobhlcogopcbdaa
open Go.RowKit Sp

set_option maxHeartbeats 2000000 in
set_option maxRecDepth 100000 in
theorem folds_walk (s r : ByteArray) (w : World) : Calls Try.prog 6 #[.string s, .string r] w fun e w' => e = .returned (.bool true) ∧ Below w.heap.size w w' := by
  by_cases hs : (s.size : Int) > 100
  · go_enter Try.func6, Try.ntmps6
    go_wp2_with fail
    refine (live03 _).mono ?_
    rintro e w1 ⟨rfl, b1⟩
    go_wp2
    go_ret
    exact ⟨rfl, b1⟩
  by_cases hr : (r.size : Int) > 100
  · go_enter Try.func6, Try.ntmps6
    go_wp2_with fail
    refine (live03 _).mono ?_
    rintro e w1 ⟨rfl, b1⟩
    go_wp2
    go_ret
    exact ⟨rfl, b1⟩
  have hl : s.size ≤ 140737488351232 := by omega
  cases hf : isName (foldS s) with
  | false =>
    have H1 : Hid (foldV s = (⟨#[]⟩, false)) := by show _ = _; simp [foldV, hf]
    have hn := not_name s hf
    have H2 : Hid (putN s = (⟨#[]⟩, false)) := by show _ = _; simp [putN, hn]
    have H3 : Hid (isName s = false) := hn
    clear hf hn
    go_enter Try.func6, Try.ntmps6
    go_wp2_with fail
    refine (identFold_is _ s _ _ H1 hl).mono ?_
    rintro e w1 ⟨rfl, b1⟩
    go_wp2_with fail
    refine (identPut_is _ s _ _ H2 hl).mono ?_
    rintro e w2 ⟨rfl, b2⟩
    replace b2 := below_call b1 b2
    clear b1
    go_wp2_with fail
    refine (Is_is _ s _ H3 hl).mono ?_
    rintro e w3 ⟨rfl, b3⟩
    replace b3 := below_call b2 b3
    clear b2
    go_wp2_with fail
    refine (live03 _).mono ?_
    rintro e w4 ⟨rfl, b4⟩
    replace b4 := below_call b3 b4
    clear b3
    go_wp2
    go_ret
    exact ⟨rfl, b4⟩
  | true =>
    have hsame := name_same s hf
    have hsz := foldS_size s
    have H1 : Hid (foldV s = (foldS s, true)) := by show _ = _; simp [foldV, hf]
    generalize foldS s = t at hf hsame hsz H1
    have H2 : Hid (foldV t = (t, true)) := by show _ = _; simp [foldV, fold_name t hf, hf]
    have H3 : Hid (putN t = (textV t, true)) := by show _ = _; simp [putN, hf]
    have H4 : Hid (takeN (textV t ++ r) 0 = (t, ((textV t).size : Int), 0)) := take_put t r hf
    have hp := text_size t (name_le t hf).2
    have h16 := (name_le t hf).2
    have H5 : Hid (isName t = true) := hf
    have H6 : Hid (isName s = (s.toList == t.toList)) := hsame
    have hx : (textV t ++ r).size ≤ 140737488351232 := by rw [ByteArray.size_append]; omega
    have hx2 : (textV t).size + r.size ≤ 140737488351232 := by omega
    have e1 : ((t.size : Int) == (s.size : Int)) = true := by rw [hsz]; simp
    have ht : t.size ≤ 140737488351232 := by omega
    clear hf hsame hsz hp h16
    generalize textV t = p at *
    go_enter Try.func6, Try.ntmps6
    go_wp2_with fail
    refine (identFold_is _ s _ _ H1 hl).mono ?_
    rintro e w1 ⟨rfl, b1⟩
    go_wp2_with fail
    refine (identFold_is _ t _ _ H2 ht).mono ?_
    rintro e w2 ⟨rfl, b2⟩
    replace b2 := below_call b1 b2
    clear b1
    go_wp2_with fail
    refine (identPut_is _ t _ _ H3 ht).mono ?_
    rintro e w3 ⟨rfl, b3⟩
    replace b3 := below_call b2 b3
    clear b2
    go_wp2_with fail
    refine (identTake_is _ (p ++ r) 0 _ _ _ H4 hx).mono ?_
    rintro e w4 ⟨rfl, b4⟩
    replace b4 := below_call b3 b4
    clear b3
    go_wp2_with fail
    refine (Is_is _ t _ H5 ht).mono ?_
    rintro e w5 ⟨rfl, b5⟩
    replace b5 := below_call b4 b5
    clear b4
    go_wp2_with fail
    refine (Is_is _ s _ H6 hl).mono ?_
    rintro e w6 ⟨rfl, b6⟩
    replace b6 := below_call b5 b6
    clear b5
    go_wp2_with fail
    refine (live03 _).mono ?_
    rintro e w7 ⟨rfl, b7⟩
    replace b7 := below_call b6 b7
    clear b6
    go_wp2
    go_ret
    exact ⟨rfl, b7⟩
end Go.Proofs.Ytobhlcogopcbdaa
