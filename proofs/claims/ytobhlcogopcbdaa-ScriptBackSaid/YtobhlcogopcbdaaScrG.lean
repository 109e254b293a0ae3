/-
Layer 23: an event as bytes, by the program.
-/
import Derived.Test.YtobhlcogopcbdaaScrF
import Derived.Test.YtobhlcogopcbdaaValC
set_option linter.unusedVariables false
set_option linter.unusedSimpArgs false
namespace Go.Proofs.Ytobhlcogopcbdaa
open Go.RowKit
open Sp
theorem bcellB {B : Nat} {W w1 : World} (hb : Below B W w1) : (∀ b o, b < B → w1.cell? ⟨b, o, none⟩ = W.cell? ⟨b, o, none⟩) ∧ (∀ b o, b < B → w1.frozen? ⟨b, o, none⟩ = W.frozen? ⟨b, o, none⟩) :=
  ⟨fun b o h => hb.cell (p := ⟨b, o, none⟩) h, fun b o h => hb.frozen (p := ⟨b, o, none⟩) h⟩
theorem valPut_is (a p n : Int) (t q : ByteArray) (b : Bool) (w : World) (ht : t.size ≤ 140737488351232) (h : Hid (putVal a p n t = (q, b))) :
    Calls Try.prog 65 #[.agg #[.int .i64 a, .int .i64 p, .int .i64 n, .string t]] w fun e w' => e = .returned (.tuple #[.string q, .bool b]) ∧ Below w.heap.size w w' := by
  have := valPut_calls a p n t w ht
  rw [h.out] at this
  exact this
theorem size_list (s : ByteArray) : s.data.toList.length = s.size := (size_eq_length s).symm

set_option maxHeartbeats 4000000 in
set_option maxRecDepth 100000 in
theorem enc_lo (k : Int) (u o : ByteArray) (i a p n : Int) (t : ByteArray) (w : World) (hu : u.size ≤ 140737488351232) (ho : o.size ≤ 140737488351232) (ht : t.size ≤ 140737488351232) (hm : mayE8 k u o i a p n t = true) (h6 : k ≤ 6) :
    Calls Try.prog 40 #[.agg #[.int .i64 k, .string u, .string o, .int .i64 i, .int .i64 a, .int .i64 p, .int .i64 n, .string t]] w fun e w' => e = .returned (.tuple #[.string (encE8 k u o i a p n t).1, .int .i64 (encE8 k u o i a p n t).2]) ∧ Below w.heap.size w w' := by
  have HM := Lib.hid hm
  obtain ⟨k1, k8, zu, zo, zt, zi0, zi4⟩ := mayE8_sz k u o i a p n t hm
  obtain ⟨qu, hqu⟩ : ∃ q, textV u = q := ⟨_, rfl⟩
  obtain ⟨qo, hqo⟩ : ∃ q, textV o = q := ⟨_, rfl⟩
  obtain ⟨qv, bv, hqv⟩ : ∃ q b, putVal a p n t = (q, b) := ⟨_, _, rfl⟩
  have zqu : qu.size ≤ 26 := by rw [← hqu]; have := textV_size u hu; omega
  have zqo : qo.size ≤ 26 := by rw [← hqo]; have := textV_size o ho; omega
  have zqv : qv.size ≤ 60 := by have := putVal_size a p n t; rw [hqv] at this; exact this
  have HE : Hid (encE8 k u o i a p n t = (sealS (strOf ([] ++ [UInt8.ofNat k.toNat] ++ qu.data.toList ++ qo.data.toList)), 0)) := by
    show _ = _
    unfold encE8
    rw [hm, if_neg (by simp), hqu, hqo, hqv]
    rw [if_pos h6]
    simp only [append_strOf, strOf_list, List.nil_append]
  have HQU := Lib.hid hqu
  have HQO := Lib.hid hqo
  have HQV := Lib.hid hqv
  have e1 : bits .and .i64 1 1 = 1 := by decide
  have e2 : bits .and .i64 1 2 = 0 := by decide
  have e4 : bits .and .i64 1 4 = 0 := by decide
  clear hm hqu hqo hqv zi0 zi4
  go_enter Try.func40, Try.ntmps40
  go_wp2_with fail
  refine (re_ (mayE_calls k u o i a p n t _ hu ho ht) (by rw [HM.out])).mono ?_
  rintro e w1 ⟨rfl, b1⟩
  have BB0 := below_call (below_box _) b1
  obtain ⟨hc1, hf1⟩ := bcell b1
  have hz1 : w.heap.size < w1.heap.size := Nat.lt_of_lt_of_le (by simp) b1.size
  clear b1
  have HB1 := Bld.fresh w1
  have BB1 := below_alloc0 BB0 (.cells #[.pointer none, .slice none 0 0] 64)
  have HS1 : w1.heap.size ≤ (w1.alloc (.cells #[.pointer none, .slice none 0 0] 64)).heap.size := by simp
  go_wp2_with fail
  refine (bldByte w1.heap.size w1.heap.size _ (UInt8.ofNat k.toNat) _ (by rw [byte_mod]; omega) _ HB1 (by simp only [List.length_append, List.length_cons, List.length_nil, size_list]; omega) HS1).mono ?_
  rintro e w2 ⟨rfl, HB2, HC2, _⟩
  have BB2 : Below w.heap.size w w2 := BB1.trans (HC2.mono (Nat.le_of_lt hz1))
  have HS2 : w1.heap.size ≤ w2.heap.size := Nat.le_trans HS1 HC2.size
  have hz2 : w.heap.size < w2.heap.size := Nat.lt_of_lt_of_le hz1 HS2
  obtain ⟨hc2, hf2⟩ := bcellB HC2
  go_wp2_with fail
  refine (varText_w u qu _ hu HQU).mono ?_
  rintro e w3 ⟨rfl, HC3⟩
  have HB3 := HB2.below HC3
  have BB3 := below_call BB2 HC3
  have HS3 : w1.heap.size ≤ w3.heap.size := Nat.le_trans HS2 HC3.size
  have hz3 : w.heap.size < w3.heap.size := Nat.lt_of_lt_of_le hz1 HS3
  obtain ⟨hc3, hf3⟩ := bcell HC3
  go_wp2_with fail
  refine (bldStr w1.heap.size w1.heap.size _ qu _ HB3 (by simp only [List.length_append, List.length_cons, List.length_nil, size_list]; omega) HS3).mono ?_
  rintro e w4 ⟨rfl, HB4, HC4, _⟩
  have BB4 : Below w.heap.size w w4 := BB3.trans (HC4.mono (Nat.le_of_lt hz1))
  have HS4 : w1.heap.size ≤ w4.heap.size := Nat.le_trans HS3 HC4.size
  have hz4 : w.heap.size < w4.heap.size := Nat.lt_of_lt_of_le hz1 HS4
  obtain ⟨hc4, hf4⟩ := bcellB HC4
  go_wp2_with fail
  refine (has_is _ 1 _ (by unfold Hid; unfold hasK; rw [if_pos ⟨k1, h6⟩])).mono ?_
  rintro e wh ⟨rfl, rfl⟩
  go_wp2_with fail
  refine (varText_w o qo _ ho HQO).mono ?_
  rintro e w5 ⟨rfl, HC5⟩
  have HB5 := HB4.below HC5
  have BB5 := below_call BB4 HC5
  have HS5 : w1.heap.size ≤ w5.heap.size := Nat.le_trans HS4 HC5.size
  have hz5 : w.heap.size < w5.heap.size := Nat.lt_of_lt_of_le hz1 HS5
  obtain ⟨hc5, hf5⟩ := bcell HC5
  go_wp2_with fail
  refine (bldStr w1.heap.size w1.heap.size _ qo _ HB5 (by simp only [List.length_append, List.length_cons, List.length_nil, size_list]; omega) HS5).mono ?_
  rintro e w6 ⟨rfl, HB6, HC6, _⟩
  have BB6 : Below w.heap.size w w6 := BB5.trans (HC6.mono (Nat.le_of_lt hz1))
  have HS6 : w1.heap.size ≤ w6.heap.size := Nat.le_trans HS5 HC6.size
  have hz6 : w.heap.size < w6.heap.size := Nat.lt_of_lt_of_le hz1 HS6
  obtain ⟨hc6, hf6⟩ := bcellB HC6
  go_wp2_with fail
  refine (bldString w1.heap.size w1.heap.size _ _ HB6 HS6).mono ?_
  rintro e wa ⟨rfl, _, HCa, _⟩
  have BBa : Below w.heap.size w wa := BB6.trans (HCa.mono (Nat.le_of_lt hz1))
  go_wp2_with fail
  refine (crcSeal_calls _ _ (by simp only [strOf_size, List.length_append, List.length_cons, List.length_nil, size_list]; omega)).mono ?_
  rintro e wb ⟨rfl, HCb⟩
  go_wp2
  go_ret2
  rw [HE.out]
  refine ⟨?_, below_call BBa HCb⟩
  first | rfl | (simp; done)

set_option maxHeartbeats 4000000 in
set_option maxRecDepth 100000 in
theorem enc_7 (u o : ByteArray) (i a p n : Int) (t : ByteArray) (w : World) (hu : u.size ≤ 140737488351232) (ho : o.size ≤ 140737488351232) (ht : t.size ≤ 140737488351232) (hm : mayE8 7 u o i a p n t = true)  :
    Calls Try.prog 40 #[.agg #[.int .i64 7, .string u, .string o, .int .i64 i, .int .i64 a, .int .i64 p, .int .i64 n, .string t]] w fun e w' => e = .returned (.tuple #[.string (encE8 7 u o i a p n t).1, .int .i64 (encE8 7 u o i a p n t).2]) ∧ Below w.heap.size w w' := by
  have HM := Lib.hid hm
  obtain ⟨_, _, zu, zo, zt, zi0, zi4⟩ := mayE8_sz 7 u o i a p n t hm
  obtain ⟨qu, hqu⟩ : ∃ q, textV u = q := ⟨_, rfl⟩
  obtain ⟨qo, hqo⟩ : ∃ q, textV o = q := ⟨_, rfl⟩
  obtain ⟨qv, bv, hqv⟩ : ∃ q b, putVal a p n t = (q, b) := ⟨_, _, rfl⟩
  have zqu : qu.size ≤ 26 := by rw [← hqu]; have := textV_size u hu; omega
  have zqo : qo.size ≤ 26 := by rw [← hqo]; have := textV_size o ho; omega
  have zqv : qv.size ≤ 60 := by have := putVal_size a p n t; rw [hqv] at this; exact this
  have HE : Hid (encE8 7 u o i a p n t = (sealS (strOf ([] ++ [UInt8.ofNat (7 : Int).toNat] ++ qu.data.toList ++ [UInt8.ofNat i.toNat] ++ qv.data.toList)), 0)) := by
    show _ = _
    unfold encE8
    rw [hm, if_neg (by simp), hqu, hqo, hqv]
    rw [if_neg (by decide), if_pos rfl]
    simp only [append_strOf, strOf_list, List.nil_append]
  have HQU := Lib.hid hqu
  have HQO := Lib.hid hqo
  have HQV := Lib.hid hqv
  have hi0 : 0 ≤ i := zi0 (by omega)
  have hi4 : i < 4 := zi4 (by omega)
  have e1 : bits .and .i64 6 1 = 0 := by decide
  have e2 : bits .and .i64 6 2 = 2 := by decide
  have e4 : bits .and .i64 6 4 = 4 := by decide
  clear hm hqu hqo hqv zi0 zi4
  go_enter Try.func40, Try.ntmps40
  go_wp2_with fail
  refine (re_ (mayE_calls 7 u o i a p n t _ hu ho ht) (by rw [HM.out])).mono ?_
  rintro e w1 ⟨rfl, b1⟩
  have BB0 := below_call (below_box _) b1
  obtain ⟨hc1, hf1⟩ := bcell b1
  have hz1 : w.heap.size < w1.heap.size := Nat.lt_of_lt_of_le (by simp) b1.size
  clear b1
  have HB1 := Bld.fresh w1
  have BB1 := below_alloc0 BB0 (.cells #[.pointer none, .slice none 0 0] 64)
  have HS1 : w1.heap.size ≤ (w1.alloc (.cells #[.pointer none, .slice none 0 0] 64)).heap.size := by simp
  go_wp2_with fail
  refine (bldByte w1.heap.size w1.heap.size _ (UInt8.ofNat (7 : Int).toNat) _ (by rw [byte_mod]; omega) _ HB1 (by simp only [List.length_append, List.length_cons, List.length_nil, size_list]; omega) HS1).mono ?_
  rintro e w2 ⟨rfl, HB2, HC2, _⟩
  have BB2 : Below w.heap.size w w2 := BB1.trans (HC2.mono (Nat.le_of_lt hz1))
  have HS2 : w1.heap.size ≤ w2.heap.size := Nat.le_trans HS1 HC2.size
  have hz2 : w.heap.size < w2.heap.size := Nat.lt_of_lt_of_le hz1 HS2
  obtain ⟨hc2, hf2⟩ := bcellB HC2
  go_wp2_with fail
  refine (varText_w u qu _ hu HQU).mono ?_
  rintro e w3 ⟨rfl, HC3⟩
  have HB3 := HB2.below HC3
  have BB3 := below_call BB2 HC3
  have HS3 : w1.heap.size ≤ w3.heap.size := Nat.le_trans HS2 HC3.size
  have hz3 : w.heap.size < w3.heap.size := Nat.lt_of_lt_of_le hz1 HS3
  obtain ⟨hc3, hf3⟩ := bcell HC3
  go_wp2_with fail
  refine (bldStr w1.heap.size w1.heap.size _ qu _ HB3 (by simp only [List.length_append, List.length_cons, List.length_nil, size_list]; omega) HS3).mono ?_
  rintro e w4 ⟨rfl, HB4, HC4, _⟩
  have BB4 : Below w.heap.size w w4 := BB3.trans (HC4.mono (Nat.le_of_lt hz1))
  have HS4 : w1.heap.size ≤ w4.heap.size := Nat.le_trans HS3 HC4.size
  have hz4 : w.heap.size < w4.heap.size := Nat.lt_of_lt_of_le hz1 HS4
  obtain ⟨hc4, hf4⟩ := bcellB HC4
  go_wp2_with fail
  refine (has_is _ 6 _ (by unfold Hid; unfold hasK; rfl)).mono ?_
  rintro e wh ⟨rfl, rfl⟩
  go_wp2_with fail
  refine (bldByte w1.heap.size w1.heap.size _ (UInt8.ofNat i.toNat) _ (by rw [byte_mod]; omega) _ HB4 (by simp only [List.length_append, List.length_cons, List.length_nil, size_list]; omega) HS4).mono ?_
  rintro e w5 ⟨rfl, HB5, HC5, _⟩
  have BB5 : Below w.heap.size w w5 := BB4.trans (HC5.mono (Nat.le_of_lt hz1))
  have HS5 : w1.heap.size ≤ w5.heap.size := Nat.le_trans HS4 HC5.size
  have hz5 : w.heap.size < w5.heap.size := Nat.lt_of_lt_of_le hz1 HS5
  obtain ⟨hc5, hf5⟩ := bcellB HC5
  go_wp2_with fail
  refine (valPut_is a p n t qv bv _ ht HQV).mono ?_
  rintro e w6 ⟨rfl, HC6⟩
  have HB6 := HB5.below HC6
  have BB6 := below_call BB5 HC6
  have HS6 : w1.heap.size ≤ w6.heap.size := Nat.le_trans HS5 HC6.size
  have hz6 : w.heap.size < w6.heap.size := Nat.lt_of_lt_of_le hz1 HS6
  obtain ⟨hc6, hf6⟩ := bcell HC6
  go_wp2_with fail
  refine (bldStr w1.heap.size w1.heap.size _ qv _ HB6 (by simp only [List.length_append, List.length_cons, List.length_nil, size_list]; omega) HS6).mono ?_
  rintro e w7 ⟨rfl, HB7, HC7, _⟩
  have BB7 : Below w.heap.size w w7 := BB6.trans (HC7.mono (Nat.le_of_lt hz1))
  have HS7 : w1.heap.size ≤ w7.heap.size := Nat.le_trans HS6 HC7.size
  have hz7 : w.heap.size < w7.heap.size := Nat.lt_of_lt_of_le hz1 HS7
  obtain ⟨hc7, hf7⟩ := bcellB HC7
  go_wp2_with fail
  refine (bldString w1.heap.size w1.heap.size _ _ HB7 HS7).mono ?_
  rintro e wa ⟨rfl, _, HCa, _⟩
  have BBa : Below w.heap.size w wa := BB7.trans (HCa.mono (Nat.le_of_lt hz1))
  go_wp2_with fail
  refine (crcSeal_calls _ _ (by simp only [strOf_size, List.length_append, List.length_cons, List.length_nil, size_list]; omega)).mono ?_
  rintro e wb ⟨rfl, HCb⟩
  go_wp2
  go_ret2
  rw [HE.out]
  refine ⟨?_, below_call BBa HCb⟩
  first | rfl | (simp; done)

set_option maxHeartbeats 4000000 in
set_option maxRecDepth 100000 in
theorem enc_8 (u o : ByteArray) (i a p n : Int) (t : ByteArray) (w : World) (hu : u.size ≤ 140737488351232) (ho : o.size ≤ 140737488351232) (ht : t.size ≤ 140737488351232) (hm : mayE8 8 u o i a p n t = true)  :
    Calls Try.prog 40 #[.agg #[.int .i64 8, .string u, .string o, .int .i64 i, .int .i64 a, .int .i64 p, .int .i64 n, .string t]] w fun e w' => e = .returned (.tuple #[.string (encE8 8 u o i a p n t).1, .int .i64 (encE8 8 u o i a p n t).2]) ∧ Below w.heap.size w w' := by
  have HM := Lib.hid hm
  obtain ⟨_, _, zu, zo, zt, zi0, zi4⟩ := mayE8_sz 8 u o i a p n t hm
  obtain ⟨qu, hqu⟩ : ∃ q, textV u = q := ⟨_, rfl⟩
  obtain ⟨qo, hqo⟩ : ∃ q, textV o = q := ⟨_, rfl⟩
  obtain ⟨qv, bv, hqv⟩ : ∃ q b, putVal a p n t = (q, b) := ⟨_, _, rfl⟩
  have zqu : qu.size ≤ 26 := by rw [← hqu]; have := textV_size u hu; omega
  have zqo : qo.size ≤ 26 := by rw [← hqo]; have := textV_size o ho; omega
  have zqv : qv.size ≤ 60 := by have := putVal_size a p n t; rw [hqv] at this; exact this
  have HE : Hid (encE8 8 u o i a p n t = (sealS (strOf ([] ++ [UInt8.ofNat (8 : Int).toNat] ++ qu.data.toList ++ [UInt8.ofNat i.toNat])), 0)) := by
    show _ = _
    unfold encE8
    rw [hm, if_neg (by simp), hqu, hqo, hqv]
    rw [if_neg (by decide), if_neg (by decide)]
    simp only [append_strOf, strOf_list, List.nil_append]
  have HQU := Lib.hid hqu
  have HQO := Lib.hid hqo
  have HQV := Lib.hid hqv
  have hi0 : 0 ≤ i := zi0 (by omega)
  have hi4 : i < 4 := zi4 (by omega)
  have e1 : bits .and .i64 2 1 = 0 := by decide
  have e2 : bits .and .i64 2 2 = 2 := by decide
  have e4 : bits .and .i64 2 4 = 0 := by decide
  clear hm hqu hqo hqv zi0 zi4
  go_enter Try.func40, Try.ntmps40
  go_wp2_with fail
  refine (re_ (mayE_calls 8 u o i a p n t _ hu ho ht) (by rw [HM.out])).mono ?_
  rintro e w1 ⟨rfl, b1⟩
  have BB0 := below_call (below_box _) b1
  obtain ⟨hc1, hf1⟩ := bcell b1
  have hz1 : w.heap.size < w1.heap.size := Nat.lt_of_lt_of_le (by simp) b1.size
  clear b1
  have HB1 := Bld.fresh w1
  have BB1 := below_alloc0 BB0 (.cells #[.pointer none, .slice none 0 0] 64)
  have HS1 : w1.heap.size ≤ (w1.alloc (.cells #[.pointer none, .slice none 0 0] 64)).heap.size := by simp
  go_wp2_with fail
  refine (bldByte w1.heap.size w1.heap.size _ (UInt8.ofNat (8 : Int).toNat) _ (by rw [byte_mod]; omega) _ HB1 (by simp only [List.length_append, List.length_cons, List.length_nil, size_list]; omega) HS1).mono ?_
  rintro e w2 ⟨rfl, HB2, HC2, _⟩
  have BB2 : Below w.heap.size w w2 := BB1.trans (HC2.mono (Nat.le_of_lt hz1))
  have HS2 : w1.heap.size ≤ w2.heap.size := Nat.le_trans HS1 HC2.size
  have hz2 : w.heap.size < w2.heap.size := Nat.lt_of_lt_of_le hz1 HS2
  obtain ⟨hc2, hf2⟩ := bcellB HC2
  go_wp2_with fail
  refine (varText_w u qu _ hu HQU).mono ?_
  rintro e w3 ⟨rfl, HC3⟩
  have HB3 := HB2.below HC3
  have BB3 := below_call BB2 HC3
  have HS3 : w1.heap.size ≤ w3.heap.size := Nat.le_trans HS2 HC3.size
  have hz3 : w.heap.size < w3.heap.size := Nat.lt_of_lt_of_le hz1 HS3
  obtain ⟨hc3, hf3⟩ := bcell HC3
  go_wp2_with fail
  refine (bldStr w1.heap.size w1.heap.size _ qu _ HB3 (by simp only [List.length_append, List.length_cons, List.length_nil, size_list]; omega) HS3).mono ?_
  rintro e w4 ⟨rfl, HB4, HC4, _⟩
  have BB4 : Below w.heap.size w w4 := BB3.trans (HC4.mono (Nat.le_of_lt hz1))
  have HS4 : w1.heap.size ≤ w4.heap.size := Nat.le_trans HS3 HC4.size
  have hz4 : w.heap.size < w4.heap.size := Nat.lt_of_lt_of_le hz1 HS4
  obtain ⟨hc4, hf4⟩ := bcellB HC4
  go_wp2_with fail
  refine (has_is _ 2 _ (by unfold Hid; unfold hasK; rfl)).mono ?_
  rintro e wh ⟨rfl, rfl⟩
  go_wp2_with fail
  refine (bldByte w1.heap.size w1.heap.size _ (UInt8.ofNat i.toNat) _ (by rw [byte_mod]; omega) _ HB4 (by simp only [List.length_append, List.length_cons, List.length_nil, size_list]; omega) HS4).mono ?_
  rintro e w5 ⟨rfl, HB5, HC5, _⟩
  have BB5 : Below w.heap.size w w5 := BB4.trans (HC5.mono (Nat.le_of_lt hz1))
  have HS5 : w1.heap.size ≤ w5.heap.size := Nat.le_trans HS4 HC5.size
  have hz5 : w.heap.size < w5.heap.size := Nat.lt_of_lt_of_le hz1 HS5
  obtain ⟨hc5, hf5⟩ := bcellB HC5
  go_wp2_with fail
  refine (bldString w1.heap.size w1.heap.size _ _ HB5 HS5).mono ?_
  rintro e wa ⟨rfl, _, HCa, _⟩
  have BBa : Below w.heap.size w wa := BB5.trans (HCa.mono (Nat.le_of_lt hz1))
  go_wp2_with fail
  refine (crcSeal_calls _ _ (by simp only [strOf_size, List.length_append, List.length_cons, List.length_nil, size_list]; omega)).mono ?_
  rintro e wb ⟨rfl, HCb⟩
  go_wp2
  go_ret2
  rw [HE.out]
  refine ⟨?_, below_call BBa HCb⟩
  first | rfl | (simp; done)

theorem enc_calls (k : Int) (u o : ByteArray) (i a p n : Int) (t : ByteArray) (w : World) (hu : u.size ≤ 140737488351232) (ho : o.size ≤ 140737488351232) (ht : t.size ≤ 140737488351232) :
    Calls Try.prog 40 #[.agg #[.int .i64 k, .string u, .string o, .int .i64 i, .int .i64 a, .int .i64 p, .int .i64 n, .string t]] w fun e w' => e = .returned (.tuple #[.string (encE8 k u o i a p n t).1, .int .i64 (encE8 k u o i a p n t).2]) ∧ Below w.heap.size w w' := by
  cases hm : mayE8 k u o i a p n t with
  | false =>
    have HE : Hid (encE8 k u o i a p n t = (⟨#[]⟩, 1)) := by show _ = _; rw [encE8, hm, if_pos (by simp)]
    have HM := Lib.hid hm
    clear hm
    go_enter Try.func40, Try.ntmps40
    go_wp2_with fail
    refine (re_ (mayE_calls k u o i a p n t _ hu ho ht) (by rw [HM.out])).mono ?_
    rintro e w1 ⟨rfl, b1⟩
    go_wp2
    go_ret2
    rw [HE.out]
    exact ⟨rfl, below_call (below_alloc0 (Below.refl _ _) _) b1⟩
  | true =>
    obtain ⟨k1, k8, _⟩ := mayE8_sz k u o i a p n t hm
    by_cases h6 : k ≤ 6
    · exact enc_lo k u o i a p n t w hu ho ht hm h6
    · obtain rfl | rfl : k = 7 ∨ k = 8 := by omega
      · exact enc_7 u o i a p n t w hu ho ht hm
      · exact enc_8 u o i a p n t w hu ho ht hm
end Go.Proofs.Ytobhlcogopcbdaa
