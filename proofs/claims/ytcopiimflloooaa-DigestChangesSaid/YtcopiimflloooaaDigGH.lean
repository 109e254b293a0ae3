/-
(*strings.Builder).WriteString: its contract, for seats without WriteByte.
Layer 5: a table's bytes, by the program and by the document.
Layer 5: a table's sum, by the program and by the document.
-/
import Derived.Test.YtcopiimflloooaaBuilder
import Derived.Test.YtcopiimflloooaaDigF
import Derived.Test.YtcopiimflloooaaDigB
import Derived.Test.YtcopiimflloooaaValC
import Derived.Laws.Bits64
namespace Go.Proofs.Ytcopiimflloooaa
open Go.RowKit Sp Go.Lib
set_option maxHeartbeats 2000000 in
set_option maxRecDepth 100000 in
theorem WriteString5_k (B b : Nat) (bs : List Value) (s : ByteArray) (w : World) (h : Lib.IsBuilderF 87 5 B b bs w) (hlen : bs.length + s.size ≤ 140737488355328) (hBw : B ≤ w.heap.size) :
    Calls Try.prog 63 #[.pointer (some ⟨b, 0, none⟩), .string s] w fun e w' => e = .returned (.tuple #[.int .i64 s.size, .nilIface]) ∧ (Lib.BuilderAtF 87 5 B b (.pointer (some ⟨b, 0, none⟩)) (bs ++ Lib.strCells s) w' ∧ Below B w w' ∧ Lib.OthersKept 5 (some b) w w') := by
  obtain ⟨i0, hi, hz0, hz1, hz2⟩ := info_parts info_u8
  go_enter Try.func63, Try.ntmps63
  go_wp2_with (go_at_call 95; refine (copyCheck_k B b bs _ h).mono ?_)
  rintro e w1 ⟨rfl, h1, hb1, hk1, hkk⟩
  obtain ⟨hB, v, hbk, hown, hne⟩ := h1
  have c0 : w1.cell? ⟨b, 0, none⟩ = some (.pointer (some ⟨b, 0, none⟩)) := by rw [Lib.cell_of_heap hbk]; rfl
  have c1 : w1.cell? ⟨b, 1, none⟩ = some v := by rw [Lib.cell_of_heap hbk]; rfl
  go_wp2_with (at_builtin; refine Lib.wpList_append_own_stringF _ rfl _ _ 85 9 rfl B 5 i0 Try.underlying85 Try.underlying9 hi hz0 hz1 hz2 _ _ _ rfl hown s rfl ?c3 ?c4 ?c5 ?_)
  case c3 => unfold maxLen; omega
  case c4 => omega
  case c5 => have := hb1.size; omega
  intro v' w2 hown' hgrow _
  have hlt : b < w1.heap.size := by
    rcases Nat.lt_or_ge b w1.heap.size with h' | h'
    · exact h'
    · simp [Array.getElem?_eq_none h'] at hbk
  have hb2 : w2.heap[b]? = some (.cells #[.pointer (some ⟨b, 0, none⟩), v] 87 (0, 0)) := by
    rw [hgrow.block b hlt (fun e => hne e.symm)]
    exact hbk
  have d0 : w2.cell? ⟨b, 0, none⟩ = some (.pointer (some ⟨b, 0, none⟩)) := by rw [Lib.cell_of_heap hb2]; rfl
  have d1 : w2.cell? ⟨b, 1, none⟩ = some v := by rw [Lib.cell_of_heap hb2]; rfl
  have f1 : w2.frozen? ⟨b, 1, none⟩ = false := Lib.frozen_of_heap hb2 1
  obtain ⟨ao, n', cap, rfl⟩ : ∃ ao n' cap, v' = .slice ao n' cap := by
    rcases hown'.2 with ⟨hv, _⟩ | ⟨g, cap, cur, fz, hv, _⟩
    · exact ⟨_, _, _, hv⟩
    · exact ⟨_, _, _, hv⟩
  go_wp2
  go_ret2
  refine ⟨rfl, ?_, ?_, (hk1.grown hgrow (Lib.ownsRowF_kind hown)).setCell ⟨b, 1, none⟩ rfl _⟩
  · exact Lib.BuilderAtF.put (T := 87) (e := 5) hB hb2 (bs' := bs ++ Lib.strCells s) (by simpa [Lib.strCells_length] using hown') (by decide)
  · exact (hb1.grown hgrow (by have := hb1.size; omega) (fun k hk => (hown.lt k hk).1)).setCell (p := ⟨b, 1, none⟩) hB _
theorem bldStr5 (B b : Nat) (l : List UInt8) (s : ByteArray) (w : World) (h : Bld B b l w) (hlen : l.length + s.size ≤ 140737488355328) (hBw : B ≤ w.heap.size) :
    Calls Try.prog 63 #[.pointer (some ⟨b, 0, none⟩), .string s] w fun e w' => e = .returned (.tuple #[.int .i64 s.size, .nilIface]) ∧ (Bld B b (l ++ s.data.toList) w' ∧ Below B w w' ∧ Lib.OthersKept 5 (some b) w w') :=
  (WriteString5_k B b _ _ w h (by rw [Lib.byteCells_length]; exact hlen) hBw).mono fun _ _ ⟨he, h1, h2, h3⟩ => ⟨he, .inr (by rw [Lib.byteCells_append]; exact h1), h2, h3⟩
end Go.Proofs.Ytcopiimflloooaa
set_option linter.unusedVariables false
set_option linter.unusedSimpArgs false
namespace Go.Proofs.Ytcopiimflloooaa
open Go.RowKit
open Sp
theorem putVal_sz5 (a p n : Int) (t : ByteArray) : (putVal a p n t).1.size ≤ 60 := by
  unfold putVal
  split
  · rename_i h
    have hh := (mayV_iff a p n t).1 h
    have h1 := textV_size t (by omega)
    have h2 := putV_len n.toNat (by omega)
    simp only [ByteArray.size_append, strOf_size, valL, List.length_cons, List.length_nil]
    omega
  · exact Nat.zero_le _
theorem rowB_at (l : List Sn) (n i : Nat) (hi : i < l.length) (x : Sn) (he : l[i] = x) (p q z : ByteArray) (hp : textV x.c = p) (hq : (putVal x.v.1 x.v.2.1 x.v.2.2.1 x.v.2.2.2).1 = q) (hz : z = strOf (putV n ++ (l.take i).flatMap rowB)) :
    z ++ p ++ q = strOf (putV n ++ (l.take (i + 1)).flatMap rowB) := by
  have e : rowB x = p.data.toList ++ q.data.toList := by unfold rowB; rw [hp, hq]
  rw [List.take_succ_eq_append_getElem hi, List.flatMap_append, he, List.flatMap_cons, List.flatMap_nil, List.append_nil, e, ← List.append_assoc, ← strOf_append, ← hz, ← strOf_append, strOf_toList, strOf_toList, ByteArray.append_assoc]
set_option maxHeartbeats 16000000 in
set_option maxRecDepth 100000 in
theorem refPutT_calls (n c : Nat) (A : Option Addr) (l : List Sn) (w : World) (hl : Row enSn 5 w (.slice A n c) l) (hz : SzT l) :
    Calls Try.prog 34 #[.slice A n c] w fun e w' => e = .returned (.tuple #[.string (putT l).1, .bool (putT l).2]) ∧ Below w.heap.size w w' := by
  have EA := Lib.hid hl.len_eq
  cases h : mayT l with
  | false =>
    have HV : Hid (putT l = (⟨#[]⟩, false)) := putT_no h
    have H := Lib.hid h
    clear h
    go_enter Try.func34, Try.ntmps34
    go_wp2_with fail
    with_reducible refine (re_ (refMayT_calls n c A l _ hl hz) (ret_bool H.out)).mono ?_
    rintro e w1 ⟨rfl, b1⟩
    go_wp2
    go_ret2
    rw [HV.out]
    exact ⟨rfl, b1⟩
  | true =>
    obtain ⟨hn32, hrow, _⟩ := (mayT_iff l).1 h
    have hn : n ≤ 32 := by have := EA.out; omega
    have HV : Hid (putT l = (strOf (putV n ++ l.flatMap rowB), true)) := by
      show _ = _
      rw [putT_ok h, EA.out]
    have HR := Lib.hid hrow
    have HZ := Lib.hid hz
    have H := Lib.hid h
    clear h hn32 hrow
    go_enter Try.func34, Try.ntmps34
    go_wp2_with fail
    with_reducible refine (re_ (refMayT_calls n c A l _ hl hz) (ret_bool H.out)).mono ?_
    rintro e w1 ⟨rfl, b1⟩
    clear hz
    go_wp2_with fail
    with_reducible refine (refPut_calls n _ (by unfold lim64; omega)).mono ?_
    rintro e w2 ⟨rfl, b2⟩
    replace b1 := below_call b1 b2
    clear b2
    have hz0 : (strOf (putV n)).size ≤ 10 := by rw [strOf_size]; exact putV_len n (by omega)
    go_wp2
    go_loopw [4, 5] (fun vs vc wr => ∃ (i : Nat) (z : ByteArray), vc = .int .i64 i ∧ vs = .string z ∧ i ≤ n ∧ z.size ≤ 10 + 100 * i ∧ Hid (z = strOf (putV n ++ (l.take i).flatMap rowB)) ∧ Below w.heap.size w wr) (fun _ vc _ => (n - intOf vc).toNat)
    case atStart => exact ⟨0, _, rfl, rfl, Nat.zero_le _, hz0, by show _ = _; rw [List.take_zero, List.flatMap_nil, List.append_nil], b1⟩
    case round =>
      obtain ⟨i, z, rfl, rfl, hi, hzs, HT, hB⟩ := hrel
      by_cases hlt : i < n
      · have hil : i < l.length := by have := EA.out; omega
        obtain ⟨z1, z2⟩ := HZ.out l[i] (List.getElem_mem _)
        have hok := HR.out l[i] (List.getElem_mem _)
        obtain ⟨⟨a_, b_, c_, d_, e_⟩, he⟩ : ∃ e, l[i] = e := ⟨_, rfl⟩
        rw [he] at z1 z2 hok
        simp only at z1 z2
        rw [rowOk_iff] at hok
        simp only at hok
        obtain ⟨ok1, ok2⟩ := hok
        obtain ⟨ad, rfl, c0, c1, c2, c3, c4⟩ := rowSn (hl.below hB) i hil a_ b_ c_ d_ e_ he
        obtain ⟨p, hp⟩ : ∃ p, textV a_ = p := ⟨_, rfl⟩
        obtain ⟨q, hq⟩ : ∃ q, (putVal b_ c_ d_ e_).1 = q := ⟨_, rfl⟩
        have HP : Hid (putN a_ = (p, true)) := by show _ = _; unfold putN; rw [if_pos ok1, hp]
        have HQ : Hid (putVal b_ c_ d_ e_ = (q, true)) := by show _ = _; rw [← hq]; unfold putVal; rw [if_pos ok2]
        have zp : p.size ≤ 26 := by rw [← hp]; have := textV_size a_ z1; have := name_le _ ok1; omega
        have zq : q.size ≤ 60 := by rw [← hq]; exact putVal_sz5 _ _ _ _
        have HT2 : Hid (z ++ p ++ q = strOf (putV n ++ (l.take (i + 1)).flatMap rowB)) := rowB_at l n i hil _ he p q z hp hq HT.out
        have hzz : (z ++ p ++ q).size ≤ 10 + 100 * (i + 1) := by rw [ByteArray.size_append, ByteArray.size_append]; omega
        have zz1 : z.size ≤ 10000 := by omega
        clear he hp hq ok1 ok2 HT
        go_wp2_with fail
        with_reducible refine (refNPut_is _ a_ p true HP z1).mono ?_
        rintro e w3 ⟨rfl, b3⟩
        replace c1 := cell_below b3 c1
        replace c2 := cell_below b3 c2
        replace c3 := cell_below b3 c3
        replace c4 := cell_below b3 c4
        replace hB := below_call hB b3
        clear b3 c0
        go_wp2_with fail
        with_reducible refine (re_ (refPut04_calls b_ c_ d_ e_ _ z2) (v' := .returned (.tuple #[.string q, .bool true])) (by rw [HQ.out])).mono ?_
        rintro e w4 ⟨rfl, b4⟩
        replace hB := below_call hB b4
        clear b4 c1 c2 c3 c4
        go_wp2
        exact ⟨⟨i + 1, z ++ p ++ q, by go_num, rfl, by omega, hzz, HT2, hB⟩, by simp [intOf]; omega⟩
      · have hin : i = n := by omega
        subst hin
        have HF : Hid (putT l = (z, true)) := by
          show _ = _
          have := HT.out
          rw [List.take_of_length_le (by rw [EA.out]; exact Nat.le_refl _)] at this
          rw [HV.out, this]
        go_wp2
        go_ret2
        rw [HF.out]
        exact ⟨rfl, hB⟩
set_option maxHeartbeats 16000000 in
set_option maxRecDepth 100000 in
theorem PutT_calls (n c : Nat) (A : Option Addr) (l : List Sn) (w : World) (hl : Row enSn 5 w (.slice A n c) l) (hz : SzT l) :
    Calls Try.prog 33 #[.slice A n c] w fun e w' => e = .returned (.tuple #[.string (putT l).1, .bool (putT l).2]) ∧ Below w.heap.size w w' := by
  have EA := Lib.hid hl.len_eq
  cases h : mayT l with
  | false =>
    have HV : Hid (putT l = (⟨#[]⟩, false)) := putT_no h
    have H := Lib.hid h
    clear h
    go_enter Try.func33, Try.ntmps33
    go_wp2_with fail
    with_reducible refine (re_ (MayT_calls n c A l _ hl hz) (ret_bool H.out)).mono ?_
    rintro e w1 ⟨rfl, b1⟩
    go_wp2
    go_ret2
    rw [HV.out]
    exact ⟨rfl, b1⟩
  | true =>
    obtain ⟨hn32, hrow, _⟩ := (mayT_iff l).1 h
    have hn : n ≤ 32 := by have := EA.out; omega
    have HV : Hid (putT l = (strOf (putV n ++ l.flatMap rowB), true)) := by
      show _ = _
      rw [putT_ok h, EA.out]
    have HR := Lib.hid hrow
    have HZ := Lib.hid hz
    have H := Lib.hid h
    clear h hn32 hrow
    go_enter Try.func33, Try.ntmps33
    go_wp2_with fail
    with_reducible refine (re_ (MayT_calls n c A l _ hl hz) (ret_bool H.out)).mono ?_
    rintro e w1 ⟨rfl, b1⟩
    clear hz
    have hbl := Bld.fresh w1
    have hB0 := below_box (w := w1) (.cells #[.pointer none, .slice none 0 0] 87)
    go_wp2_with fail
    with_reducible refine (varPut_calls n _ (by unfold lim64; omega)).mono ?_
    rintro e w2 ⟨rfl, b2⟩
    replace hbl := hbl.below b2
    replace hB0 := below_call hB0 b2
    clear b2
    have hz0 : (strOf (putV n)).size ≤ 10 := by rw [strOf_size]; exact putV_len n (by omega)
    go_wp2_with fail
    with_reducible refine (bldStr5 w1.heap.size w1.heap.size [] (strOf (putV n)) _ hbl (by simp only [List.length_nil]; omega) hB0.size).mono ?_
    rintro e w3 ⟨rfl, hb3, hB3, _⟩
    replace hB0 := hB0.trans hB3
    rw [strOf_list, List.nil_append] at hb3
    have hz0' : (putV n).length ≤ 10 := putV_len n (by omega)
    clear hbl hB3 hz0
    go_wp2
    go_loopw [21] (fun vc wr => ∃ (i : Nat) (z : List UInt8), vc = .int .i64 i ∧ i ≤ n ∧ z.length ≤ 10 + 100 * i ∧ Hid (strOf z = strOf (putV n ++ (l.take i).flatMap rowB)) ∧ Bld w1.heap.size w1.heap.size z wr ∧ Below w1.heap.size w1 wr) (fun vc _ => (n - intOf vc).toNat)
    case atStart => exact ⟨0, _, rfl, Nat.zero_le _, hz0', by show _ = _; rw [List.take_zero, List.flatMap_nil, List.append_nil], hb3, hB0⟩
    case round =>
      obtain ⟨i, z, rfl, hi, hzs, HT, hb, hB⟩ := hrel
      clear hb3 hB0
      by_cases hlt : i < n
      · have hil : i < l.length := by have := EA.out; omega
        obtain ⟨z1, z2⟩ := HZ.out l[i] (List.getElem_mem _)
        have hok := HR.out l[i] (List.getElem_mem _)
        obtain ⟨⟨a_, b_, c_, d_, e_⟩, he⟩ : ∃ e, l[i] = e := ⟨_, rfl⟩
        rw [he] at z1 z2 hok
        simp only at z1 z2
        rw [rowOk_iff] at hok
        simp only at hok
        obtain ⟨ok1, ok2⟩ := hok
        obtain ⟨ad, rfl, c0, c1, c2, c3, c4⟩ := rowSn (hl.below (below_call b1 hB)) i hil a_ b_ c_ d_ e_ he
        obtain ⟨p, hp⟩ : ∃ p, textV a_ = p := ⟨_, rfl⟩
        obtain ⟨q, hq⟩ : ∃ q, (putVal b_ c_ d_ e_).1 = q := ⟨_, rfl⟩
        have HP : Hid (putN a_ = (p, true)) := by show _ = _; unfold putN; rw [if_pos ok1, hp]
        have HQ : Hid (putVal b_ c_ d_ e_ = (q, true)) := by show _ = _; rw [← hq]; unfold putVal; rw [if_pos ok2]
        have zp : p.size ≤ 26 := by rw [← hp]; have := textV_size a_ z1; have := name_le _ ok1; omega
        have zq : q.size ≤ 60 := by rw [← hq]; exact putVal_sz5 _ _ _ _
        have HT2 : Hid (strOf (z ++ (p ++ q).data.toList) = strOf (putV n ++ (l.take (i + 1)).flatMap rowB)) := by
          show _ = _
          rw [← rowB_at l n i hil _ he p q (strOf z) hp hq HT.out, ← strOf_append, strOf_toList, ByteArray.append_assoc]
        have zpq : (p ++ q).size ≤ 86 := by rw [ByteArray.size_append]; omega
        have hzz : (z ++ (p ++ q).data.toList).length ≤ 10 + 100 * (i + 1) := by rw [List.length_append, ← size_eq_length]; omega
        have hbx := heap_alloc_new wr (bxSn a_ b_ c_ d_ e_)
        replace hb := hb.below (below_box (bxSn a_ b_ c_ d_ e_))
        replace hB := below_alloc0 hB (bxSn a_ b_ c_ d_ e_)
        obtain ⟨s0, s1, s2, s3, s4, sz⟩ := cellsSn a_ b_ c_ d_ e_ hbx
        clear he hp hq ok1 ok2 HT
        go_wp2_with fail
        with_reducible refine (identPut_is _ a_ p true HP z1).mono ?_
        rintro e w4 ⟨rfl, b4⟩
        replace hb := hb.below b4
        replace hB := below_call hB b4
        replace hbx := hcall hbx b4
        clear s0 s1 s2 s3 s4 sz c0 c1 c2 c3 c4 b4
        obtain ⟨s0, s1, s2, s3, s4, sz⟩ := cellsSn a_ b_ c_ d_ e_ hbx
        go_wp2_with fail
        with_reducible refine (re_ (valPut_calls b_ c_ d_ e_ _ z2) (v' := .returned (.tuple #[.string q, .bool true])) (by rw [HQ.out])).mono ?_
        rintro e w5 ⟨rfl, b5⟩
        replace hb := hb.below b5
        replace hB := below_call hB b5
        clear s0 s1 s2 s3 s4 sz b5 hbx
        go_wp2_with fail
        with_reducible refine (bldStr5 w1.heap.size w1.heap.size z (p ++ q) _ hb (by omega) hB.size).mono ?_
        rintro e w6 ⟨rfl, hb6, hB6, _⟩
        replace hB := hB.trans hB6
        clear hb hB6
        go_wp2
        exact ⟨⟨i + 1, _, by go_num, by omega, hzz, HT2, hb6, hB⟩, by simp [intOf]; omega⟩
      · have hin : i = n := by omega
        subst hin
        have HF : Hid (putT l = (strOf z, true)) := by
          show _ = _
          have := HT.out
          rw [List.take_of_length_le (by rw [EA.out]; exact Nat.le_refl _)] at this
          rw [HV.out, this]
        go_wp2_with fail
        with_reducible refine (bldString w1.heap.size w1.heap.size z _ hb hB.size).mono ?_
        rintro e w7 ⟨rfl, _, hB7, _⟩
        go_wp2
        go_ret2
        rw [HF.out]
        exact ⟨rfl, below_call b1 (hB.trans hB7)⟩
end Go.Proofs.Ytcopiimflloooaa
set_option linter.unusedVariables false
set_option linter.unusedSimpArgs false
namespace Go.Proofs.Ytcopiimflloooaa
open Go.RowKit
open Sp
theorem fnv_lt (x : Nat) (b : UInt8) : fnv x b < 18446744073709551616 := Nat.mod_lt _ (by omega)
theorem fnv_step (x : Nat) (b : UInt8) (hx : x < 18446744073709551616) : IntKind.u64.wrap (bits .xor .u64 (x : Int) ((b.toNat : Nat) : Int) * 1099511628211) = ((fnv x b : Nat) : Int) := by
  have hb := UInt8.toNat_lt b
  rw [bits_xor_u64_nat x b.toNat hx (by omega)]
  unfold fnv
  rw [IntKind.wrap_u64]
  omega
theorem fold_fnv (l : List UInt8) (k : Nat) (h : k < l.length) (x : Nat) : (l.take (k + 1)).foldl fnv x = fnv ((l.take k).foldl fnv x) l[k] := by
  rw [List.take_succ_eq_append_getElem h, List.foldl_append, List.foldl_cons, List.foldl_nil]
theorem putT_size (l : List Sn) : (putT l).1.size ≤ 4000 := by
  cases h : mayT l with
  | false => rw [putT_no h]; exact Nat.zero_le _
  | true =>
    obtain ⟨h1, h2, _⟩ := (mayT_iff l).1 h
    rw [putT_ok h, strOf_size, List.length_append]
    have h3 := putV_len l.length (by omega)
    have h4 : ∀ m : List Sn, (∀ s ∈ m, rowOk s = true) → (m.flatMap rowB).length ≤ 100 * m.length := by
      intro m
      induction m with
      | nil => intro _; simp
      | cons x m ih =>
        intro hm
        have := ih fun s hs => hm s (List.mem_cons_of_mem _ hs)
        have hx := (rowOk_iff x).1 (hm x List.mem_cons_self)
        have hn := name_le _ hx.1
        have e1 := textV_size x.c (by omega)
        have e2 := putVal_sz5 x.v.1 x.v.2.1 x.v.2.2.1 x.v.2.2.2
        have e3 : (rowB x).length = (textV x.c).size + (putVal x.v.1 x.v.2.1 x.v.2.2.1 x.v.2.2.2).1.size := by unfold rowB; rw [List.length_append, ← size_eq_length, ← size_eq_length]
        rw [List.flatMap_cons, List.length_append, List.length_cons, e3]
        omega
    have := h4 l h2
    omega
set_option maxHeartbeats 16000000 in
set_option maxRecDepth 100000 in
theorem refSumT_calls (n c : Nat) (A : Option Addr) (l : List Sn) (w : World) (hl : Row enSn 5 w (.slice A n c) l) (hz : SzT l) :
    Calls Try.prog 38 #[.slice A n c] w fun e w' => e = .returned (.int .u64 ((sumT l : Nat) : Int)) ∧ Below w.heap.size w w' := by
  obtain ⟨s, hs⟩ : ∃ s, (putT l).1 = s := ⟨_, rfl⟩
  obtain ⟨b, hb⟩ : ∃ s, (putT l).2 = s := ⟨_, rfl⟩
  have hsz : s.size ≤ 4000 := by rw [← hs]; exact putT_size l
  have HP := Lib.hid (show putT l = (s, b) from Prod.ext hs hb)
  have HS : Hid (sumT l = s.data.toList.foldl fnv 14695981039346656037) := by show _ = _; rw [← hs]; rfl
  clear hs hb
  go_enter Try.func38, Try.ntmps38
  go_wp2_with fail
  with_reducible refine (re_ (refPutT_calls n c A l _ hl hz) (v' := .returned (.tuple #[.string s, .bool b])) (by rw [HP.out])).mono ?_
  rintro e w1 ⟨rfl, b1⟩
  go_wp2
  go_loopw [5, 6] (fun v4 v3 wr => ∃ k x : Nat, v3 = .int .i64 k ∧ k ≤ s.size ∧ v4 = .int .u64 x ∧ Hid (x < 18446744073709551616) ∧ Hid (x = (s.data.toList.take k).foldl fnv 14695981039346656037) ∧ Below w.heap.size w wr) (fun _ v4 _ => (s.size - intOf v4).toNat)
  case atStart => exact ⟨0, 14695981039346656037, rfl, Nat.zero_le _, rfl, by show _ < _; omega, rfl, b1⟩
  case round =>
    obtain ⟨k, x, rfl, hk, rfl, hx, HX, hB⟩ := hrel
    by_cases hlt : k < s.size
    · have hk' : k < s.data.toList.length := by rw [← size_eq_length]; exact hlt
      have hb : (s[k]'hlt).toNat < 256 := UInt8.toNat_lt _
      have HN : Hid (fnv x (s[k]'hlt) = (s.data.toList.take (k + 1)).foldl fnv 14695981039346656037) := by
        show _ = _
        rw [fold_fnv _ _ hk', ← HX.out]
        rfl
      have HF := Lib.hid (fnv_step x (s[k]'hlt) hx.out)
      have HL : Hid (fnv x (s[k]'hlt) < 18446744073709551616) := fnv_lt _ _
      go_wp2
      exact ⟨⟨k + 1, fnv x (s[k]'hlt), by go_num, by omega, val_int HF.out, HL, HN, hB⟩, by simp [intOf]; omega⟩
    · have HE : Hid (((x : Nat) : Int) = ((sumT l : Nat) : Int)) := by
        show _ = _
        rw [HS.out, HX.out, List.take_of_length_le (by rw [← size_eq_length]; omega)]
      go_wp2
      go_ret
      exact ⟨ret_int HE.out, hB⟩
set_option maxHeartbeats 16000000 in
set_option maxRecDepth 100000 in
theorem SumT_calls (n c : Nat) (A : Option Addr) (l : List Sn) (w : World) (hl : Row enSn 5 w (.slice A n c) l) (hz : SzT l) :
    Calls Try.prog 37 #[.slice A n c] w fun e w' => e = .returned (.int .u64 ((sumT l : Nat) : Int)) ∧ Below w.heap.size w w' := by
  obtain ⟨s, hs⟩ : ∃ s, (putT l).1 = s := ⟨_, rfl⟩
  obtain ⟨b, hb⟩ : ∃ s, (putT l).2 = s := ⟨_, rfl⟩
  have hsz : s.size ≤ 4000 := by rw [← hs]; exact putT_size l
  have HP := Lib.hid (show putT l = (s, b) from Prod.ext hs hb)
  have HS : Hid (sumT l = s.data.toList.foldl fnv 14695981039346656037) := by show _ = _; rw [← hs]; rfl
  clear hs hb
  have kc := fun W : World => Lib.run_convert_string_bytes (P := Try.prog) W 9 85 5 s Try.underlying9 Try.underlying85 Try.underlying5
  go_enter Try.func37, Try.ntmps37
  go_wp2_with fail
  with_reducible refine (re_ (PutT_calls n c A l _ hl hz) (v' := .returned (.tuple #[.string s, .bool b])) (by rw [HP.out])).mono ?_
  rintro e w1 ⟨rfl, b1⟩
  go_wp2
  go_loopw [16, 5] (fun v3 v4 wr => ∃ k x : Nat, v3 = .int .i64 k ∧ k ≤ s.size ∧ v4 = .int .u64 x ∧ Hid (x < 18446744073709551616) ∧ Hid (x = (s.data.toList.take k).foldl fnv 14695981039346656037) ∧ TextRow 5 wr w1.heap.size s ∧ Below w.heap.size w wr) (fun v4 _ _ => (s.size - intOf v4).toNat)
  case atStart => exact ⟨0, 14695981039346656037, rfl, Nat.zero_le _, rfl, by show _ < _; omega, rfl, TextRow.new 5 w1 s (by simp only [maxLen]; omega), below_bytes b1 b1.size _ _⟩
  case round =>
    obtain ⟨k, x, rfl, hk, rfl, hx, HX, ht, hB⟩ := hrel
    by_cases hlt : k < s.size
    · have hk' : k < s.data.toList.length := by rw [← size_eq_length]; exact hlt
      have hb : (s[k]'hlt).toNat < 256 := UInt8.toNat_lt _
      have hcell : wr.cell? ⟨w1.heap.size, k, none⟩ = some (.int .u8 (s[k]'hlt).toNat) := by rw [ht.cell k hlt]
      have HN : Hid (fnv x (s[k]'hlt) = (s.data.toList.take (k + 1)).foldl fnv 14695981039346656037) := by
        show _ = _
        rw [fold_fnv _ _ hk', ← HX.out]
        rfl
      have HF := Lib.hid (fnv_step x (s[k]'hlt) hx.out)
      have HL : Hid (fnv x (s[k]'hlt) < 18446744073709551616) := fnv_lt _ _
      go_wp2
      exact ⟨⟨k + 1, fnv x (s[k]'hlt), by go_num, by omega, val_int HF.out, HL, HN, ht, hB⟩, by simp [intOf]; omega⟩
    · have HE : Hid (((x : Nat) : Int) = ((sumT l : Nat) : Int)) := by
        show _ = _
        rw [HS.out, HX.out, List.take_of_length_le (by rw [← size_eq_length]; omega)]
      go_wp2
      go_ret
      exact ⟨ret_int HE.out, hB⟩
end Go.Proofs.Ytcopiimflloooaa
