import Derived.Deep.RegionHeld3
import Derived.Deep.QuietTactic
import Derived.BigQuiet
import Derived.Maps.OwnOps
import Derived.Maps.OwnSet
import Derived.Test.YtbpfcjdjhponaaaGreatProg
import Derived.MapKept
import Derived.Test.YtbpfcjdjhponaaaGreatPScriptApplies01
set_option linter.unusedVariables false
set_option linter.unusedSimpArgs false
namespace Go.Proofs.YtbpfcjdjhponaaaGreat
open Go.RowKit Sp
theorem takeV_size (s : ByteArray) (a : Int) (m : Nat) (h : (takeV s a m).2.2 = 0) : (takeV s a m).1.size ≤ m ∧ 0 ≤ a ∧ a ≤ (takeV s a m).2.1 ∧ (takeV s a m).2.1 ≤ s.size := by
  obtain ⟨n, to, er, hg⟩ : ∃ n to er, getV s a = (n, to, er) := ⟨_, _, _, rfl⟩
  by_cases he : er = 0
  · subst he
    obtain ⟨h0, h1, h2, h3⟩ := getV_ok s a n to hg
    by_cases hf : (m : Int) < 0 ∨ (m : Int) < n
    · rw [takeV_form s a m n to hg hf] at h; simp at h
    · by_cases hc : s.size < to.toNat + n
      · rw [takeV_cut s a m n to hg hf hc] at h; simp at h
      · rw [takeV_ok s a m n to hg hf hc]
        simp only [ByteArray.size_extract]
        omega
  · rw [takeV_err s a m n to er hg he] at h
    exact absurd h he
set_option maxRecDepth 100000 in
theorem identTake_calls (s : ByteArray) (a : Int) (w : World) (hs : s.size ≤ 140737488351232) :
    Calls Tryz.prog 137 #[.string s, .int .i64 a] w fun e w' => e = .returned (.tuple #[.string (takeN s a).1, .int .i64 (takeN s a).2.1, .int .i64 (takeN s a).2.2]) ∧ Below w.heap.size w w' := by
  have hsz := takeV_size s a 16
  obtain ⟨t, to, er, ht⟩ : ∃ t to er, takeV s a ((16 : Nat) : Int) = (t, to, er) := ⟨_, _, _, rfl⟩
  rw [ht] at hsz
  have HT : Hid (takeV s a 16 = (t, to, er)) := ht
  clear ht
  by_cases he : er = 0
  · subst he
    obtain ⟨z1, z2, z3, z4⟩ := hsz rfl
    simp only at z1 z3 z4
    cases hn : isName t with
    | true =>
      have HV : Hid (takeN s a = (t, to, 0)) := by show _ = _; simp [takeN, HT.out, hn]
      have HN := Lib.hid hn
      clear hn hsz
      go_enter Tryz.func137, Tryz.ntmps137
      go_wp2_with fail
      refine (re_ (varTake_calls s a 16 _ hs (by omega) (by omega)) (v' := .returned (.tuple #[.string t, .int .i64 to, .int .i64 0])) (by rw [HT.out])).mono ?_
      rintro e w1 ⟨rfl, rfl⟩
      go_wp2_with fail
      refine (re_ (Is_calls t _ (by omega)) (ret_bool HN.out)).mono ?_
      rintro e w1 ⟨rfl, hb1⟩
      go_wp2
      go_ret3
      rw [HV.out]
      exact ⟨rfl, hb1⟩
    | false =>
      have HV : Hid (takeN s a = (⟨#[]⟩, 0, 3)) := by show _ = _; simp [takeN, HT.out, hn]
      have HN := Lib.hid hn
      clear hn hsz
      go_enter Tryz.func137, Tryz.ntmps137
      go_wp2_with fail
      refine (re_ (varTake_calls s a 16 _ hs (by omega) (by omega)) (v' := .returned (.tuple #[.string t, .int .i64 to, .int .i64 0])) (by rw [HT.out])).mono ?_
      rintro e w1 ⟨rfl, rfl⟩
      go_wp2_with fail
      refine (re_ (Is_calls t _ (by omega)) (ret_bool HN.out)).mono ?_
      rintro e w1 ⟨rfl, hb1⟩
      go_wp2
      go_ret3
      rw [HV.out]
      exact ⟨rfl, hb1⟩
  · have HV : Hid (takeN s a = (⟨#[]⟩, 0, er)) := by show _ = _; simp [takeN, HT.out, he]
    have hb : (er != 0) = true := by simpa using he
    have HE := Lib.hid he
    clear he hsz
    go_enter Tryz.func137, Tryz.ntmps137
    go_wp2_with fail
    refine (re_ (varTake_calls s a 16 _ hs (by omega) (by omega)) (v' := .returned (.tuple #[.string t, .int .i64 to, .int .i64 er])) (by rw [HT.out])).mono ?_
    rintro e w1 ⟨rfl, rfl⟩
    go_wp2
    go_ret3
    rw [HV.out]
    exact ⟨rfl, Below.refl _ _⟩
end Go.Proofs.YtbpfcjdjhponaaaGreat
namespace Go.Proofs.YtbpfcjdjhponaaaGreat
open Go.RowKit Sp
def Bld (B b : Nat) (l : List UInt8) (w : World) : Prop := Lib.IsBuilderF 82 5 B b (Lib.byteCells l) w
theorem info_bld : (Tryz.prog.info? 82).map (·.size) = some 2 := by kernel_rfl
theorem lies_bld : liesAt Tryz.prog Tryz.prog.depth 82 (2 / Tryz.prog.cellsOf 82) 0 82 1 = true := by kernel_rfl
set_option maxHeartbeats 1000000 in
set_option maxRecDepth 100000 in
theorem copyCheck_used (b : Nat) (w : World) (h0 : w.cell? ⟨b, 0, none⟩ = some (.pointer (some ⟨b, 0, none⟩))) :
    Calls Tryz.prog 90 #[.pointer (some ⟨b, 0, none⟩)] w fun e w' => e = .returned (.tuple #[]) ∧ w' = w := by
  obtain ⟨j, hj, _⟩ := Option.map_eq_some_iff.1 info_bld
  go_enter Tryz.func90, Tryz.ntmps90
  go_wp2
  rw [Lib.run_neq_ptr_same w _ Tryz.underlying79 hj]
  go_wp2
  go_end0
  exact ⟨rfl, rfl⟩
set_option maxHeartbeats 1000000 in
set_option maxRecDepth 100000 in
theorem copyCheck_fresh (b : Nat) (w : World) (h0 : w.cell? ⟨b, 0, none⟩ = some (.pointer none)) (hsh : w.shape? b = some (82, 2)) (hfz : w.frozen? ⟨b, 0, none⟩ = false) :
    Calls Tryz.prog 90 #[.pointer (some ⟨b, 0, none⟩)] w fun e w' => e = .returned (.tuple #[]) ∧ w' = w.setCell ⟨b, 0, none⟩ (.pointer (some ⟨b, 0, none⟩)) := by
  obtain ⟨j, hj, hjs⟩ := Option.map_eq_some_iff.1 info_bld
  go_enter Tryz.func90, Tryz.ntmps90
  go_wp2
  rw [Lib.run_to_unsafe w ⟨b, 0, none⟩ Tryz.underlying79 Tryz.underlying176 hj (by rw [hjs]; decide) hsh (Nat.zero_lt_succ 1)]
  simp only [Result.andThen]
  rw [Oper.upon_value]
  go_wp2
  rw [run_callFunc_extern Tryz.func135 (by kernel_rfl) (by kernel_rfl) (by kernel_rfl) (e := Extern.AbiNoEscape.same) (by kernel_rfl)]
  rw [Lib.run_noEscape]
  simp only [Result.andThen]
  rw [Oper.upon_value]
  go_wp2
  rw [Lib.run_from_unsafe w ⟨b, 0, none⟩ Tryz.underlying176 Tryz.underlying79 hj hsh lies_bld]
  simp only [Result.andThen]
  rw [Oper.upon_value]
  go_wp2
  go_end0
  exact ⟨rfl, rfl⟩
theorem copyCheck_k (B b : Nat) (bs : List Value) (w : World) (h : Lib.IsBuilderF 82 5 B b bs w) :
    Calls Tryz.prog 90 #[.pointer (some ⟨b, 0, none⟩)] w fun e w' => e = .returned (.tuple #[]) ∧ (Lib.BuilderAtF 82 5 B b (.pointer (some ⟨b, 0, none⟩)) bs w' ∧ Below B w w' ∧ Lib.OthersKept 5 (some b) w w' ∧ ∀ k, k ≠ b → w'.heap[k]? = w.heap[k]?) := by
  rcases h with h | h
  · refine (copyCheck_fresh b w h.cell0 h.shape h.frozen0).mono ?_
    rintro e w' ⟨rfl, rfl⟩
    exact ⟨rfl, h.used _, (Below.refl B w).setCell (p := ⟨b, 0, none⟩) h.1 _, (Lib.OthersKept.refl _ _ w).setCell ⟨b, 0, none⟩ rfl _, fun k hk => Below.heap_setCell w ⟨b, 0, none⟩ _ k hk⟩
  · refine (copyCheck_used b w h.cell0).mono ?_
    rintro e w' ⟨rfl, rfl⟩
    exact ⟨rfl, h, Below.refl B _, Lib.OthersKept.refl _ _ _, fun _ _ => rfl⟩
set_option maxHeartbeats 2000000 in
set_option maxRecDepth 100000 in
theorem WriteByte_k (B b : Nat) (bs : List Value) (c : Int) (w : World) (h : Lib.IsBuilderF 82 5 B b bs w) (hlen : bs.length + 1 ≤ 140737488355328) (hBw : B ≤ w.heap.size) :
    Calls Tryz.prog 45 #[.pointer (some ⟨b, 0, none⟩), .int .u8 c] w fun e w' => e = .returned .nilIface ∧ (Lib.BuilderAtF 82 5 B b (.pointer (some ⟨b, 0, none⟩)) (bs ++ [.int .u8 c]) w' ∧ Below B w w' ∧ Lib.OthersKept 5 (some b) w w' ∧ KeepsMarked b bs.length w w') := by
  obtain ⟨i0, hi, hz0, hz1, hz2⟩ := info_parts info_u8
  go_enter Tryz.func45, Tryz.ntmps45
  go_wp2_with (go_at_call 90; refine (copyCheck_k B b bs _ h).mono ?_)
  rintro e w1 ⟨rfl, h1, hb1, hk1, hkk⟩
  obtain ⟨hB, v, hbk, hown, hne⟩ := h1
  have c0 : w1.cell? ⟨b, 0, none⟩ = some (.pointer (some ⟨b, 0, none⟩)) := by rw [Lib.cell_of_heap hbk]; rfl
  have c1 : w1.cell? ⟨b, 1, none⟩ = some v := by rw [Lib.cell_of_heap hbk]; rfl
  go_wp2_with (at_builtin; refine wpList_append_ownF _ rfl _ _ 80 rfl B 5 i0 (.int .u8 0) 1 1 Tryz.underlying80 hi hz0 hz1 hz2 rfl (by decide) _ _ _ rfl (hown.alloc _) ⟨w1.heap.size, 0, none⟩ 1 1 [.int .u8 c] rfl rfl ?c1 ?c2 ?c3 ?c4 ?c5 ?_)
  case c1 =>
    intro j u hj
    match j, hj with
    | 0, hj => simp at hj; subst hj; simp [Addr.add]
  case c2 => intro u hu; simp at hu; subst hu; rfl
  case c3 => unfold maxLen; omega
  case c4 => omega
  case c5 => have := hb1.size; simp; omega
  intro v' w2 hown' hgrow _
  have hlt : b < w1.heap.size := by
    rcases Nat.lt_or_ge b w1.heap.size with h' | h'
    · exact h'
    · simp [Array.getElem?_eq_none h'] at hbk
  have hb2 : w2.heap[b]? = some (.cells #[.pointer (some ⟨b, 0, none⟩), v] 82 (0, 0)) := by
    rw [hgrow.block b (by simp; omega) (fun e => hne e.symm), Lib.alloc_old w1 _ b hlt]
    exact hbk
  have d0 : w2.cell? ⟨b, 0, none⟩ = some (.pointer (some ⟨b, 0, none⟩)) := by rw [Lib.cell_of_heap hb2]; rfl
  have d1 : w2.cell? ⟨b, 1, none⟩ = some v := by rw [Lib.cell_of_heap hb2]; rfl
  have f1 : w2.frozen? ⟨b, 1, none⟩ = false := Lib.frozen_of_heap hb2 1
  obtain ⟨g, cap, rfl⟩ : ∃ g cap, v' = .slice (some ⟨g, 0, none⟩) (bs.length + 1) cap := by
    rcases hown'.2 with ⟨_, h0⟩ | ⟨g, cap, cur, fz, hv, _⟩
    · omega
    · exact ⟨g, cap, hv⟩
  go_wp2
  go_ret
  refine ⟨rfl, ?_, ?_, ((hk1.alloc _).grown hgrow (Lib.ownsRowF_kind (hown.alloc _))).setCell ⟨b, 1, none⟩ rfl _, ?_⟩
  · exact Lib.BuilderAtF.put (T := 82) (e := 5) hB hb2 (bs' := bs ++ [.int .u8 c]) (by simpa using hown') (by decide)
  · exact ((hb1.alloc (by have := hb1.size; omega) _).grown hgrow (by have := hb1.size; simp; omega) (fun k hk => (hown.lt k hk).1)).setCell (p := ⟨b, 1, none⟩) hB _
  · intro k cs t fz hkb hkc hn
    have e1 := hkk k hkb
    have hk1 : k < w1.heap.size := (Array.getElem?_eq_some_iff.1 (e1.trans hkc)).1
    have hno : some k ≠ v.ownBlock := by
      intro e
      rcases hown.2 with ⟨hv, _⟩ | ⟨g, cap, cur, fz', hv, _, hg, hfz, _⟩
      · rw [hv] at e; simp [Value.ownBlock] at e
      · rw [hv] at e
        have : k = g := by simpa [Value.ownBlock] using e
        subst this
        rw [e1.trans hkc] at hg
        injection hg with hg
        injection hg with _ _ hg
        subst hg
        omega
    rw [Below.heap_setCell _ _ _ _ (by exact hkb), hgrow.block k (by simp; omega) hno, Lib.alloc_old w1 _ k hk1]
    exact e1
set_option maxHeartbeats 2000000 in
set_option maxRecDepth 100000 in
theorem WriteString_k (B b : Nat) (bs : List Value) (s : ByteArray) (w : World) (h : Lib.IsBuilderF 82 5 B b bs w) (hlen : bs.length + s.size ≤ 140737488355328) (hBw : B ≤ w.heap.size) :
    Calls Tryz.prog 46 #[.pointer (some ⟨b, 0, none⟩), .string s] w fun e w' => e = .returned (.tuple #[.int .i64 s.size, .nilIface]) ∧ (Lib.BuilderAtF 82 5 B b (.pointer (some ⟨b, 0, none⟩)) (bs ++ Lib.strCells s) w' ∧ Below B w w' ∧ Lib.OthersKept 5 (some b) w w') := by
  obtain ⟨i0, hi, hz0, hz1, hz2⟩ := info_parts info_u8
  go_enter Tryz.func46, Tryz.ntmps46
  go_wp2_with (go_at_call 90; refine (copyCheck_k B b bs _ h).mono ?_)
  rintro e w1 ⟨rfl, h1, hb1, hk1, hkk⟩
  obtain ⟨hB, v, hbk, hown, hne⟩ := h1
  have c0 : w1.cell? ⟨b, 0, none⟩ = some (.pointer (some ⟨b, 0, none⟩)) := by rw [Lib.cell_of_heap hbk]; rfl
  have c1 : w1.cell? ⟨b, 1, none⟩ = some v := by rw [Lib.cell_of_heap hbk]; rfl
  go_wp2_with (at_builtin; refine Lib.wpList_append_own_stringF _ rfl _ _ 80 9 rfl B 5 i0 Tryz.underlying80 Tryz.underlying9 hi hz0 hz1 hz2 _ _ _ rfl hown s rfl ?c3 ?c4 ?c5 ?_)
  case c3 => unfold maxLen; omega
  case c4 => omega
  case c5 => have := hb1.size; omega
  intro v' w2 hown' hgrow _
  have hlt : b < w1.heap.size := by
    rcases Nat.lt_or_ge b w1.heap.size with h' | h'
    · exact h'
    · simp [Array.getElem?_eq_none h'] at hbk
  have hb2 : w2.heap[b]? = some (.cells #[.pointer (some ⟨b, 0, none⟩), v] 82 (0, 0)) := by
    rw [hgrow.block b hlt (fun e => hne e.symm)]
    exact hbk
  have d0 : w2.cell? ⟨b, 0, none⟩ = some (.pointer (some ⟨b, 0, none⟩)) := by rw [Lib.cell_of_heap hb2]; rfl
  have d1 : w2.cell? ⟨b, 1, none⟩ = some v := by rw [Lib.cell_of_heap hb2]; rfl
  have f1 : w2.frozen? ⟨b, 1, none⟩ = false := Lib.frozen_of_heap hb2 1
  obtain ⟨ao, n', cap, rfl⟩ : ∃ ao n' cap, v' = .slice ao n' cap := by
    rcases hown'.2 with ⟨hv, _⟩ | ⟨g, cap, cur, fz, hv, _⟩
    · exact ⟨_, _, _, hv⟩
    · exact ⟨_, _, _, hv⟩
  go_wp2
  go_ret2
  refine ⟨rfl, ?_, ?_, (hk1.grown hgrow (Lib.ownsRowF_kind hown)).setCell ⟨b, 1, none⟩ rfl _⟩
  · exact Lib.BuilderAtF.put (T := 82) (e := 5) hB hb2 (bs' := bs ++ Lib.strCells s) (by simpa [Lib.strCells_length] using hown') (by decide)
  · exact (hb1.grown hgrow (by have := hb1.size; omega) (fun k hk => (hown.lt k hk).1)).setCell (p := ⟨b, 1, none⟩) hB _
theorem TextRow.kept {e : TypeId} {w w' : World} {k b n : Nat} {s : ByteArray} (h : TextRow e w k s) (hK : KeepsMarked b n w w') (hkb : k ≠ b) (hn : n ≤ s.size) : TextRow e w' k s := by
  refine h.keep ?_
  obtain ⟨cs, h1, h2, _⟩ := h
  exact hK k cs e _ hkb h1 (by simp; omega)
theorem BuilderAtF_later {T e : TypeId} {B b : Nat} {p : Value} {bs : List Value} {w w' : World} (h : Lib.BuilderAtF T e B b p bs w) (hk : ∀ k, k < w.heap.size → w'.heap[k]? = w.heap[k]?) : Lib.BuilderAtF T e B b p bs w' := by
  obtain ⟨hB, v, hb, hown, hne⟩ := h
  refine ⟨hB, v, (hk b (Array.getElem?_eq_some_iff.1 hb).1).trans hb, ⟨hown.1, ?_⟩, hne⟩
  rcases hown.2 with h | ⟨g, cap, cur, fz, hv, hg, hh, r⟩
  · exact .inl h
  · exact .inr ⟨g, cap, cur, fz, hv, hg, (hk g (Array.getElem?_eq_some_iff.1 hh).1).trans hh, r⟩
theorem Bld.later {B b : Nat} {l : List UInt8} {w w' : World} (h : Bld B b l w) (hk : ∀ k, k < w.heap.size → w'.heap[k]? = w.heap[k]?) : Bld B b l w' := by
  rcases h with h | h
  · exact .inl (BuilderAtF_later h hk)
  · exact .inr (BuilderAtF_later h hk)
theorem Bld.below {B b : Nat} {l : List UInt8} {w w' : World} (h : Bld B b l w) (hb : Below w.heap.size w w') : Bld B b l w' := h.later hb.block
theorem Bld.lt {B b : Nat} {l : List UInt8} {w : World} (h : Bld B b l w) : b < w.heap.size := by
  rcases h with h | h
  · obtain ⟨_, v, hb, _⟩ := h
    exact (Array.getElem?_eq_some_iff.1 hb).1
  · obtain ⟨_, v, hb, _⟩ := h
    exact (Array.getElem?_eq_some_iff.1 hb).1
theorem Bld.fresh (w : World) : Bld w.heap.size w.heap.size [] (w.alloc (.cells #[.pointer none, .slice none 0 0] 82)) := Lib.IsBuilderF.of (Lib.fresh_isBuilder _ _ w)
theorem bldByte (B b : Nat) (l : List UInt8) (c : UInt8) (x : Int) (hx : x = c.toNat) (w : World) (h : Bld B b l w) (hlen : l.length + 1 ≤ 140737488355328) (hBw : B ≤ w.heap.size) :
    Calls Tryz.prog 45 #[.pointer (some ⟨b, 0, none⟩), .int .u8 x] w fun e w' => e = .returned .nilIface ∧ (Bld B b (l ++ [c]) w' ∧ Below B w w' ∧ Lib.OthersKept 5 (some b) w w' ∧ KeepsMarked b l.length w w') := by
  subst hx
  exact (WriteByte_k B b _ _ w h (by rw [Lib.byteCells_length]; exact hlen) hBw).mono fun _ _ ⟨he, h1, h2, h3, h4⟩ => ⟨he, .inr (by rw [Lib.byteCells_append]; exact h1), h2, h3, by rw [Lib.byteCells_length] at h4; exact h4⟩
theorem bldStr (B b : Nat) (l : List UInt8) (s : ByteArray) (w : World) (h : Bld B b l w) (hlen : l.length + s.size ≤ 140737488355328) (hBw : B ≤ w.heap.size) :
    Calls Tryz.prog 46 #[.pointer (some ⟨b, 0, none⟩), .string s] w fun e w' => e = .returned (.tuple #[.int .i64 s.size, .nilIface]) ∧ (Bld B b (l ++ s.data.toList) w' ∧ Below B w w' ∧ Lib.OthersKept 5 (some b) w w') :=
  (WriteString_k B b _ _ w h (by rw [Lib.byteCells_length]; exact hlen) hBw).mono fun _ _ ⟨he, h1, h2, h3⟩ => ⟨he, .inr (by rw [Lib.byteCells_append]; exact h1), h2, h3⟩
theorem bldString (B b : Nat) (l : List UInt8) (w : World) (h : Bld B b l w) (hBw : B ≤ w.heap.size) :
    Calls Tryz.prog 51 #[.pointer (some ⟨b, 0, none⟩)] w fun e w' => e = .returned (.string (strOf l)) ∧ (Bld B b l w' ∧ Below B w w' ∧ Lib.OthersKept 5 (some b) w w') :=
  Tryz.Builder_String_any_k B b l w h hBw
end Go.Proofs.YtbpfcjdjhponaaaGreat
namespace Go.Proofs.YtbpfcjdjhponaaaGreat
open Go.RowKit Sp
theorem foldS_size (s : ByteArray) : (foldS s).size = s.size := by
  unfold foldS
  rw [size_ofList, List.length_map, ← size_eq_length]
theorem lower_nat (c : UInt8) : ((lower c).toNat : Int) = if 65 ≤ c.toNat ∧ c.toNat ≤ 90 then (c.toNat : Int) + 32 else c.toNat := by
  unfold lower
  split
  · have : (c + 32).toNat = c.toNat + 32 := by
      rw [UInt8.toNat_add]
      have : (32 : UInt8).toNat = 32 := rfl
      omega
    rw [this]
    omega
  · rfl
theorem take_succ_map (s : ByteArray) (k : Nat) (h : k < s.size) : (s.data.toList.take (k + 1)).map lower = (s.data.toList.take k).map lower ++ [lower s[k]] := by
  have hl : k < s.data.toList.length := by rw [← size_eq_length]; exact h
  rw [List.take_succ_eq_append_getElem hl, List.map_append]
  rfl
set_option maxHeartbeats 1000000 in
set_option maxRecDepth 100000 in
theorem identFold_calls (s : ByteArray) (w : World) (hs : s.size ≤ 140737488351232) :
    Calls Tryz.prog 44 #[.string s] w fun e w' => e = .returned (.tuple #[.string (foldV s).1, .bool (foldV s).2]) ∧ Below w.heap.size w w' := by
  have kc := fun W : World => Lib.run_convert_string_bytes (P := Tryz.prog) W 9 80 5 s Tryz.underlying9 Tryz.underlying80 Tryz.underlying5
  go_enter Tryz.func44, Tryz.ntmps44
  go_wp2
  go_loopw [11] (fun v11 wr => ∃ k : Nat, v11 = .int .i64 k ∧ k ≤ s.size ∧ Bld w.heap.size w.heap.size ((s.data.toList.take k).map lower) wr ∧ TextRow 5 wr (w.heap.size + 1) s ∧ Below w.heap.size w wr) (fun v11 _ => (s.size - intOf v11).toNat)
  case atStart =>
    have h0 : Below w.heap.size w (w.alloc (.cells #[.pointer none, .slice none 0 0] 82)) := (Below.refl _ _).alloc (Nat.le_refl _) _
    refine ⟨0, rfl, Nat.zero_le _, ?_, ?_, ?_⟩
    · exact (Bld.fresh w).later fun k hk => Lib.bytesWorld_at_old _ _ _ k hk
    · have := TextRow.new 5 (w.alloc (.cells #[.pointer none, .slice none 0 0] 82)) s (by simp only [maxLen]; omega)
      simpa using this
    · exact below_bytes h0 (by simp) _ _
  case round =>
    obtain ⟨k, rfl, hk, hb, ht, hB⟩ := hrel
    have hlt1 := ht.lt
    by_cases hlt : k < s.size
    · obtain ⟨c, hcv⟩ : ∃ c : Nat, (s[k]'hlt).toNat = c := ⟨_, rfl⟩
      have hc256 : c < 256 := by rw [← hcv]; exact UInt8.toNat_lt _
      have hcell : wr.cell? ⟨w.heap.size + 1, k, none⟩ = some (.int .u8 c) := by rw [ht.cell k hlt, hcv]
      have hlen : ((s.data.toList.take k).map lower).length ≤ k := by rw [List.length_map]; exact List.length_take_le _ _
      have hlw := lower_nat s[k]
      rw [hcv] at hlw
      have HL := Lib.hid hlw
      clear hlw
      obtain ⟨h1, h2⟩ | h1 | ⟨h1, h2⟩ : (65 ≤ c ∧ c ≤ 90) ∨ c < 65 ∨ (65 ≤ c ∧ 90 < c) := by omega
      all_goals
        go_wp2_with (go_at_call 45; refine (bldByte w.heap.size w.heap.size _ (lower s[k]) _ (by rw [HL.out]; first | rw [if_pos (by omega)] | rw [if_neg (by omega)]) _ hb (by omega) (by omega)).mono ?_; rintro e w1 ⟨rfl, hb1, hB1, _, hK1⟩)
        go_roundw
        case rel =>
          refine ⟨k + 1, by go_num, by omega, ?_, ht.kept hK1 (by omega) (by omega), hB.trans hB1⟩
          rw [take_succ_map s k hlt]
          exact hb1
        case measure => simp [intOf]; omega
    · obtain rfl : k = s.size := by omega
      have hfull : (s.data.toList.take s.size).map lower = s.data.toList.map lower := by rw [List.take_of_length_le (by rw [size_eq_length]; exact Nat.le_refl _)]
      rw [hfull] at hb
      clear hfull
      have hsz := foldS_size s
      have hfs : strOf (s.data.toList.map lower) = foldS s := rfl
      cases hn : isName (foldS s) with
      | true =>
        have HV : Hid (foldV s = (foldS s, true)) := by show _ = _; simp [foldV, hn]
        have HN := Lib.hid hn
        have HS := Lib.hid hsz
        clear hn hsz
        go_wp2_with fail
        refine (bldString w.heap.size w.heap.size _ _ hb (by omega)).mono ?_
        rw [hfs]
        clear hfs
        rintro e w1 ⟨rfl, hb1, hB1, _⟩
        go_wp2_with fail
        refine (re_ (Is_calls (foldS s) _ (by rw [HS.out]; exact hs)) (ret_bool HN.out)).mono ?_
        rintro e w2 ⟨rfl, hB2⟩
        go_wp2
        go_ret2
        rw [HV.out]
        exact ⟨rfl, below_call (hB.trans hB1) hB2⟩
      | false =>
        have HV : Hid (foldV s = (⟨#[]⟩, false)) := by show _ = _; simp [foldV, hn]
        have HN := Lib.hid hn
        have HS := Lib.hid hsz
        clear hn hsz
        go_wp2_with fail
        refine (bldString w.heap.size w.heap.size _ _ hb (by omega)).mono ?_
        rw [hfs]
        clear hfs
        rintro e w1 ⟨rfl, hb1, hB1, _⟩
        go_wp2_with fail
        refine (re_ (Is_calls (foldS s) _ (by rw [HS.out]; exact hs)) (ret_bool HN.out)).mono ?_
        rintro e w2 ⟨rfl, hB2⟩
        go_wp2
        go_ret2
        rw [HV.out]
        exact ⟨rfl, below_call (hB.trans hB1) hB2⟩
end Go.Proofs.YtbpfcjdjhponaaaGreat
namespace Go.Proofs.YtbpfcjdjhponaaaGreat
open Go.RowKit Sp
theorem below_alloc {w w1 : World} (h : Below w.heap.size w w1) (o : Obj) : Below w.heap.size w (w1.alloc o) := h.alloc h.size o
section
variable (w : World)
theorem identTake_is (s : ByteArray) (a : Int) (t : ByteArray) (to er : Int) (h : Hid (takeN s a = (t, to, er))) (hs : s.size ≤ 140737488351232) :
    Calls Tryz.prog 137 #[.string s, .int .i64 a] w fun e w' => e = .returned (.tuple #[.string t, .int .i64 to, .int .i64 er]) ∧ Below w.heap.size w w' := re_ (identTake_calls s a w hs) (by rw [h.out])
theorem Is_is (s : ByteArray) (b : Bool) (h : Hid (isName s = b)) (hs : s.size ≤ 140737488351232) :
    Calls Tryz.prog 74 #[.string s] w fun e w' => e = .returned (.bool b) ∧ Below w.heap.size w w' := re_ (Is_calls s w hs) (by rw [h.out])
theorem refIs_is (s : ByteArray) (b : Bool) (h : Hid (isName s = b)) (hs : s.size ≤ 140737488351232) :
    Calls Tryz.prog 80 #[.string s] w fun e w' => e = .returned (.bool b) ∧ w = w' := re_ (refIs_calls s w hs) (by rw [h.out])
theorem Less_is (s t : ByteArray) (b : Bool) (h : Hid (less s t = b)) :
    Calls Tryz.prog 76 #[.string s, .string t] w fun e w' => e = .returned (.bool b) ∧ Below w.heap.size w w' := re_ (Less_calls s t w) (by rw [h.out])
theorem refLess_is (s t : ByteArray) (b : Bool) (h : Hid (less s t = b)) :
    Calls Tryz.prog 131 #[.string s, .string t] w fun e w' => e = .returned (.bool b) ∧ w = w' := re_ (refLess_calls s t w) (by rw [h.out])
end
end Go.Proofs.YtbpfcjdjhponaaaGreat
namespace Go.Proofs.YtbpfcjdjhponaaaGreat
open Go.RowKit
open Sp
abbrev agKr (u v : ByteArray) : Value := .agg #[.string u, .string v]
abbrev bxKr (u v : ByteArray) : Obj := .cells #[.string u, .string v] 145
theorem eqlKr (u v u' v' : ByteArray) (W : World) :
    (binOp .eql 145 (agKr u v) (agKr u' v')).run Tryz.prog W = .ok (.bool (decide (((u, v) : EnK) = (u', v')))) W := by
  have e : decide (((u, v) : EnK) = (u', v')) = (u.toList == u'.toList && (v.toList == v'.toList)) := by
    rw [Bool.eq_iff_iff, decide_eq_true_eq]
    simp only [Bool.and_eq_true, beq_iff_eq, toList_inj', Prod.mk.injEq]
  rw [e]
  cases h0 : u.toList == u'.toList
  · simp [go_sem, h0]
  cases h1 : v.toList == v'.toList <;> simp [go_sem, h0, h1]
set_option maxHeartbeats 8000000 in
set_option maxRecDepth 100000 in
theorem ofK_calls (a_ b_ : ByteArray) (c_ d_ e_ f_ g_ : Bool) (w : World) :
    Calls Tryz.prog 103 #[(.agg #[.string a_, .string b_, .bool c_, .bool d_, .bool e_, .bool f_, .bool g_])] w fun e w' => e = .returned (agKr a_ b_) ∧ Below w.heap.size w w' := by
  go_enter Tryz.func103, Tryz.ntmps103
  go_wp2
  exact bodyPost_ret (v := agKr a_ b_) (by simp [results, Tryz.results103, go_sem]) rfl ⟨rfl, below_alloc0 (below_alloc0 (Below.refl _ _) _) _⟩
set_option maxHeartbeats 8000000 in
set_option maxRecDepth 100000 in
theorem findR1_calls (a_ b_ : ByteArray) (c_ d_ e_ f_ g_ : Bool) (g : Nat) (ku kv : ByteArray) (w : World) (hg : w.heap[g]? = some (bxKr ku kv)) :
    Calls Tryz.prog 150 #[(.agg #[.string a_, .string b_, .bool c_, .bool d_, .bool e_, .bool f_, .bool g_]), .pointer (some ⟨g, 0, none⟩)] w fun e w' => e = .returned (.bool (decide (keyRo ⟨a_, b_, c_, d_, e_, f_, g_⟩ = (ku, kv)))) ∧ Below w.heap.size w w' := by
  have hgl : g < w.heap.size := (Array.getElem?_eq_some_iff.1 hg).1
  have k0 : w.cell? ⟨g, 0, none⟩ = some (.string ku) := by simp [World.cell?, hg]
  have k1 : w.cell? ⟨g, 1, none⟩ = some (.string kv) := by simp [World.cell?, hg]
  have hB := below_box (w := w) (bxEn a_ b_ c_ d_ e_ f_ g_)
  have h0 := heap_alloc_new w (bxEn a_ b_ c_ d_ e_ f_ g_)
  obtain ⟨c0, c1, c2, c3, c4, c5, c6, hz⟩ := cellsEn a_ b_ c_ d_ e_ f_ g_ h0
  have j0 := cell_below hB k0
  have j1 := cell_below hB k1
  have hE := eqlKr a_ b_ ku kv
  clear hg k0 k1
  go_enter Tryz.func150, Tryz.ntmps150
  go_wp2_with fail
  go_region_held3 (fun w' => w'.cell? ⟨w.heap.size, 0, none⟩ = some (.string a_) ∧ w'.cell? ⟨w.heap.size, 1, none⟩ = some (.string b_) ∧ w'.cell? ⟨w.heap.size, 2, none⟩ = some (.bool c_) ∧ w'.cell? ⟨w.heap.size, 3, none⟩ = some (.bool d_) ∧ w'.cell? ⟨w.heap.size, 4, none⟩ = some (.bool e_) ∧ w'.cell? ⟨w.heap.size, 5, none⟩ = some (.bool f_) ∧ w'.cell? ⟨w.heap.size, 6, none⟩ = some (.bool g_) ∧ w'.cell? ⟨g, 0, none⟩ = some (.string ku) ∧ w'.cell? ⟨g, 1, none⟩ = some (.string kv)) (first | exact ⟨c0, c1, c2, c3, c4, c5, c6, j0, j1⟩ | exact ⟨cell_below hbx c0, cell_below hbx c1, cell_below hbx c2, cell_below hbx c3, cell_below hbx c4, cell_below hbx c5, cell_below hbx c6, cell_below hbx j0, cell_below hbx j1⟩) ((go_at_call 103; refine (ofK_calls a_ b_ c_ d_ e_ f_ g_ _).mono ?_; rintro e wx ⟨rfl, hbx⟩))
  have hBx := below_call (w1 := (w.alloc (bxEn a_ b_ c_ d_ e_ f_ g_)).drew) hB.drew hbx
  clear hbx
  go_wp2
  go_ret
  exact ⟨ret_bool (by rw [Bool.eq_iff_iff]; simp [keyRo]), hBx⟩
set_option maxHeartbeats 8000000 in
set_option maxRecDepth 100000 in
theorem idxFindR_calls (n c : Nat) (A : Option Addr) (l : List En) (g : Nat) (ku kv : ByteArray) (w : World) (hl : Row enEn 7 w (.slice A n c) l) (hg : w.heap[g]? = some (bxKr ku kv)) :
    Calls Tryz.prog 151 #[.slice A n c, .func (.func 150) #[] #[.pointer (some ⟨g, 0, none⟩)]] w fun e w' => e = .returned (.int .i64 (idxI (l.findIdx? (fun s : En => decide (keyRo s = (ku, kv)))))) ∧ Below w.heap.size w w' := by
  have EA := Lib.hid hl.len_eq
  have hnl : n ≤ 9223372036854775807 := by rw [EA.out]; exact hl.len
  obtain ⟨r, hr⟩ : ∃ r, idxI (l.findIdx? (fun s : En => decide (keyRo s = (ku, kv)))) = r := ⟨_, rfl⟩
  rw [hr]
  have HR := Lib.hid hr
  clear hr
  have HG := Lib.hid hg
  clear hg
  go_enter Tryz.func151, Tryz.ntmps151
  go_wp2
  go_loopw [8] (fun v8 wr => ∃ i : Nat, v8 = .int .i64 i ∧ i ≤ n ∧ Below w.heap.size w wr ∧ Hid (∀ j (h : j < l.length), j < i → ((fun s : En => decide (keyRo s = (ku, kv)))) l[j] = false)) (fun v8 _ => (n - intOf v8).toNat)
  case atStart => exact ⟨0, rfl, Nat.zero_le _, Below.refl _ _, fun j _ h => absurd h (by omega)⟩
  case round =>
    obtain ⟨i, rfl, hi, hB, HT⟩ := hrel
    by_cases hlt : i < n
    · have hil : i < l.length := by have := EA.out; omega
      obtain ⟨⟨a_, b_, c_, d_, e_, f_, g_⟩, he⟩ : ∃ e, l[i] = e := ⟨_, rfl⟩
      obtain ⟨ad, rfl, c0, c1, c2, c3, c4, c5, c6⟩ := rowEn (hl.below hB) i hil a_ b_ c_ d_ e_ f_ g_ he
      have HE := Lib.hid he
      clear he
      obtain ⟨b, hb⟩ : ∃ b, ((fun s : En => decide (keyRo s = (ku, kv)))) ⟨a_, b_, c_, d_, e_, f_, g_⟩ = b := ⟨_, rfl⟩
      have HB := Lib.hid hb
      clear hb
      go_wp2_with fail
      refine (re_ (findR1_calls a_ b_ c_ d_ e_ f_ g_ g ku kv _ (hcall HG.out hB)) (ret_bool HB.out)).mono ?_
      rintro e w1 ⟨rfl, b1⟩
      have hB1 := below_call hB b1
      clear c0 c1 c2 c3 c4 c5 c6 b1 hB
      cases b with
      | true =>
        have HF : Hid (r = (i : Int)) := by
          show _ = _
          rw [← HR.out, idx_at _ l i hil HT.out (by rw [HE.out]; exact HB.out)]; rfl
        go_wp2
        go_ret
        rw [HF.out]
        exact ⟨rfl, hB1⟩
      | false =>
        go_wp2
        exact ⟨⟨i + 1, by go_num, by omega, hB1, fun j h hj => by
          rcases Nat.lt_or_ge j i with h' | h'
          · exact HT.out j h h'
          · obtain rfl : j = i := by omega
            rw [HE.out]; exact HB.out⟩, by simp [intOf]; omega⟩
    · have hin : i = n := by omega
      subst hin
      have HF : Hid (r = -1) := by
        show _ = _
        rw [← HR.out, idx_no _ l (fun j hj => HT.out j hj (by rw [EA.out]; exact hj))]; rfl
      go_wp2
      go_ret
      rw [HF.out]
      exact ⟨rfl, hB⟩
def placeRo (l : List En) (u v : ByteArray) : Option Nat := l.findIdx? fun s => decide (keyRo s = (u, v))
def maxI (x : Int) : Int := if 0 ≤ x then x else 0
set_option maxHeartbeats 8000000 in
set_option maxRecDepth 100000 in
theorem seekR_calls (n c : Nat) (A : Option Addr) (l : List En) (g : Nat) (ku kv : ByteArray) (w : World) (hl : Row enEn 7 w (.slice A n c) l) (hg : w.heap[g]? = some (bxKr ku kv)) :
    Calls Tryz.prog 149 #[.slice A n c, .func (.func 150) #[] #[.pointer (some ⟨g, 0, none⟩)]] w fun e w' => e = .returned (.tuple #[.int .i64 (maxI (idxI (placeRo l ku kv))), .bool (decide (0 ≤ idxI (placeRo l ku kv)))]) ∧ Below w.heap.size w w' := by
  obtain ⟨r, hr⟩ : ∃ r, idxI (placeRo l ku kv) = r := ⟨_, rfl⟩
  have HC := idxFindR_calls n c A l g ku kv w hl hg
  rw [show l.findIdx? (fun s : En => decide (keyRo s = (ku, kv))) = placeRo l ku kv from rfl] at HC
  rw [hr] at HC ⊢
  clear hr
  unfold maxI
  go_enter Tryz.func149, Tryz.ntmps149
  go_wp2_with fail
  refine HC.mono ?_
  rintro e w1 ⟨rfl, b1⟩
  go_wp2
  all_goals go_ret2
  all_goals refine ⟨?_, b1⟩
  all_goals (by_cases h0 : 0 ≤ r <;> simp_all)
  all_goals (try omega)
set_option maxHeartbeats 8000000 in
set_option maxRecDepth 100000 in
theorem findRo_calls (n c : Nat) (A : Option Addr) (l : List En) (ku kv : ByteArray) (w : World) (hl : Row enEn 7 w (.slice A n c) l) :
    Calls Tryz.prog 97 #[.slice A n c, agKr ku kv] w fun e w' => e = .returned (.tuple #[.int .i64 (maxI (idxI (placeRo l ku kv))), .bool (decide (0 ≤ idxI (placeRo l ku kv)))]) ∧ Below w.heap.size w w' := by
  have hb := below_box (w := w) (bxKr ku kv)
  have HC := seekR_calls n c A l w.heap.size ku kv _ (hl.below hb) (heap_alloc_new w (bxKr ku kv))
  obtain ⟨r, hr⟩ : ∃ r, maxI (idxI (placeRo l ku kv)) = r := ⟨_, rfl⟩
  obtain ⟨s, hs⟩ : ∃ s, decide (0 ≤ idxI (placeRo l ku kv)) = s := ⟨_, rfl⟩
  rw [hr, hs] at HC ⊢
  clear hr hs
  have hmf : ∀ W : World, (Instr.makeFunc (.func 150) #[] #[.pointer (some ⟨w.heap.size, 0, none⟩)]).run Tryz.prog W = .ok (.func (.func 150) #[] #[.pointer (some ⟨w.heap.size, 0, none⟩)]) W := fun W => by kernel_rfl
  go_enter Tryz.func97, Tryz.ntmps97
  go_wp2_with fail
  refine HC.mono ?_
  rintro e w1 ⟨rfl, b1⟩
  have B1 := below_call hb b1
  clear b1 hb
  go_wp2
  go_ret2
  exact ⟨rfl, B1⟩
set_option maxHeartbeats 8000000 in
set_option maxRecDepth 100000 in
theorem OfRo_calls (n c : Nat) (A : Option Addr) (l : List En) (q : ByteArray) (w : World) (hl : Row enEn 7 w (.slice A n c) l) (hn : n ≤ 100000) :
    Calls Tryz.prog 98 #[.slice A n c, .string q] w fun e w' => ∃ v, e = .returned v ∧ Own enS 1 9 w' w.heap.size v ((l.filter (fun s : En => decide (s.o = q))).map En.c) ∧ Below w.heap.size w w' := by
  have EA := Lib.hid hl.len_eq
  go_enter Tryz.func98, Tryz.ntmps98
  go_wp2
  go_loopw [5, 10] (fun vo vc wr => ∃ (i : Nat) (ys : List ByteArray), vc = .int .i64 i ∧ i ≤ n ∧ ys.length ≤ i ∧ Hid ((((l.take i).filter (fun s : En => decide (s.o = q))).map En.c) = ys) ∧ Own enS 1 9 wr w.heap.size vo ys ∧ Below w.heap.size w wr) (fun _ vc _ => (n - intOf vc).toNat)
  case atStart => exact ⟨0, [], rfl, Nat.zero_le _, Nat.le_refl _, rfl, Own.nil _ _ _ _ _, Below.refl _ _⟩
  case round =>
    obtain ⟨i, ys, rfl, hi, hys, HT, hO, hB⟩ := hrel
    by_cases hlt : i < n
    · have hil : i < l.length := by have := EA.out; omega
      obtain ⟨⟨a_, b_, c_, d_, e_, f_, g_⟩, he⟩ : ∃ e, l[i] = e := ⟨_, rfl⟩
      obtain ⟨ad, rfl, c0, c1, c2, c3, c4, c5, c6⟩ := rowEn (hl.below hB) i hil a_ b_ c_ d_ e_ f_ g_ he
      have HE := Lib.hid he
      clear he
      by_cases hq : a_ = q
      · replace hq := hq.symm
        subst hq
        have HT2 : Hid ((((l.take (i + 1)).filter (fun s : En => decide (s.o = q))).map En.c) = ys ++ [b_]) := by
          show _ = _
          rw [List.take_succ_eq_append_getElem hil, HE.out, List.filter_append, List.map_append, HT.out]
          congr 1; simp
        have hO1 := hO.alloc (bxEn q b_ c_ d_ e_ f_ g_)
        have hB1 := below_alloc0 hB (bxEn q b_ c_ d_ e_ f_ g_)
        have HZ1 : Hid ((wr.alloc (bxEn q b_ c_ d_ e_ f_ g_)).heap.size = wr.heap.size + 1) := size_alloc _ _
        go_wp2_with (at_builtin; refine Own.append (w0 := w) w.heap.size rfl (.tmp 18) (.tmp 21) 51 9 (.string ⟨#[]⟩) 1 16 rfl Tryz.underlying51 info_str rfl (by decide) _ ys b_ [.string b_] rfl (by rw [HZ1.out]; rfl) rfl rfl (enS_one _) hO1 hB1 hB1.size (by omega) (by omega) ?_; intro v2 w2 hO2 hB2 _ _)
        exact ⟨⟨i + 1, ys ++ [b_], by go_num, by omega, by rw [List.length_append]; simp only [List.length_cons, List.length_nil]; omega, HT2, hO2, hB2⟩, by simp [intOf]; omega⟩
      · have hne : ¬ a_ = q := hq
        have hne2 : (a_.toList == q.toList) = false := by simpa [toList_inj'] using hne
        have hne3 : ¬ a_.toList = q.toList := by simpa [toList_inj'] using hne
        clear hq
        have HT2 : Hid ((((l.take (i + 1)).filter (fun s : En => decide (s.o = q))).map En.c) = ys) := by
          show _ = _
          rw [List.take_succ_eq_append_getElem hil, HE.out, List.filter_append, List.map_append, HT.out]
          simp [hne]
        have hO1 := hO.alloc (bxEn a_ b_ c_ d_ e_ f_ g_)
        have hB1 := below_alloc0 hB (bxEn a_ b_ c_ d_ e_ f_ g_)
        go_wp2
        exact ⟨⟨i + 1, ys, by go_num, by omega, by omega, HT2, hO1, hB1⟩, by simp [intOf]; omega⟩
    · have hin : i = n := by omega
      subst hin
      have HF : Hid (((l.filter (fun s : En => decide (s.o = q))).map En.c) = ys) := by
        show _ = _
        have := HT.out
        rwa [List.take_of_length_le (by rw [EA.out]; exact Nat.le_refl _)] at this
      go_wp2
      go_ret
      rw [HF.out]
      exact ⟨_, rfl, hO, hB⟩
set_option maxHeartbeats 8000000 in
set_option maxRecDepth 100000 in
theorem refOfRo_calls (n c : Nat) (A : Option Addr) (l : List En) (q : ByteArray) (w : World) (hl : Row enEn 7 w (.slice A n c) l) (hn : n ≤ 100000) :
    Calls Tryz.prog 68 #[.slice A n c, .string q] w fun e w' => ∃ v, e = .returned v ∧ Own enS 1 9 w' w.heap.size v ((l.filter (fun s : En => decide (s.o = q))).map En.c) ∧ Below w.heap.size w w' := by
  have EA := Lib.hid hl.len_eq
  go_enter Tryz.func68, Tryz.ntmps68
  go_wp2
  go_loopw [5, 6] (fun vo vc wr => ∃ (i : Nat) (ys : List ByteArray), vc = .int .i64 i ∧ i ≤ n ∧ ys.length ≤ i ∧ Hid ((((l.take i).filter (fun s : En => decide (s.o = q))).map En.c) = ys) ∧ Own enS 1 9 wr w.heap.size vo ys ∧ Below w.heap.size w wr) (fun _ vc _ => (n - intOf vc).toNat)
  case atStart => exact ⟨0, [], rfl, Nat.zero_le _, Nat.le_refl _, rfl, Own.nil _ _ _ _ _, Below.refl _ _⟩
  case round =>
    obtain ⟨i, ys, rfl, hi, hys, HT, hO, hB⟩ := hrel
    by_cases hlt : i < n
    · have hil : i < l.length := by have := EA.out; omega
      obtain ⟨⟨a_, b_, c_, d_, e_, f_, g_⟩, he⟩ : ∃ e, l[i] = e := ⟨_, rfl⟩
      obtain ⟨ad, rfl, c0, c1, c2, c3, c4, c5, c6⟩ := rowEn (hl.below hB) i hil a_ b_ c_ d_ e_ f_ g_ he
      have HE := Lib.hid he
      clear he
      by_cases hq : a_ = q
      · replace hq := hq.symm
        subst hq
        have HT2 : Hid ((((l.take (i + 1)).filter (fun s : En => decide (s.o = q))).map En.c) = ys ++ [b_]) := by
          show _ = _
          rw [List.take_succ_eq_append_getElem hil, HE.out, List.filter_append, List.map_append, HT.out]
          congr 1; simp
        go_wp2_with (at_builtin; refine Own.append (w0 := w) w.heap.size rfl (.tmp 20) (.tmp 26) 51 9 (.string ⟨#[]⟩) 1 16 rfl Tryz.underlying51 info_str rfl (by decide) _ ys b_ [.string b_] rfl rfl rfl rfl (enS_one _) hO hB hB.size (by omega) (by omega) ?_; intro v2 w2 hO2 hB2 _ _)
        exact ⟨⟨i + 1, ys ++ [b_], by go_num, by omega, by rw [List.length_append]; simp only [List.length_cons, List.length_nil]; omega, HT2, hO2, hB2⟩, by simp [intOf]; omega⟩
      · have hne : ¬ a_ = q := hq
        have hne2 : (a_.toList == q.toList) = false := by simpa [toList_inj'] using hne
        have hne3 : ¬ a_.toList = q.toList := by simpa [toList_inj'] using hne
        clear hq
        have HT2 : Hid ((((l.take (i + 1)).filter (fun s : En => decide (s.o = q))).map En.c) = ys) := by
          show _ = _
          rw [List.take_succ_eq_append_getElem hil, HE.out, List.filter_append, List.map_append, HT.out]
          simp [hne]
        go_wp2
        exact ⟨⟨i + 1, ys, by go_num, by omega, by omega, HT2, hO, hB⟩, by simp [intOf]; omega⟩
    · have hin : i = n := by omega
      subst hin
      have HF : Hid (((l.filter (fun s : En => decide (s.o = q))).map En.c) = ys) := by
        show _ = _
        have := HT.out
        rwa [List.take_of_length_le (by rw [EA.out]; exact Nat.le_refl _)] at this
      go_wp2
      go_ret
      rw [HF.out]
      exact ⟨_, rfl, hO, hB⟩
end Go.Proofs.YtbpfcjdjhponaaaGreat
namespace Go.Proofs.YtbpfcjdjhponaaaGreat
open Go.RowKit
open Sp
theorem bodyPost_vc {P : Program} {fn : Func} {R : Ending → World → Prop} {a : Act} {w : World} {p : Tmp} {ty : TypeId} (h : fn.results = #[.cell p ty]) (g : Nat) (t : TypeId) (cs : Array Value) (fr : Nat × Nat) (d : TypeDesc)
    (hp : a.tmps.getD p undef = .pointer (some ⟨g, 0, none⟩)) (hg : w.heap[g]? = some (.cells cs t fr))
    (hu : P.underlying ty = some d) (hd : (match d with | .struct _ | .array _ _ => true | _ => false) = true) (hi : (P.info? ty).map (·.size) = some cs.size)
    (hde : a.defers = []) (hR : R (.returned (.agg cs)) w) : bodyPost P fn R .ret a w := by
  refine bodyPost_ret ?_ hde hR
  have hp' : a.tmps[p]?.getD undef = .pointer (some ⟨g, 0, none⟩) := by simpa using hp
  simp [results, h, hp', asAddr, run_loadVar_row w g t ty cs fr d hg hu hd hi]
abbrev bxIt (c d e f g : Bool) : Obj := .cells #[.bool c, .bool d, .bool e, .bool f, .bool g] 103
theorem iopen {W : World} {k : Nat} {c d e f g : Bool} (h : W.heap[k]? = some (bxIt c d e f g)) : (W.cell? ⟨k, 0, none⟩ = some (.bool c) ∧ W.cell? ⟨k, 1, none⟩ = some (.bool d) ∧ W.cell? ⟨k, 2, none⟩ = some (.bool e) ∧ W.cell? ⟨k, 3, none⟩ = some (.bool f) ∧ W.cell? ⟨k, 4, none⟩ = some (.bool g)) ∧
    (W.frozen? ⟨k, 0, none⟩ = false ∧ W.frozen? ⟨k, 1, none⟩ = false ∧ W.frozen? ⟨k, 2, none⟩ = false ∧ W.frozen? ⟨k, 3, none⟩ = false ∧ W.frozen? ⟨k, 4, none⟩ = false) ∧ k < W.heap.size :=
  ⟨⟨by simp [World.cell?, h], by simp [World.cell?, h], by simp [World.cell?, h], by simp [World.cell?, h], by simp [World.cell?, h]⟩, ⟨by simp [World.frozen?, h], by simp [World.frozen?, h], by simp [World.frozen?, h], by simp [World.frozen?, h], by simp [World.frozen?, h]⟩, (Array.getElem?_eq_some_iff.1 h).1⟩
theorem info_it : (Tryz.prog.info? 103).map (·.size) = some 5 := by kernel_rfl
theorem place_some {l : List En} {u v : ByteArray} {i : Nat} (h : placeRo l u v = some i) : ∃ hi : i < l.length, keyRo l[i] = (u, v) ∧ ∀ j (hj : j < l.length), j < i → keyRo l[j] ≠ (u, v) := by
  unfold placeRo at h
  rw [List.findIdx?_eq_some_iff_getElem] at h
  obtain ⟨hi, h1, h2⟩ := h
  exact ⟨hi, by simpa using h1, fun j hj hji => by simpa using h2 j hji⟩
theorem place_none {l : List En} {u v : ByteArray} (h : placeRo l u v = none) : ∀ j (hj : j < l.length), keyRo l[j] ≠ (u, v) := by
  unfold placeRo at h
  rw [List.findIdx?_eq_none_iff] at h
  intro j hj
  simpa using h l[j] (List.getElem_mem hj)
set_option maxHeartbeats 8000000 in
set_option maxRecDepth 100000 in
theorem GetRo_calls (n c : Nat) (A : Option Addr) (l : List En) (o q : ByteArray) (w : World) (hl : Row enEn 7 w (.slice A n c) l) :
    Calls Tryz.prog 78 #[.slice A n c, .string o, .string q] w fun e w' => e = .returned (vaIt (getRo l o q)) ∧ Below w.heap.size w w' := by
  have EA := Lib.hid hl.len_eq
  have hB := below_box (w := w) (bxIt false false false false false)
  have HX := heap_alloc_new w (bxIt false false false false false)
  have HC := findRo_calls n c A l o q _ (hl.below hB)
  cases hp : placeRo l o q with
  | some i =>
    obtain ⟨hil, hk, hb4⟩ := place_some hp
    obtain ⟨⟨a_, b_, c_, d_, e_, f_, g_⟩, he⟩ : ∃ e, l[i] = e := ⟨_, rfl⟩
    have HF : Hid (getRo l o q = ⟨c_, d_, e_, f_, g_⟩) := by
      show _ = _
      rw [(getRo_at l o q i hil hb4 hk).1, he]
    have e1 : maxI (idxI (placeRo l o q)) = (i : Int) := by rw [hp]; unfold maxI idxI; simp
    have e2 : decide (0 ≤ idxI (placeRo l o q)) = true := by rw [hp]; unfold idxI; simp
    rw [e1, e2] at HC
    have HE := Lib.hid he
    clear e1 e2 hp hk hb4 he
    go_enter Tryz.func78, Tryz.ntmps78
    go_wp2_with fail
    refine HC.mono ?_
    rintro e w1 ⟨rfl, b1⟩
    have HX1 := hcall HX b1
    have hB1 := below_call hB b1
    obtain ⟨ad, rfl, c0, c1, c2, c3, c4, c5, c6⟩ := rowEn (hl.below hB1) i hil a_ b_ c_ d_ e_ f_ g_ HE.out
    obtain ⟨⟨o0, o1, o2, o3, o4⟩, ⟨f0, f1, f2, f3, f4⟩, og⟩ := iopen HX1
    have x1 : (0 : Int) ≤ (i : Int) := by omega
    have x2 : (i : Int) < (n : Int) := by have := EA.out; omega
    go_wp2
    (try simp only [Exit.inBlock, Exit.then])
    refine bodyPost_vc rfl w.heap.size 103 #[.bool c_, .bool d_, .bool e_, .bool f_, .bool g_] (0, 0) _ rfl ?_ Tryz.underlying103 rfl info_it rfl ⟨?_, ?_⟩
    · simp [World.setCell, Array.getElem?_modify, HX1]
    · rw [HF.out]
    · exact bset (bset (bset (bset (bset hB1 w.heap.size 0 _ (Nat.le_refl _)) w.heap.size 1 _ (Nat.le_refl _)) w.heap.size 2 _ (Nat.le_refl _)) w.heap.size 3 _ (Nat.le_refl _)) w.heap.size 4 _ (Nat.le_refl _)
  | none =>
    have HF : Hid (getRo l o q = noI) := (getRo_no l o q (place_none hp)).1
    have e1 : maxI (idxI (placeRo l o q)) = 0 := by rw [hp]; rfl
    have e2 : decide (0 ≤ idxI (placeRo l o q)) = false := by rw [hp]; rfl
    rw [e1, e2] at HC
    clear e1 e2 hp
    go_enter Tryz.func78, Tryz.ntmps78
    go_wp2_with fail
    refine HC.mono ?_
    rintro e w1 ⟨rfl, b1⟩
    have HX1 := hcall HX b1
    have hB1 := below_call hB b1
    obtain ⟨⟨o0, o1, o2, o3, o4⟩, ⟨f0, f1, f2, f3, f4⟩, og⟩ := iopen HX1
    go_wp2
    (try simp only [Exit.inBlock, Exit.then])
    refine bodyPost_vc rfl w.heap.size 103 #[.bool false, .bool false, .bool false, .bool false, .bool false] (0, 0) _ rfl ?_ Tryz.underlying103 rfl info_it rfl ⟨?_, ?_⟩
    · simp [World.setCell, Array.getElem?_modify, HX1]
    · rw [HF.out]; rfl
    · exact bset (bset (bset (bset (bset hB1 w.heap.size 0 _ (Nat.le_refl _)) w.heap.size 1 _ (Nat.le_refl _)) w.heap.size 2 _ (Nat.le_refl _)) w.heap.size 3 _ (Nat.le_refl _)) w.heap.size 4 _ (Nat.le_refl _)
set_option maxHeartbeats 8000000 in
set_option maxRecDepth 100000 in
theorem refGetRo_calls (n c : Nat) (A : Option Addr) (l : List En) (o q : ByteArray) (w : World) (hl : Row enEn 7 w (.slice A n c) l) :
    Calls Tryz.prog 82 #[.slice A n c, .string o, .string q] w fun e w' => e = .returned (vaIt (getRo l o q)) ∧ Below w.heap.size w w' := by
  have EA := Lib.hid hl.len_eq
  have hnl : n ≤ 9223372036854775807 := by rw [EA.out]; exact hl.len
  go_enter Tryz.func82, Tryz.ntmps82
  go_wp2
  go_loopw [7] (fun vc wr => ∃ (i : Nat), vc = .int .i64 i ∧ i ≤ n ∧ Below w.heap.size w wr ∧ wr.heap[w.heap.size]? = some (bxIt false false false false false) ∧ Hid (∀ j (h : j < l.length), j < i → keyRo l[j] ≠ (o, q))) (fun vc _ => (n - intOf vc).toNat)
  case atStart => exact ⟨0, rfl, Nat.zero_le _, below_box _, heap_alloc_new w _, fun j _ h => absurd h (by omega)⟩
  case round =>
    obtain ⟨i, rfl, hi, hB, HX, HT⟩ := hrel
    by_cases hlt : i < n
    · have hil : i < l.length := by have := EA.out; omega
      obtain ⟨⟨a_, b_, c_, d_, e_, f_, g_⟩, he⟩ : ∃ e, l[i] = e := ⟨_, rfl⟩
      obtain ⟨ad, rfl, c0, c1, c2, c3, c4, c5, c6⟩ := rowEn (hl.below hB) i hil a_ b_ c_ d_ e_ f_ g_ he
      have HX1 := HX
      have hB1 := hB
      by_cases hq : a_ = o ∧ b_ = q
      · have HAT := getRo_at l o q i hil HT.out (by rw [he]; exact Prod.ext hq.1 hq.2)
        have HF : Hid (getRo l o q = ⟨c_, d_, e_, f_, g_⟩) := by
          show _ = _
          rw [HAT.1, he]
        obtain ⟨q1, q2⟩ := hq
        have hs1 : a_.toList = o.toList := by rw [q1]
        have hs2 : b_.toList = q.toList := by rw [q2]
        have hs3 : (a_.toList == o.toList) = true := by rw [q1]; exact beq_self_eq_true _
        have hs4 : (b_.toList == q.toList) = true := by rw [q2]; exact beq_self_eq_true _
        clear he HT HAT q1 q2
        obtain ⟨⟨o0, o1, o2, o3, o4⟩, ⟨f0, f1, f2, f3, f4⟩, og⟩ := iopen HX1
        go_wp2
        (try simp only [Exit.inBlock, Exit.then])
        refine bodyPost_vc rfl w.heap.size 103 #[.bool c_, .bool d_, .bool e_, .bool f_, .bool g_] (0, 0) _ rfl ?_ Tryz.underlying103 rfl info_it rfl ⟨?_, ?_⟩
        · simp [World.setCell, Array.getElem?_modify, HX1]
        · rw [HF.out]
        · exact bset (bset (bset (bset (bset hB1 w.heap.size 0 _ (Nat.le_refl _)) w.heap.size 1 _ (Nat.le_refl _)) w.heap.size 2 _ (Nat.le_refl _)) w.heap.size 3 _ (Nat.le_refl _)) w.heap.size 4 _ (Nat.le_refl _)
      · have HN : Hid (∀ j (h : j < l.length), j < i + 1 → keyRo l[j] ≠ (o, q)) := fun j h hj => by
          rcases Nat.lt_or_ge j i with h' | h'
          · exact HT.out j h h'
          · obtain rfl : j = i := by omega
            rw [he]
            exact fun e => hq ⟨congrArg Prod.fst e, congrArg Prod.snd e⟩
        by_cases q1 : a_ = o
        · have q2 : ¬ b_ = q := fun e => hq ⟨q1, e⟩
          have hs1 : a_.toList = o.toList := by rw [q1]
          have hs3 : (a_.toList == o.toList) = true := by rw [q1]; exact beq_self_eq_true _
          have hs2 : ¬ b_.toList = q.toList := by simpa [toList_inj'] using q2
          have hs4 : (b_.toList == q.toList) = false := by simpa [toList_inj'] using q2
          clear he q1 q2 hq
          go_wp2
          exact ⟨⟨i + 1, by go_num, by omega, hB1, HX1, HN⟩, by simp [intOf]; omega⟩
        · have hs1 : ¬ a_.toList = o.toList := by simpa [toList_inj'] using q1
          have hs3 : (a_.toList == o.toList) = false := by simpa [toList_inj'] using q1
          clear he q1 hq
          go_wp2
          exact ⟨⟨i + 1, by go_num, by omega, hB1, HX1, HN⟩, by simp [intOf]; omega⟩
    · have hin : i = n := by omega
      subst hin
      have HNO := getRo_no l o q (fun j hj => HT.out j hj (by rw [EA.out]; exact hj))
      have HF : Hid (getRo l o q = noI) := HNO.1
      have HX1 := HX
      have hB1 := hB
      clear HT HNO
      obtain ⟨⟨o0, o1, o2, o3, o4⟩, ⟨f0, f1, f2, f3, f4⟩, og⟩ := iopen HX1
      go_wp2
      (try simp only [Exit.inBlock, Exit.then])
      refine bodyPost_vc rfl w.heap.size 103 #[.bool false, .bool false, .bool false, .bool false, .bool false] (0, 0) _ rfl ?_ Tryz.underlying103 rfl info_it rfl ⟨?_, ?_⟩
      · simp [World.setCell, Array.getElem?_modify, HX1]
      · rw [HF.out]; rfl
      · exact bset (bset (bset (bset (bset hB1 w.heap.size 0 _ (Nat.le_refl _)) w.heap.size 1 _ (Nat.le_refl _)) w.heap.size 2 _ (Nat.le_refl _)) w.heap.size 3 _ (Nat.le_refl _)) w.heap.size 4 _ (Nat.le_refl _)
set_option maxHeartbeats 8000000 in
set_option maxRecDepth 100000 in
theorem hasRo_calls (n c : Nat) (A : Option Addr) (l : List En) (o q : ByteArray) (w : World) (hl : Row enEn 7 w (.slice A n c) l) :
    Calls Tryz.prog 83 #[.slice A n c, .string o, .string q] w fun e w' => e = .returned (.bool (hasRo l o q)) ∧ Below w.heap.size w w' := by
  have EA := Lib.hid hl.len_eq
  have hnl : n ≤ 9223372036854775807 := by rw [EA.out]; exact hl.len
  go_enter Tryz.func83, Tryz.ntmps83
  go_wp2
  go_loopw [7] (fun vc wr => ∃ (i : Nat), vc = .int .i64 i ∧ i ≤ n ∧ Below w.heap.size w wr ∧ Hid (∀ j (h : j < l.length), j < i → keyRo l[j] ≠ (o, q))) (fun vc _ => (n - intOf vc).toNat)
  case atStart => exact ⟨0, rfl, Nat.zero_le _, Below.refl _ _, fun j _ h => absurd h (by omega)⟩
  case round =>
    obtain ⟨i, rfl, hi, hB, HT⟩ := hrel
    by_cases hlt : i < n
    · have hil : i < l.length := by have := EA.out; omega
      obtain ⟨⟨a_, b_, c_, d_, e_, f_, g_⟩, he⟩ : ∃ e, l[i] = e := ⟨_, rfl⟩
      obtain ⟨ad, rfl, c0, c1, c2, c3, c4, c5, c6⟩ := rowEn (hl.below hB) i hil a_ b_ c_ d_ e_ f_ g_ he
      have hB1 := hB
      by_cases hq : a_ = o ∧ b_ = q
      · have HAT := getRo_at l o q i hil HT.out (by rw [he]; exact Prod.ext hq.1 hq.2)
        have HF : Hid (hasRo l o q = true) := by
          show _ = _
          exact HAT.2
        obtain ⟨q1, q2⟩ := hq
        have hs1 : a_.toList = o.toList := by rw [q1]
        have hs2 : b_.toList = q.toList := by rw [q2]
        have hs3 : (a_.toList == o.toList) = true := by rw [q1]; exact beq_self_eq_true _
        have hs4 : (b_.toList == q.toList) = true := by rw [q2]; exact beq_self_eq_true _
        clear he HT HAT q1 q2
        go_wp2
        go_ret
        rw [HF.out]
        exact ⟨rfl, hB1⟩
      · have HN : Hid (∀ j (h : j < l.length), j < i + 1 → keyRo l[j] ≠ (o, q)) := fun j h hj => by
          rcases Nat.lt_or_ge j i with h' | h'
          · exact HT.out j h h'
          · obtain rfl : j = i := by omega
            rw [he]
            exact fun e => hq ⟨congrArg Prod.fst e, congrArg Prod.snd e⟩
        by_cases q1 : a_ = o
        · have q2 : ¬ b_ = q := fun e => hq ⟨q1, e⟩
          have hs1 : a_.toList = o.toList := by rw [q1]
          have hs3 : (a_.toList == o.toList) = true := by rw [q1]; exact beq_self_eq_true _
          have hs2 : ¬ b_.toList = q.toList := by simpa [toList_inj'] using q2
          have hs4 : (b_.toList == q.toList) = false := by simpa [toList_inj'] using q2
          clear he q1 q2 hq
          go_wp2
          exact ⟨⟨i + 1, by go_num, by omega, hB1, HN⟩, by simp [intOf]; omega⟩
        · have hs1 : ¬ a_.toList = o.toList := by simpa [toList_inj'] using q1
          have hs3 : (a_.toList == o.toList) = false := by simpa [toList_inj'] using q1
          clear he q1 hq
          go_wp2
          exact ⟨⟨i + 1, by go_num, by omega, hB1, HN⟩, by simp [intOf]; omega⟩
    · have hin : i = n := by omega
      subst hin
      have HNO := getRo_no l o q (fun j hj => HT.out j hj (by rw [EA.out]; exact hj))
      have HF : Hid (hasRo l o q = false) := HNO.2
      have hB1 := hB
      clear HT HNO
      go_wp2
      go_ret
      rw [HF.out]
      exact ⟨rfl, hB1⟩
end Go.Proofs.YtbpfcjdjhponaaaGreat
namespace Go.Proofs.YtbpfcjdjhponaaaGreat
open Go.RowKit
open Sp
set_option maxHeartbeats 8000000 in
set_option maxRecDepth 100000 in
theorem few8_calls (n c : Nat) (A : Option Addr) (l : List En) (w : World) (hl : Row enEn 7 w (.slice A n c) l) (hz : ∀ s ∈ l, s.o.size ≤ 9223372036854775807 ∧ s.c.size ≤ 9223372036854775807) :
    Calls Tryz.prog 35 #[.slice A n c] w fun e w' => e = .returned (.bool (fewRo l)) ∧ Below w.heap.size w w' := by
  have EA := Lib.hid hl.len_eq
  have hnl : n ≤ 9223372036854775807 := by rw [EA.out]; exact hl.len
  obtain ⟨r, hr⟩ : ∃ r, fewRo l = r := ⟨_, rfl⟩
  rw [hr]
  unfold fewRo at hr
  have HR := Lib.hid hr
  have HZ := Lib.hid hz
  clear hr hz
  by_cases hm : 80 < (n : Int)
  · have HF : Hid (r = false) := by
      show _ = _
      rw [← HR.out, decide_eq_false (by rw [← EA.out]; omega)]; rfl
    go_enter Tryz.func35, Tryz.ntmps35
    go_wp2
    go_ret
    rw [HF.out]
    exact ⟨rfl, Below.refl _ _⟩
  · have hm' : (n : Int) ≤ 80 := by omega
    clear hm
    go_enter Tryz.func35, Tryz.ntmps35
    go_wp2
    go_loopw [3] (fun v3 wr => ∃ i : Nat, v3 = .int .i64 i ∧ i ≤ n ∧ Below w.heap.size w wr ∧ Hid (∀ j (h : j < l.length), j < i → (decide (l[j].o.size ≤ 40) && decide (l[j].c.size ≤ 40)) = true)) (fun v3 _ => (n - intOf v3).toNat)
    case atStart => exact ⟨0, rfl, Nat.zero_le _, Below.refl _ _, fun j _ h => absurd h (by omega)⟩
    case round =>
      obtain ⟨i, rfl, hi, hB, HT⟩ := hrel
      by_cases hlt : i < n
      · have hil : i < l.length := by have := EA.out; omega
        obtain ⟨z1, z2⟩ := HZ.out l[i] (List.getElem_mem _)
        obtain ⟨⟨a_, b_, c_, d_, e_, f_, g_⟩, he⟩ : ∃ e, l[i] = e := ⟨_, rfl⟩
        rw [he] at z1 z2
        simp only at z1 z2
        obtain ⟨ad, rfl, c0, c1, c2, c3, c4, c5, c6⟩ := rowEn (hl.below hB) i hil a_ b_ c_ d_ e_ f_ g_ he
        have HE := Lib.hid he
        clear he
        by_cases hq : a_.size ≤ 40 ∧ b_.size ≤ 40
        · have HN : Hid (∀ j (h : j < l.length), j < i + 1 → (decide (l[j].o.size ≤ 40) && decide (l[j].c.size ≤ 40)) = true) := fun j h hj => by
            rcases Nat.lt_or_ge j i with h' | h'
            · exact HT.out j h h'
            · obtain rfl : j = i := by omega
              rw [HE.out]
              simp only
              rw [decide_eq_true hq.1, decide_eq_true hq.2]; rfl
          have h1 : ((a_.size : Nat) : Int) ≤ 40 := by omega
          have h2 : ((b_.size : Nat) : Int) ≤ 40 := by omega
          clear hq
          go_wp2
          exact ⟨⟨i + 1, by go_num, by omega, hB, HN⟩, by simp [intOf]; omega⟩
        · have HF : Hid (r = false) := by
            show _ = _
            rw [← HR.out, Bool.and_eq_false_iff]
            right
            rw [List.all_eq_false]
            refine ⟨l[i], List.getElem_mem _, ?_⟩
            rw [HE.out]
            simp only [Bool.and_eq_true, decide_eq_true_eq]
            exact hq
          by_cases h1 : ((a_.size : Nat) : Int) ≤ 40
          · have h2 : 40 < ((b_.size : Nat) : Int) := by omega
            clear hq
            go_wp2
            go_ret
            rw [HF.out]
            exact ⟨rfl, hB⟩
          · have h2 : 40 < ((a_.size : Nat) : Int) := by omega
            clear hq h1
            go_wp2
            go_ret
            rw [HF.out]
            exact ⟨rfl, hB⟩
      · have hin : i = n := by omega
        subst hin
        have HF : Hid (r = true) := by
          show _ = _
          rw [← HR.out, Bool.and_eq_true]
          refine ⟨decide_eq_true (by rw [← EA.out]; omega), ?_⟩
          rw [List.all_eq_true]
          intro e he
          obtain ⟨j, hj, rfl⟩ := List.getElem_of_mem he
          exact HT.out j hj (by rw [EA.out]; exact hj)
        go_wp2
        go_ret
        rw [HF.out]
        exact ⟨rfl, hB⟩
end Go.Proofs.YtbpfcjdjhponaaaGreat
namespace Go.Proofs.YtbpfcjdjhponaaaGreat
open Go.RowKit
open Sp
def cmpRo (a b : EnK) : Int := if a = b then 0 else if ltRo a b then -1 else 1
theorem cmpRo_ge (a b : EnK) : decide (0 ≤ cmpRo a b) = !ltRo a b := by
  unfold cmpRo
  by_cases h : a = b
  · rw [if_pos h, h, ltRo_ord.irr]; rfl
  · rw [if_neg h]
    cases ltRo a b <;> rfl
theorem cellsKr {W : World} {g : Nat} {u v : ByteArray} (h : W.heap[g]? = some (bxKr u v)) : W.cell? ⟨g, 0, none⟩ = some (.string u) ∧ W.cell? ⟨g, 1, none⟩ = some (.string v) := ⟨by simp [World.cell?, h], by simp [World.cell?, h]⟩
set_option maxHeartbeats 8000000 in
set_option maxRecDepth 100000 in
theorem orderR_calls (u v u' v' : ByteArray) (w : World) :
    Calls Tryz.prog 139 #[agKr u v, agKr u' v'] w fun e w' => e = .returned (.int .i64 (cmpRo (u, v) (u', v'))) ∧ Below w.heap.size w w' := by
  have D := below_alloc0 (below_box (w := w) (bxKr u v)) (bxKr u' v')
  have ha := halloc (heap_alloc_new w (bxKr u v)) (bxKr u' v')
  have hb := heap_alloc_new (w.alloc (bxKr u v)) (bxKr u' v')
  rw [size_alloc] at hb
  have hE := eqlKr u v u' v'
  by_cases h : ((u, v) : EnK) = (u', v')
  · have HF : Hid (cmpRo (u, v) (u', v') = 0) := if_pos h
    rw [decide_eq_true h] at hE
    obtain ⟨k0, k1⟩ := cellsKr ha
    obtain ⟨j0, j1⟩ := cellsKr hb
    clear h
    go_enter Tryz.func139, Tryz.ntmps139
    go_wp2
    go_ret
    rw [HF.out]
    exact ⟨rfl, D⟩
  rw [decide_eq_false h] at hE
  obtain ⟨b1, hb1⟩ : ∃ b, less u u' = b := ⟨_, rfl⟩
  have HL := Lib.hid hb1
  have hcm : cmpRo (u, v) (u', v') = if (b1 || (decide (u = u') && less v v')) then -1 else 1 := by
    unfold cmpRo ltRo
    rw [if_neg h, ← hb1]
  clear hb1 h
  obtain ⟨k0, k1⟩ := cellsKr ha
  obtain ⟨j0, j1⟩ := cellsKr hb
  cases b1 with
  | true =>
    have HF : Hid (cmpRo (u, v) (u', v') = -1) := hcm
    clear hcm
    go_enter Tryz.func139, Tryz.ntmps139
    go_wp2_with fail
    with_reducible refine (Less_is _ u u' true HL).mono ?_
    rintro e w1 ⟨rfl, c1⟩
    have D1 := below_call D c1
    clear k0 k1 j0 j1
    go_wp2
    go_ret
    rw [HF.out]
    exact ⟨rfl, D1⟩
  | false =>
    by_cases hu : u = u'
    · obtain ⟨b2, hb2⟩ : ∃ b, less v v' = b := ⟨_, rfl⟩
      have HL2 := Lib.hid hb2
      rw [decide_eq_true hu, hb2, Bool.false_or, Bool.true_and] at hcm
      have HC := Lib.hid hcm
      have e1 : (u.toList == u'.toList) = true := by rw [hu]; exact beq_self_eq_true _
      have e2 : u.toList = u'.toList := by rw [hu]
      clear hb2 hcm hu
      go_enter Tryz.func139, Tryz.ntmps139
      go_wp2_with fail
      with_reducible refine (Less_is _ u u' false HL).mono ?_
      rintro e w1 ⟨rfl, c1⟩
      replace ha := hcall ha c1
      replace hb := hcall hb c1
      have D1 := below_call D c1
      clear k0 k1 j0 j1 c1
      obtain ⟨k0, k1⟩ := cellsKr ha
      obtain ⟨j0, j1⟩ := cellsKr hb
      go_wp2_with fail
      with_reducible refine (Less_is _ v v' b2 HL2).mono ?_
      rintro e w2 ⟨rfl, c2⟩
      have D2 := below_call D1 c2
      clear k0 k1 j0 j1 c2
      cases b2 with
      | true =>
        have HF : Hid (cmpRo (u, v) (u', v') = -1) := HC.out
        go_wp2
        go_ret
        rw [HF.out]
        exact ⟨rfl, D2⟩
      | false =>
        have HF : Hid (cmpRo (u, v) (u', v') = 1) := HC.out
        go_wp2
        go_ret
        rw [HF.out]
        exact ⟨rfl, D2⟩
    · rw [decide_eq_false hu, Bool.false_and, Bool.or_false] at hcm
      have HF : Hid (cmpRo (u, v) (u', v') = 1) := hcm
      have e1 : (u.toList == u'.toList) = false := by simpa [toList_inj'] using hu
      have e2 : ¬ u.toList = u'.toList := by simpa [toList_inj'] using hu
      clear hcm hu
      go_enter Tryz.func139, Tryz.ntmps139
      go_wp2_with fail
      with_reducible refine (Less_is _ u u' false HL).mono ?_
      rintro e w1 ⟨rfl, c1⟩
      replace ha := hcall ha c1
      replace hb := hcall hb c1
      have D1 := below_call D c1
      clear k0 k1 j0 j1 c1
      obtain ⟨k0, k1⟩ := cellsKr ha
      obtain ⟨j0, j1⟩ := cellsKr hb
      go_wp2
      go_ret
      rw [HF.out]
      exact ⟨rfl, D1⟩
set_option maxHeartbeats 8000000 in
set_option maxRecDepth 100000 in
theorem refAheadR_calls (a b : ByteArray) (c d e f g : Bool) (a' b' : ByteArray) (c' d' e' f' g' : Bool) (w : World) :
    Calls Tryz.prog 81 #[.agg #[.string a, .string b, .bool c, .bool d, .bool e, .bool f, .bool g], .agg #[.string a', .string b', .bool c', .bool d', .bool e', .bool f', .bool g']] w fun x w' => x = .returned (.bool (ltRo (a, b) (a', b'))) ∧ Below w.heap.size w w' := by
  have D := below_alloc0 (below_box (w := w) (bxEn a b c d e f g)) (bxEn a' b' c' d' e' f' g')
  have ha := halloc (heap_alloc_new w (bxEn a b c d e f g)) (bxEn a' b' c' d' e' f' g')
  have hb := heap_alloc_new (w.alloc (bxEn a b c d e f g)) (bxEn a' b' c' d' e' f' g')
  rw [size_alloc] at hb
  obtain ⟨b1, hb1⟩ : ∃ x, less a a' = x := ⟨_, rfl⟩
  have HL := Lib.hid hb1
  have hcm : ltRo (a, b) (a', b') = (b1 || (decide (a = a') && less b b')) := by
    unfold ltRo
    rw [← hb1]
  clear hb1
  obtain ⟨k0, k1, k2, k3, k4, k5, k6, kz⟩ := cellsEn a b c d e f g ha
  obtain ⟨j0, j1, j2, j3, j4, j5, j6, jz⟩ := cellsEn a' b' c' d' e' f' g' hb
  cases b1 with
  | true =>
    have HF : Hid (ltRo (a, b) (a', b') = true) := hcm
    clear hcm
    go_enter Tryz.func81, Tryz.ntmps81
    go_wp2_with fail
    with_reducible refine (refLess_is _ a a' true HL).mono ?_
    rintro x w1 ⟨rfl, c1⟩
    subst c1
    go_wp2
    go_ret
    rw [HF.out]
    exact ⟨rfl, D⟩
  | false =>
    by_cases hu : a = a'
    · obtain ⟨b2, hb2⟩ : ∃ x, less b b' = x := ⟨_, rfl⟩
      have HL2 := Lib.hid hb2
      rw [decide_eq_true hu, hb2, Bool.false_or, Bool.true_and] at hcm
      have HC := Lib.hid hcm
      have e1 : (a.toList == a'.toList) = true := by rw [hu]; exact beq_self_eq_true _
      have e2 : a.toList = a'.toList := by rw [hu]
      clear hb2 hcm hu
      go_enter Tryz.func81, Tryz.ntmps81
      go_wp2_with fail
      with_reducible refine (refLess_is _ a a' false HL).mono ?_
      rintro x w1 ⟨rfl, c1⟩
      subst c1
      go_wp2_with fail
      with_reducible refine (refLess_is _ b b' b2 HL2).mono ?_
      rintro x w2 ⟨rfl, c2⟩
      subst c2
      go_wp2
      go_ret
      rw [HC.out]
      exact ⟨by rfl, D⟩
    · rw [decide_eq_false hu, Bool.false_and, Bool.or_false] at hcm
      have HF : Hid (ltRo (a, b) (a', b') = false) := hcm
      have e1 : (a.toList == a'.toList) = false := by simpa [toList_inj'] using hu
      have e2 : ¬ a.toList = a'.toList := by simpa [toList_inj'] using hu
      clear hcm hu
      go_enter Tryz.func81, Tryz.ntmps81
      go_wp2_with fail
      with_reducible refine (refLess_is _ a a' false HL).mono ?_
      rintro x w1 ⟨rfl, c1⟩
      subst c1
      go_wp2
      go_ret
      rw [HF.out]
      exact ⟨rfl, D⟩
end Go.Proofs.YtbpfcjdjhponaaaGreat
namespace Go.Proofs.YtbpfcjdjhponaaaGreat
open Go.RowKit Go.WideMaps Go.Maps Sp
def keyC (s : ByteArray) : Lit := .string s.data.toList
theorem keyC_key (s : ByteArray) : WideAt.IsKeyLit (keyC s) := trivial
theorem keyC_ne {s t : ByteArray} (h : s ≠ t) : keyC s ≠ keyC t := fun e => h (by
  have e2 : s.data.toList = t.data.toList := by injection e
  exact toList_inj.1 e2)
theorem mapLawC : Keyed Tryz.prog 9 := string_keyed Tryz.underlying9
theorem zeroInt (w : World) : (zeroValue 3).run Tryz.prog w = .ok (.int .i64 0) w := by kernel_rfl
def CntOf (D : DataW Unit) (xs : List ByteArray) : Prop := Tidy D ∧ ∀ s, D.atKey (keyC s) (.lit (.int .i64 0)) = .lit (.int .i64 (cntL xs s : Int))
theorem CntOf.new : CntOf (.map []) [] := ⟨tidy_empty, fun _ => by simp [DataW.atKey, cntL]⟩
theorem CntOf.put {D : DataW Unit} {xs : List ByteArray} (h : CntOf D xs) (s : ByteArray) : CntOf (D.put (keyC s) (.lit (.int .i64 ((cntL xs s + 1 : Nat) : Int)))) (xs ++ [s]) := by
  obtain ⟨h1, h2⟩ := h
  refine ⟨h1.put (keyC_key s) _, fun t => ?_⟩
  rw [cntL_snoc]
  by_cases e : t = s
  · subst e
    rw [atKey_put_same h1.isMap (keyC_key t), if_pos rfl]
  · rw [atKey_put_other (keyC_ne e), h2, if_neg (Ne.symm e), Nat.add_zero]
def CntMap (w : World) (b n : Nat) (xs : List ByteArray) : Prop := ∃ D : DataW Unit, w.ownsMap Tryz.prog 9 (plainElem Tryz.prog 3) b n D ∧ CntOf D xs
theorem CntMap.new (w : World) : CntMap (w.alloc (.map #[] 0)) w.heap.size 0 [] := ⟨_, World.ownsMap_made _ _ _ _, CntOf.new⟩
theorem CntMap.below {w w1 : World} {b n : Nat} {xs : List ByteArray} (h : CntMap w b n xs) (hb : Below w.heap.size w w1) : CntMap w1 b n xs := by
  obtain ⟨D, h1, h2⟩ := h
  exact ⟨D, h1.kept (grown_of_below hb none) (by simp), h2⟩
theorem CntMap.look {w : World} {b n : Nat} {xs : List ByteArray} (h : CntMap w b n xs) (s : ByteArray) (hs : s.size ≤ maxLen) :
    (Instr.lookup 183 (.map (some b)) (.string s) false).run Tryz.prog w = .ok (.int .i64 (cntL xs s)) w := by
  obtain ⟨D, h1, h2⟩ := h
  obtain ⟨v, ps, hrun, hv⟩ := h1.lookup mapLawC Tryz.underlying183 (zeroInt _) (plainElem_int Tryz.underlying3 (by decide)) (keyOf_string_mk Tryz.underlying9 hs)
  rw [show (.string s.data.toList : Lit) = keyC s from rfl, h2.2] at hv
  obtain ⟨x, rfl, e, _⟩ := plainElem_int_inv Tryz.underlying3 hv
  simp only [Prod.mk.injEq, DataW.lit.injEq, Lit.int.injEq, true_and] at e
  rw [hrun, e.1]
end Go.Proofs.YtbpfcjdjhponaaaGreat
namespace Go.Proofs.YtbpfcjdjhponaaaGreat
open Go.RowKit Go.MapKept
theorem upd_new {P : Program} {kt et mty : TypeId} {d : TypeDesc} {es : Array MapEntry} {clock : Nat} {key value : Value} (hm : P.underlying mty = some (.map kt et)) (hd : P.underlying kt = some d) (hk : IsKey d key) (hf : Instr.findNow d key es.toList 0 = some none) (W : World) (b : Nat) (h : W.heap.size = b) :
    (Instr.mapUpdate mty (.map (some b)) key value).run P (W.alloc (.map es clock)) = .ok () (W.alloc (.map (es.push { key, val := value, born := clock }) (clock + 1))) := by
  subst h
  have hb : (W.alloc (.map es clock)).heap[W.heap.size]? = some (.map es clock) := heap_alloc_new _ _
  have hw : ({ W.alloc (.map es clock) with heap := (W.alloc (.map es clock)).heap.setIfInBounds W.heap.size (.map (es.push { key, val := value, born := clock }) (clock + 1)) } : World) = W.alloc (.map (es.push { key, val := value, born := clock }) (clock + 1)) := by
    unfold World.alloc
    simp only [World.mk.injEq, and_true]
    apply Array.ext_getElem?
    intro i
    rw [Array.getElem?_setIfInBounds, Array.getElem?_push, Array.getElem?_push]
    by_cases hi : W.heap.size = i
    · subst hi
      simp
    · rw [if_neg hi, if_neg (fun e => hi e.symm)]
      first | rfl | (rw [if_neg (fun e => hi e.symm)])
  unfold Instr.mapUpdate
  simp only [Sem.run_bind, run_underlying hm, Result.andThen, Go.MapKept.run_getObj_map hb, Go.MapKept.run_checkKey hd hk, Go.MapKept.run_findKey hd hf]
  rw [Go.MapKept.run_setObj_map _ hb, hw]
theorem look_at {P : Program} {kt et mty : TypeId} {d : TypeDesc} {es : Array MapEntry} {clock : Nat} {key value : Value} {i : Nat} (hm : P.underlying mty = some (.map kt et)) (hd : P.underlying kt = some d) (hk : IsKey d key) (hf : Instr.findNow d key es.toList 0 = some (some (i, value))) (W : World) (b : Nat) (hb : W.heap[b]? = some (.map es clock)) :
    (Instr.lookup mty (.map (some b)) key true).run P W = .ok (.tuple #[value, .bool true]) W := by
  unfold Instr.lookup
  simp [run_underlying hm, Result.andThen, Go.MapKept.run_getObj_map hb, Go.MapKept.run_checkKey hd hk, Go.MapKept.run_findKey hd hf]
end Go.Proofs.YtbpfcjdjhponaaaGreat
