/-
Layer 13: Forget of the program; a nil Index.
-/
import Derived.Test.YtocdoddmaopdbaaIxD
import Derived.WalkMore
set_option linter.unusedVariables false
set_option linter.unusedSimpArgs false
namespace Go.Proofs.Ytocdoddmaopdbaa
open Go.RowKit Go.Maps
open Sp
namespace Sp
def offP (s : Bool) (u : ByteArray) (P : List Pr) (l : List ByteArray) : List Pr := l.foldl (fun P o => tuP P (prO s u o).1 (prO s u o).2 false) P
theorem offP_sub (s : Bool) (u : ByteArray) : ∀ (l : List ByteArray) (P : List Pr), (offP s u P l).Sublist P
  | [], P => List.Sublist.refl _
  | o :: l, P => (offP_sub s u l _).trans (by unfold tuP; exact List.filter_sublist)
theorem offP_eq (s : Bool) (u : ByteArray) : ∀ (l : List ByteArray) (P : List Pr), offP s u P l = P.filter fun x => l.all fun o => !(decide (x.1 = (prO s u o).1) && decide (x.2 = (prO s u o).2))
  | [], P => (List.filter_eq_self.2 fun _ _ => rfl).symm
  | o :: l, P => by
    show offP s u (tuP P _ _ false) l = _
    rw [offP_eq s u l]
    unfold tuP
    simp only [Bool.false_eq_true, if_false, List.filter_filter, List.all_cons]
    exact List.filter_congr fun x _ => Bool.and_comm _ _
theorem offP_all (s : Bool) (u : ByteArray) (P : List Pr) : offP s u P (sideP P u s) = P.filter fun x => !decide (sd s x = u) := by
  rw [offP_eq]
  refine List.filter_congr fun x hx => ?_
  rw [Bool.eq_iff_iff, List.all_eq_true, Bool.not_eq_true', decide_eq_false_iff_not]
  have hmem : ∀ o, o ∈ sideP P u s ↔ prO s u o ∈ P := fun o => by
    unfold sideP
    rw [mergeS_mem]
    simp only [List.mem_map, List.mem_filter, decide_eq_true_eq, List.not_mem_nil, or_false]
    constructor
    · rintro ⟨y, ⟨hy, e⟩, rfl⟩
      rw [← sd_eq e]
      exact hy
    · intro hx
      exact ⟨prO s u o, ⟨hx, (prO_sd s u o).1⟩, (prO_sd s u o).2⟩
  constructor
  · intro h e
    have e2 := sd_eq e
    have h2 := h (sd (!s) x) ((hmem _).2 (by rw [← e2]; exact hx))
    rw [← e2] at h2
    simp at h2
  · intro h o _
    rw [Bool.not_eq_true', Bool.and_eq_false_iff, decide_eq_false_iff_not, decide_eq_false_iff_not]
    by_cases e1 : x.1 = (prO s u o).1
    · right
      intro e2
      exact h (by rw [show x = prO s u o from Prod.ext e1 e2]; exact (prO_sd s u o).1)
    · exact .inl e1
theorem sideP_len (P : List Pr) (u : ByteArray) (s : Bool) : (sideP P u s).length ≤ P.length := by
  unfold sideP
  have h1 := mergeS_len ((P.filter fun x => decide (sd s x = u)).map (sd (!s))) []
  have h2 := List.length_filter_le (fun x => decide (sd s x = u)) P
  simp only [List.length_map, List.length_nil] at h1
  omega
def stP (P : List Pr) (u : ByteArray) (i : Nat) : List Pr := if i = 0 then P else if i = 1 then P.filter (fun x => !decide (x.1 = u)) else forgetP P u
theorem stP_sub (P : List Pr) (u : ByteArray) (i : Nat) : (stP P u i).Sublist P := by
  unfold stP
  split
  · exact List.Sublist.refl _
  · split
    · exact List.filter_sublist
    · exact List.filter_sublist
theorem stP_off0 (P : List Pr) (u : ByteArray) : offP false u (stP P u 0) (sideP (stP P u 0) u false) = stP P u 1 := offP_all false u P
theorem stP_off1 (P : List Pr) (u : ByteArray) : offP true u (stP P u 1) (sideP (stP P u 1) u true) = stP P u 2 := by
  rw [offP_all]
  show (P.filter fun x => !decide (x.1 = u)).filter (fun x => !decide (x.2 = u)) = P.filter _
  rw [List.filter_filter]
  exact List.filter_congr fun x _ => Bool.and_comm _ _
theorem offP_snoc (s : Bool) (u : ByteArray) (P : List Pr) (l : List ByteArray) (i : Nat) (hi : i < l.length) : offP s u P (l.take (i + 1)) = tuP (offP s u P (l.take i)) (prO s u l[i]).1 (prO s u l[i]).2 false := by
  unfold offP
  rw [List.take_succ_eq_append_getElem hi, List.foldl_append]
  rfl
end Sp
set_option maxHeartbeats 16000000 in
set_option maxRecDepth 100000 in
theorem forget_calls {w : World} {own : Whose} {a b : Nat} {c : Bool → Nat} {P : List Pr} {n : Nat} (h : IdxAt w own a b c P (fun _ => P) n) (u : ByteArray) (hu : u.size ≤ maxLen) (hl : P.length ≤ 10000) (hn : n + 10 * P.length + 10 ≤ 500000) (hnd : P.Nodup) (hsz : ∀ x ∈ P, x.1.size ≤ maxLen ∧ x.2.size ≤ maxLen) :
    Calls Try.prog 16 #[ptr a, .string u] w fun e w' => e = .returned (.int .i64 ((P.length : Int) - (forgetP P u).length)) ∧ ∃ own', IdxAt w' own' a b c (forgetP P u) (fun _ => forgetP P u) (n + 10 * P.length) ∧ OwnUp own own' w ∧ Turned own w w' := by
  go_enter Try.func16, Try.ntmps16
  go_wp2
  go_step3
  go_wp2_with fail
  with_reducible refine (len_calls h).mono ?_
  rintro e w1 ⟨rfl, b1⟩
  have hI1 := h.below b1
  have hT1 : Turned own w w1 := Turned.of_below b1
  have hB2 := below_box (w := w1) (.cells #[.string u, .string u] 56)
  have hb2 := heap_alloc_new w1 (.cells #[.string u, .string u] 56)
  have hI2 := hI1.below hB2
  have hT2 := hT1.below hB2
  have hs1 := b1.size
  clear b1
  go_wp2_with fail
  go_step3
  go_wp2_with fail
  go_loopw [16] (fun v16 wr => ∃ (i : Nat) (own1 : Whose), v16 = .int .i64 i ∧ i ≤ 2 ∧ IdxAt wr own1 a b c (stP P u i) (fun _ => stP P u i) (n + 5 * i * P.length) ∧ OwnUp own own1 w ∧ Turned own w wr ∧ wr.heap[w1.heap.size]? = some (.cells #[.string u, .string u] 56)) (fun v16 _ => (2 - intOf v16).toNat)
  case atStart => exact ⟨0, own, rfl, by omega, hI2.mono (by omega), OwnUp.refl _ _, hT2, hb2⟩
  case round =>
    obtain ⟨i, own1, rfl, hi, hI, hU, hT, hb⟩ := hrel
    have hb0 : wr.cell? ⟨w1.heap.size, 0, none⟩ = some (.string u) := by simp [World.cell?, hb]
    have hb1 : wr.cell? ⟨w1.heap.size, 1, none⟩ = some (.string u) := by simp [World.cell?, hb]
    have hcase : i = 0 ∨ i = 1 ∨ i = 2 := by omega
    rcases hcase with rfl | rfl | rfl
    · have hsz1 : ∀ x ∈ stP P u 0, x.1.size ≤ maxLen ∧ x.2.size ≤ maxLen := fun x hx => hsz x ((stP_sub P u 0).subset hx)
      have hle1 := (stP_sub P u 0).length_le
      obtain ⟨ls, hls⟩ : ∃ ls, sideP (stP P u 0) u false = ls := ⟨_, rfl⟩
      have hlsn : ls.length ≤ P.length := by rw [← hls]; exact Nat.le_trans (sideP_len _ _ _) hle1
      have HLS : Hid (∀ o, o ∈ ls → o.size ≤ maxLen) := fun o ho => by
        rw [← hls, sideP, mergeS_mem] at ho
        simp only [List.mem_map, List.mem_filter, List.not_mem_nil, or_false] at ho
        obtain ⟨x, ⟨hx, _⟩, rfl⟩ := ho
        exact (hsz1 x hx).2
      have HEND : Hid (offP false u (stP P u 0) ls = stP P u 1) := by show _ = _; rw [← hls]; exact stP_off0 P u
      go_wp2_with fail
      with_reducible refine (others_false hI u hu (by omega) hsz1).mono ?_
      rintro e w2 ⟨v, rfl, hv, b2⟩
      rw [hls] at hv
      clear hls
      have hv' := hv
      obtain ⟨A2, c2, rfl, -⟩ := hv'
      have hI3 := hI.below b2
      have hT3 := hT.below b2
      have hb3 := hcall hb b2
      clear b2 hb0 hb1
      go_wp2_with fail
      go_loopw [26] (fun v26 wr => ∃ (j : Nat) (own2 : Whose), v26 = .int .i64 j ∧ j ≤ ls.length ∧ IdxAt wr own2 a b c (offP false u (stP P u 0) (ls.take j)) (fun _ => offP false u (stP P u 0) (ls.take j)) (n + 5 * 0 * P.length + 5 * j) ∧ OwnUp own own2 w ∧ Turned own w wr ∧ wr.heap[w1.heap.size]? = some (.cells #[.string u, .string u] 56) ∧ Row enS 1 wr (.slice A2 ls.length c2) ls) (fun v26 _ => (ls.length - intOf v26).toNat)
      case atStart => exact ⟨0, own1, rfl, by omega, hI3.mono (by omega), hU, hT3, hb3, hv⟩
      case round =>
        obtain ⟨j, own2, rfl, hj, hI4, hU4, hT4, hb4, hv4⟩ := hrel
        have hc0 : wr.cell? ⟨w1.heap.size, 0, none⟩ = some (.string u) := by simp [World.cell?, hb4]
        have hc1 : wr.cell? ⟨w1.heap.size, 1, none⟩ = some (.string u) := by simp [World.cell?, hb4]
        by_cases hlt : j < ls.length
        · obtain ⟨ad, rfl, hcell⟩ := hv4.get1 (f := Value.string) j hlt
          have hnw := heap_alloc_new wr (.cells #[.string u, .string u] 56)
          have hn1 : (wr.alloc (.cells #[.string u, .string u] 56)).cell? ⟨wr.heap.size, 1, none⟩ = some (.string u) := by unfold World.cell?; simp only; rw [hnw]; rfl
          have hn2 : (wr.alloc (.cells #[.string u, .string u] 56)).frozen? ⟨wr.heap.size, 1, none⟩ = false := by unfold World.frozen?; simp only; rw [hnw]; rfl
          have hsn := heap_alloc_new wr (.cells #[.string u, .string ls[j]] 56)
          have hW : Below wr.heap.size wr (wr.alloc (.cells #[.string u, .string ls[j]] 56)) := below_box _
          have hs0 : (wr.alloc (.cells #[.string u, .string ls[j]] 56)).cell? ⟨wr.heap.size, 0, none⟩ = some (.string u) := by unfold World.cell?; simp only; rw [hsn]; rfl
          have hs1 : (wr.alloc (.cells #[.string u, .string ls[j]] 56)).cell? ⟨wr.heap.size, 1, none⟩ = some (.string ls[j]) := by unfold World.cell?; simp only; rw [hsn]; rfl
          have hI5 := hI4.below hW
          have hT5 := hT4.below hW
          have hb5 := hcall hb4 hW
          have hv5 := hv4.below hW
          have hon := HLS.out ls[j] (List.getElem_mem _)
          have hnd5 := ((offP_sub false u (ls.take j) (stP P u 0)).trans (stP_sub P u 0)).nodup hnd
          have ht := turn_calls hI5 u ls[j] false hu hon (by omega) hnd5 (fun e => by cases e)
          go_wp2_with fail
          with_reducible refine ht.mono ?_
          rintro e w6 ⟨rfl, own6, hI6, hU6, hT6⟩
          go_wp2
          have hu6 := hU4.trans hT5.low.size hU6
          refine ⟨⟨j + 1, own6, by go_num, by omega, (by rw [offP_snoc false u _ ls j hlt]; exact hI6.mono (by omega)), hu6, hT5.trans hU4 hT6, hT6.cells hI5.owned hb5, hT6.row hI5.owned hv5⟩, by simp [intOf]; omega⟩
        · have hjn : j = ls.length := by omega
          subst hjn
          rw [List.take_length, HEND.out] at hI4
          go_wp2
          refine ⟨⟨1, own2, by go_num, by omega, hI4.mono (by omega), hU4, hT4, hb4⟩, by simp [intOf]⟩
    · have hsz1 : ∀ x ∈ stP P u 1, x.1.size ≤ maxLen ∧ x.2.size ≤ maxLen := fun x hx => hsz x ((stP_sub P u 1).subset hx)
      have hle1 := (stP_sub P u 1).length_le
      obtain ⟨ls, hls⟩ : ∃ ls, sideP (stP P u 1) u true = ls := ⟨_, rfl⟩
      have hlsn : ls.length ≤ P.length := by rw [← hls]; exact Nat.le_trans (sideP_len _ _ _) hle1
      have HLS : Hid (∀ o, o ∈ ls → o.size ≤ maxLen) := fun o ho => by
        rw [← hls, sideP, mergeS_mem] at ho
        simp only [List.mem_map, List.mem_filter, List.not_mem_nil, or_false] at ho
        obtain ⟨x, ⟨hx, _⟩, rfl⟩ := ho
        exact (hsz1 x hx).1
      have HEND : Hid (offP true u (stP P u 1) ls = stP P u 2) := by show _ = _; rw [← hls]; exact stP_off1 P u
      go_wp2_with fail
      with_reducible refine (others_true hI u hu (by omega) hsz1).mono ?_
      rintro e w2 ⟨v, rfl, hv, b2⟩
      rw [hls] at hv
      clear hls
      have hv' := hv
      obtain ⟨A2, c2, rfl, -⟩ := hv'
      have hI3 := hI.below b2
      have hT3 := hT.below b2
      have hb3 := hcall hb b2
      clear b2 hb0 hb1
      go_wp2_with fail
      go_loopw [26] (fun v26 wr => ∃ (j : Nat) (own2 : Whose), v26 = .int .i64 j ∧ j ≤ ls.length ∧ IdxAt wr own2 a b c (offP true u (stP P u 1) (ls.take j)) (fun _ => offP true u (stP P u 1) (ls.take j)) (n + 5 * 1 * P.length + 5 * j) ∧ OwnUp own own2 w ∧ Turned own w wr ∧ wr.heap[w1.heap.size]? = some (.cells #[.string u, .string u] 56) ∧ Row enS 1 wr (.slice A2 ls.length c2) ls) (fun v26 _ => (ls.length - intOf v26).toNat)
      case atStart => exact ⟨0, own1, rfl, by omega, hI3.mono (by omega), hU, hT3, hb3, hv⟩
      case round =>
        obtain ⟨j, own2, rfl, hj, hI4, hU4, hT4, hb4, hv4⟩ := hrel
        have hc0 : wr.cell? ⟨w1.heap.size, 0, none⟩ = some (.string u) := by simp [World.cell?, hb4]
        have hc1 : wr.cell? ⟨w1.heap.size, 1, none⟩ = some (.string u) := by simp [World.cell?, hb4]
        by_cases hlt : j < ls.length
        · obtain ⟨ad, rfl, hcell⟩ := hv4.get1 (f := Value.string) j hlt
          have hnw := heap_alloc_new wr (.cells #[.string u, .string u] 56)
          have hn1 : (wr.alloc (.cells #[.string u, .string u] 56)).cell? ⟨wr.heap.size, 0, none⟩ = some (.string u) := by unfold World.cell?; simp only; rw [hnw]; rfl
          have hn2 : (wr.alloc (.cells #[.string u, .string u] 56)).frozen? ⟨wr.heap.size, 0, none⟩ = false := by unfold World.frozen?; simp only; rw [hnw]; rfl
          have hsn := heap_alloc_new wr (.cells #[.string ls[j], .string u] 56)
          have hW : Below wr.heap.size wr (wr.alloc (.cells #[.string ls[j], .string u] 56)) := below_box _
          have hs0 : (wr.alloc (.cells #[.string ls[j], .string u] 56)).cell? ⟨wr.heap.size, 0, none⟩ = some (.string ls[j]) := by unfold World.cell?; simp only; rw [hsn]; rfl
          have hs1 : (wr.alloc (.cells #[.string ls[j], .string u] 56)).cell? ⟨wr.heap.size, 1, none⟩ = some (.string u) := by unfold World.cell?; simp only; rw [hsn]; rfl
          have hI5 := hI4.below hW
          have hT5 := hT4.below hW
          have hb5 := hcall hb4 hW
          have hv5 := hv4.below hW
          have hon := HLS.out ls[j] (List.getElem_mem _)
          have hnd5 := ((offP_sub true u (ls.take j) (stP P u 1)).trans (stP_sub P u 1)).nodup hnd
          have ht := turn_calls hI5 ls[j] u false hon hu (by omega) hnd5 (fun e => by cases e)
          go_wp2_with fail
          with_reducible refine ht.mono ?_
          rintro e w6 ⟨rfl, own6, hI6, hU6, hT6⟩
          go_wp2
          have hu6 := hU4.trans hT5.low.size hU6
          refine ⟨⟨j + 1, own6, by go_num, by omega, (by rw [offP_snoc true u _ ls j hlt]; exact hI6.mono (by omega)), hu6, hT5.trans hU4 hT6, hT6.cells hI5.owned hb5, hT6.row hI5.owned hv5⟩, by simp [intOf]; omega⟩
        · have hjn : j = ls.length := by omega
          subst hjn
          rw [List.take_length, HEND.out] at hI4
          go_wp2
          refine ⟨⟨2, own2, by go_num, by omega, hI4.mono (by omega), hU4, hT4, hb4⟩, by simp [intOf]⟩
    · go_wp2_with fail
      with_reducible refine (len_calls hI).mono ?_
      rintro e w5 ⟨rfl, b5⟩
      have hle := (stP_sub P u 2).length_le
      go_wp2
      rw [Exit.noGoto_ret]
      go_ret
      exact ⟨ret_int (by show _ = (P.length : Int) - (stP P u 2).length; first | rfl | (simp only [wrap64]; omega)), own1, (hI.below b5).mono (by omega), hU, hT.below b5⟩
set_option maxHeartbeats 16000000 in
set_option maxRecDepth 100000 in
theorem nil_has (w : World) (p q : ByteArray) : Calls Try.prog 14 #[.pointer none, .string p, .string q] w fun e w' => e = .returned (.bool false) ∧ Below w.heap.size w w' := by
  go_enter Try.func14, Try.ntmps14
  go_wp2
  go_ret
  exact ⟨rfl, Below.refl _ _⟩
set_option maxHeartbeats 16000000 in
set_option maxRecDepth 100000 in
theorem nil_set (w : World) (p q : ByteArray) (on : Bool) : Calls Try.prog 12 #[.pointer none, .string p, .string q, .bool on] w fun e w' => e = .returned (.bool false) ∧ Below w.heap.size w w' := by
  go_enter Try.func12, Try.ntmps12
  go_wp2
  go_ret
  exact ⟨rfl, Below.refl _ _⟩
set_option maxHeartbeats 16000000 in
set_option maxRecDepth 100000 in
theorem nil_len (w : World) : Calls Try.prog 18 #[.pointer none] w fun e w' => e = .returned (.int .i64 0) ∧ Below w.heap.size w w' := by
  go_enter Try.func18, Try.ntmps18
  go_wp2
  go_ret
  exact ⟨rfl, Below.refl _ _⟩
set_option maxHeartbeats 16000000 in
set_option maxRecDepth 100000 in
theorem nil_others (w : World) (u : ByteArray) (k : Int) : Calls Try.prog 30 #[.pointer none, .string u, .int .i64 k] w fun e w' => e = .returned (.slice none 0 0) ∧ Below w.heap.size w w' := by
  go_enter Try.func30, Try.ntmps30
  go_wp2
  go_ret
  exact ⟨rfl, Below.refl _ _⟩
set_option maxHeartbeats 16000000 in
set_option maxRecDepth 100000 in
theorem nil_watchers (w : World) (u : ByteArray) : Calls Try.prog 20 #[.pointer none, .string u] w fun e w' => e = .returned (.slice none 0 0) ∧ Below w.heap.size w w' := by
  go_enter Try.func20, Try.ntmps20
  go_wp2_with fail
  with_reducible refine (nil_others _ _ _).mono ?_
  rintro e w1 ⟨rfl, b⟩
  go_wp2
  go_ret
  exact ⟨rfl, b⟩
set_option maxHeartbeats 16000000 in
set_option maxRecDepth 100000 in
theorem nil_contacts (w : World) (u : ByteArray) : Calls Try.prog 22 #[.pointer none, .string u] w fun e w' => e = .returned (.slice none 0 0) ∧ Below w.heap.size w w' := by
  go_enter Try.func22, Try.ntmps22
  go_wp2_with fail
  with_reducible refine (nil_others _ _ _).mono ?_
  rintro e w1 ⟨rfl, b⟩
  go_wp2
  go_ret
  exact ⟨rfl, b⟩
set_option maxHeartbeats 16000000 in
set_option maxRecDepth 100000 in
theorem nil_forget (w : World) (u : ByteArray) : Calls Try.prog 16 #[.pointer none, .string u] w fun e w' => e = .returned (.int .i64 0) ∧ Below w.heap.size w w' := by
  go_enter Try.func16, Try.ntmps16
  go_wp2
  go_step3
  go_wp2_with fail
  with_reducible refine (nil_len _).mono ?_
  rintro e w1 ⟨rfl, b1⟩
  have b2 := below_alloc0 b1 (.cells #[.string u, .string u] 56)
  go_wp2_with fail
  go_step3
  go_wp2_with fail
  go_loopw [16] (fun v16 wr => v16 = .int .i64 0 ∧ wr = w1.alloc (.cells #[.string u, .string u] 56)) (fun v16 _ => (2 - intOf v16).toNat)
  case atStart => exact ⟨rfl, rfl⟩
  case round =>
    obtain ⟨rfl, rfl⟩ := hrel
    go_wp2_with fail
    with_reducible refine (nil_len _).mono ?_
    rintro e w3 ⟨rfl, b3⟩
    go_wp2
    rw [Exit.noGoto_ret]
    go_ret
    exact ⟨rfl, below_call b2 b3⟩
end Go.Proofs.Ytocdoddmaopdbaa
