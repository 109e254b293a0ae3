import Derived.WalkMore
import Derived.Test.YtocdoddmaopdbaaProg
import Derived.Deep.RegionHeld3
import Derived.ScopeJumps
import Derived.Laws.Bits64b
import Derived.RegionTactic
import Derived.Test.YtocdoddmaopdbaaPIndexKept01
set_option linter.unusedVariables false
set_option linter.unusedSimpArgs false
set_option linter.unusedSectionVars false
namespace Go.Proofs.Ytocdoddmaopdbaa
open Go.RowKit Go.Maps
open Sp
namespace Sp
def offP (s : Bool) (u : ByteArray) (P : List Pr) (l : List ByteArray) : List Pr := l.foldl (fun P o => tuP P (prO s u o).1 (prO s u o).2 false) P
theorem offP_sub (s : Bool) (u : ByteArray) : ∀ (l : List ByteArray) (P : List Pr), (offP s u P l).Sublist P
  | [], P => List.Sublist.refl _
  | o :: l, P => (offP_sub s u l _).trans (by unfold tuP; exact List.filter_sublist)
theorem offP_eq (s : Bool) (u : ByteArray) : ∀ (l : List ByteArray) (P : List Pr), offP s u P l = P.filter fun x => l.all fun o => !(decide (x.1 = (prO s u o).1) && decide (x.2 = (prO s u o).2))
  | [], P => (List.filter_eq_self.2 fun _ _ => rfl).symm
  | o :: l, P => by
    show offP s u (tuP P _ _ false) l = _
    rw [offP_eq s u l]
    unfold tuP
    simp only [Bool.false_eq_true, if_false, List.filter_filter, List.all_cons]
    exact List.filter_congr fun x _ => Bool.and_comm _ _
theorem offP_all (s : Bool) (u : ByteArray) (P : List Pr) : offP s u P (sideP P u s) = P.filter fun x => !decide (sd s x = u) := by
  rw [offP_eq]
  refine List.filter_congr fun x hx => ?_
  rw [Bool.eq_iff_iff, List.all_eq_true, Bool.not_eq_true', decide_eq_false_iff_not]
  have hmem : ∀ o, o ∈ sideP P u s ↔ prO s u o ∈ P := fun o => by
    unfold sideP
    rw [mergeS_mem]
    simp only [List.mem_map, List.mem_filter, decide_eq_true_eq, List.not_mem_nil, or_false]
    constructor
    · rintro ⟨y, ⟨hy, e⟩, rfl⟩
      rw [← sd_eq e]
      exact hy
    · intro hx
      exact ⟨prO s u o, ⟨hx, (prO_sd s u o).1⟩, (prO_sd s u o).2⟩
  constructor
  · intro h e
    have e2 := sd_eq e
    have h2 := h (sd (!s) x) ((hmem _).2 (by rw [← e2]; exact hx))
    rw [← e2] at h2
    simp at h2
  · intro h o _
    rw [Bool.not_eq_true', Bool.and_eq_false_iff, decide_eq_false_iff_not, decide_eq_false_iff_not]
    by_cases e1 : x.1 = (prO s u o).1
    · right
      intro e2
      exact h (by rw [show x = prO s u o from Prod.ext e1 e2]; exact (prO_sd s u o).1)
    · exact .inl e1
theorem sideP_len (P : List Pr) (u : ByteArray) (s : Bool) : (sideP P u s).length ≤ P.length := by
  unfold sideP
  have h1 := mergeS_len ((P.filter fun x => decide (sd s x = u)).map (sd (!s))) []
  have h2 := List.length_filter_le (fun x => decide (sd s x = u)) P
  simp only [List.length_map, List.length_nil] at h1
  omega
def stP (P : List Pr) (u : ByteArray) (i : Nat) : List Pr := if i = 0 then P else if i = 1 then P.filter (fun x => !decide (x.1 = u)) else forgetP P u
theorem stP_sub (P : List Pr) (u : ByteArray) (i : Nat) : (stP P u i).Sublist P := by
  unfold stP
  split
  · exact List.Sublist.refl _
  · split
    · exact List.filter_sublist
    · exact List.filter_sublist
theorem stP_off0 (P : List Pr) (u : ByteArray) : offP false u (stP P u 0) (sideP (stP P u 0) u false) = stP P u 1 := offP_all false u P
theorem stP_off1 (P : List Pr) (u : ByteArray) : offP true u (stP P u 1) (sideP (stP P u 1) u true) = stP P u 2 := by
  rw [offP_all]
  show (P.filter fun x => !decide (x.1 = u)).filter (fun x => !decide (x.2 = u)) = P.filter _
  rw [List.filter_filter]
  exact List.filter_congr fun x _ => Bool.and_comm _ _
theorem offP_snoc (s : Bool) (u : ByteArray) (P : List Pr) (l : List ByteArray) (i : Nat) (hi : i < l.length) : offP s u P (l.take (i + 1)) = tuP (offP s u P (l.take i)) (prO s u l[i]).1 (prO s u l[i]).2 false := by
  unfold offP
  rw [List.take_succ_eq_append_getElem hi, List.foldl_append]
  rfl
end Sp
set_option maxHeartbeats 16000000 in
set_option maxRecDepth 100000 in
theorem forget_calls {w : World} {own : Whose} {a b : Nat} {c : Bool → Nat} {P : List Pr} {n : Nat} (h : IdxAt w own a b c P (fun _ => P) n) (u : ByteArray) (hu : u.size ≤ maxLen) (hl : P.length ≤ 10000) (hn : n + 10 * P.length + 10 ≤ 500000) (hnd : P.Nodup) (hsz : ∀ x ∈ P, x.1.size ≤ maxLen ∧ x.2.size ≤ maxLen) :
    Calls Try.prog 16 #[ptr a, .string u] w fun e w' => e = .returned (.int .i64 ((P.length : Int) - (forgetP P u).length)) ∧ ∃ own', IdxAt w' own' a b c (forgetP P u) (fun _ => forgetP P u) (n + 10 * P.length) ∧ OwnUp own own' w ∧ Turned own w w' := by
  go_enter Try.func16, Try.ntmps16
  go_wp2
  go_step3
  go_wp2_with fail
  with_reducible refine (len_calls h).mono ?_
  rintro e w1 ⟨rfl, b1⟩
  have hI1 := h.below b1
  have hT1 : Turned own w w1 := Turned.of_below b1
  have hB2 := below_box (w := w1) (.cells #[.string u, .string u] 56)
  have hb2 := heap_alloc_new w1 (.cells #[.string u, .string u] 56)
  have hI2 := hI1.below hB2
  have hT2 := hT1.below hB2
  have hs1 := b1.size
  clear b1
  go_wp2_with fail
  go_step3
  go_wp2_with fail
  go_loopw [16] (fun v16 wr => ∃ (i : Nat) (own1 : Whose), v16 = .int .i64 i ∧ i ≤ 2 ∧ IdxAt wr own1 a b c (stP P u i) (fun _ => stP P u i) (n + 5 * i * P.length) ∧ OwnUp own own1 w ∧ Turned own w wr ∧ wr.heap[w1.heap.size]? = some (.cells #[.string u, .string u] 56)) (fun v16 _ => (2 - intOf v16).toNat)
  case atStart => exact ⟨0, own, rfl, by omega, hI2.mono (by omega), OwnUp.refl _ _, hT2, hb2⟩
  case round =>
    obtain ⟨i, own1, rfl, hi, hI, hU, hT, hb⟩ := hrel
    have hb0 : wr.cell? ⟨w1.heap.size, 0, none⟩ = some (.string u) := by simp [World.cell?, hb]
    have hb1 : wr.cell? ⟨w1.heap.size, 1, none⟩ = some (.string u) := by simp [World.cell?, hb]
    have hcase : i = 0 ∨ i = 1 ∨ i = 2 := by omega
    rcases hcase with rfl | rfl | rfl
    · have hsz1 : ∀ x ∈ stP P u 0, x.1.size ≤ maxLen ∧ x.2.size ≤ maxLen := fun x hx => hsz x ((stP_sub P u 0).subset hx)
      have hle1 := (stP_sub P u 0).length_le
      obtain ⟨ls, hls⟩ : ∃ ls, sideP (stP P u 0) u false = ls := ⟨_, rfl⟩
      have hlsn : ls.length ≤ P.length := by rw [← hls]; exact Nat.le_trans (sideP_len _ _ _) hle1
      have HLS : Hid (∀ o, o ∈ ls → o.size ≤ maxLen) := fun o ho => by
        rw [← hls, sideP, mergeS_mem] at ho
        simp only [List.mem_map, List.mem_filter, List.not_mem_nil, or_false] at ho
        obtain ⟨x, ⟨hx, _⟩, rfl⟩ := ho
        exact (hsz1 x hx).2
      have HEND : Hid (offP false u (stP P u 0) ls = stP P u 1) := by show _ = _; rw [← hls]; exact stP_off0 P u
      go_wp2_with fail
      with_reducible refine (others_false hI u hu (by omega) hsz1).mono ?_
      rintro e w2 ⟨v, rfl, hv, b2⟩
      rw [hls] at hv
      clear hls
      have hv' := hv
      obtain ⟨A2, c2, rfl, -⟩ := hv'
      have hI3 := hI.below b2
      have hT3 := hT.below b2
      have hb3 := hcall hb b2
      clear b2 hb0 hb1
      go_wp2_with fail
      go_loopw [26] (fun v26 wr => ∃ (j : Nat) (own2 : Whose), v26 = .int .i64 j ∧ j ≤ ls.length ∧ IdxAt wr own2 a b c (offP false u (stP P u 0) (ls.take j)) (fun _ => offP false u (stP P u 0) (ls.take j)) (n + 5 * 0 * P.length + 5 * j) ∧ OwnUp own own2 w ∧ Turned own w wr ∧ wr.heap[w1.heap.size]? = some (.cells #[.string u, .string u] 56) ∧ Row enS 1 wr (.slice A2 ls.length c2) ls) (fun v26 _ => (ls.length - intOf v26).toNat)
      case atStart => exact ⟨0, own1, rfl, by omega, hI3.mono (by omega), hU, hT3, hb3, hv⟩
      case round =>
        obtain ⟨j, own2, rfl, hj, hI4, hU4, hT4, hb4, hv4⟩ := hrel
        have hc0 : wr.cell? ⟨w1.heap.size, 0, none⟩ = some (.string u) := by simp [World.cell?, hb4]
        have hc1 : wr.cell? ⟨w1.heap.size, 1, none⟩ = some (.string u) := by simp [World.cell?, hb4]
        by_cases hlt : j < ls.length
        · obtain ⟨ad, rfl, hcell⟩ := hv4.get1 (f := Value.string) j hlt
          have hnw := heap_alloc_new wr (.cells #[.string u, .string u] 56)
          have hn1 : (wr.alloc (.cells #[.string u, .string u] 56)).cell? ⟨wr.heap.size, 1, none⟩ = some (.string u) := by unfold World.cell?; simp only; rw [hnw]; rfl
          have hn2 : (wr.alloc (.cells #[.string u, .string u] 56)).frozen? ⟨wr.heap.size, 1, none⟩ = false := by unfold World.frozen?; simp only; rw [hnw]; rfl
          have hsn := heap_alloc_new wr (.cells #[.string u, .string ls[j]] 56)
          have hW : Below wr.heap.size wr (wr.alloc (.cells #[.string u, .string ls[j]] 56)) := below_box _
          have hs0 : (wr.alloc (.cells #[.string u, .string ls[j]] 56)).cell? ⟨wr.heap.size, 0, none⟩ = some (.string u) := by unfold World.cell?; simp only; rw [hsn]; rfl
          have hs1 : (wr.alloc (.cells #[.string u, .string ls[j]] 56)).cell? ⟨wr.heap.size, 1, none⟩ = some (.string ls[j]) := by unfold World.cell?; simp only; rw [hsn]; rfl
          have hI5 := hI4.below hW
          have hT5 := hT4.below hW
          have hb5 := hcall hb4 hW
          have hv5 := hv4.below hW
          have hon := HLS.out ls[j] (List.getElem_mem _)
          have hnd5 := ((offP_sub false u (ls.take j) (stP P u 0)).trans (stP_sub P u 0)).nodup hnd
          have ht := turn_calls hI5 u ls[j] false hu hon (by omega) hnd5 (fun e => by cases e)
          go_wp2_with fail
          with_reducible refine ht.mono ?_
          rintro e w6 ⟨rfl, own6, hI6, hU6, hT6⟩
          go_wp2
          have hu6 := hU4.trans hT5.low.size hU6
          refine ⟨⟨j + 1, own6, by go_num, by omega, (by rw [offP_snoc false u _ ls j hlt]; exact hI6.mono (by omega)), hu6, hT5.trans hU4 hT6, hT6.cells hI5.owned hb5, hT6.row hI5.owned hv5⟩, by simp [intOf]; omega⟩
        · have hjn : j = ls.length := by omega
          subst hjn
          rw [List.take_length, HEND.out] at hI4
          go_wp2
          refine ⟨⟨1, own2, by go_num, by omega, hI4.mono (by omega), hU4, hT4, hb4⟩, by simp [intOf]⟩
    · have hsz1 : ∀ x ∈ stP P u 1, x.1.size ≤ maxLen ∧ x.2.size ≤ maxLen := fun x hx => hsz x ((stP_sub P u 1).subset hx)
      have hle1 := (stP_sub P u 1).length_le
      obtain ⟨ls, hls⟩ : ∃ ls, sideP (stP P u 1) u true = ls := ⟨_, rfl⟩
      have hlsn : ls.length ≤ P.length := by rw [← hls]; exact Nat.le_trans (sideP_len _ _ _) hle1
      have HLS : Hid (∀ o, o ∈ ls → o.size ≤ maxLen) := fun o ho => by
        rw [← hls, sideP, mergeS_mem] at ho
        simp only [List.mem_map, List.mem_filter, List.not_mem_nil, or_false] at ho
        obtain ⟨x, ⟨hx, _⟩, rfl⟩ := ho
        exact (hsz1 x hx).1
      have HEND : Hid (offP true u (stP P u 1) ls = stP P u 2) := by show _ = _; rw [← hls]; exact stP_off1 P u
      go_wp2_with fail
      with_reducible refine (others_true hI u hu (by omega) hsz1).mono ?_
      rintro e w2 ⟨v, rfl, hv, b2⟩
      rw [hls] at hv
      clear hls
      have hv' := hv
      obtain ⟨A2, c2, rfl, -⟩ := hv'
      have hI3 := hI.below b2
      have hT3 := hT.below b2
      have hb3 := hcall hb b2
      clear b2 hb0 hb1
      go_wp2_with fail
      go_loopw [26] (fun v26 wr => ∃ (j : Nat) (own2 : Whose), v26 = .int .i64 j ∧ j ≤ ls.length ∧ IdxAt wr own2 a b c (offP true u (stP P u 1) (ls.take j)) (fun _ => offP true u (stP P u 1) (ls.take j)) (n + 5 * 1 * P.length + 5 * j) ∧ OwnUp own own2 w ∧ Turned own w wr ∧ wr.heap[w1.heap.size]? = some (.cells #[.string u, .string u] 56) ∧ Row enS 1 wr (.slice A2 ls.length c2) ls) (fun v26 _ => (ls.length - intOf v26).toNat)
      case atStart => exact ⟨0, own1, rfl, by omega, hI3.mono (by omega), hU, hT3, hb3, hv⟩
      case round =>
        obtain ⟨j, own2, rfl, hj, hI4, hU4, hT4, hb4, hv4⟩ := hrel
        have hc0 : wr.cell? ⟨w1.heap.size, 0, none⟩ = some (.string u) := by simp [World.cell?, hb4]
        have hc1 : wr.cell? ⟨w1.heap.size, 1, none⟩ = some (.string u) := by simp [World.cell?, hb4]
        by_cases hlt : j < ls.length
        · obtain ⟨ad, rfl, hcell⟩ := hv4.get1 (f := Value.string) j hlt
          have hnw := heap_alloc_new wr (.cells #[.string u, .string u] 56)
          have hn1 : (wr.alloc (.cells #[.string u, .string u] 56)).cell? ⟨wr.heap.size, 0, none⟩ = some (.string u) := by unfold World.cell?; simp only; rw [hnw]; rfl
          have hn2 : (wr.alloc (.cells #[.string u, .string u] 56)).frozen? ⟨wr.heap.size, 0, none⟩ = false := by unfold World.frozen?; simp only; rw [hnw]; rfl
          have hsn := heap_alloc_new wr (.cells #[.string ls[j], .string u] 56)
          have hW : Below wr.heap.size wr (wr.alloc (.cells #[.string ls[j], .string u] 56)) := below_box _
          have hs0 : (wr.alloc (.cells #[.string ls[j], .string u] 56)).cell? ⟨wr.heap.size, 0, none⟩ = some (.string ls[j]) := by unfold World.cell?; simp only; rw [hsn]; rfl
          have hs1 : (wr.alloc (.cells #[.string ls[j], .string u] 56)).cell? ⟨wr.heap.size, 1, none⟩ = some (.string u) := by unfold World.cell?; simp only; rw [hsn]; rfl
          have hI5 := hI4.below hW
          have hT5 := hT4.below hW
          have hb5 := hcall hb4 hW
          have hv5 := hv4.below hW
          have hon := HLS.out ls[j] (List.getElem_mem _)
          have hnd5 := ((offP_sub true u (ls.take j) (stP P u 1)).trans (stP_sub P u 1)).nodup hnd
          have ht := turn_calls hI5 ls[j] u false hon hu (by omega) hnd5 (fun e => by cases e)
          go_wp2_with fail
          with_reducible refine ht.mono ?_
          rintro e w6 ⟨rfl, own6, hI6, hU6, hT6⟩
          go_wp2
          have hu6 := hU4.trans hT5.low.size hU6
          refine ⟨⟨j + 1, own6, by go_num, by omega, (by rw [offP_snoc true u _ ls j hlt]; exact hI6.mono (by omega)), hu6, hT5.trans hU4 hT6, hT6.cells hI5.owned hb5, hT6.row hI5.owned hv5⟩, by simp [intOf]; omega⟩
        · have hjn : j = ls.length := by omega
          subst hjn
          rw [List.take_length, HEND.out] at hI4
          go_wp2
          refine ⟨⟨2, own2, by go_num, by omega, hI4.mono (by omega), hU4, hT4, hb4⟩, by simp [intOf]⟩
    · go_wp2_with fail
      with_reducible refine (len_calls hI).mono ?_
      rintro e w5 ⟨rfl, b5⟩
      have hle := (stP_sub P u 2).length_le
      go_wp2
      rw [Exit.noGoto_ret]
      go_ret
      exact ⟨ret_int (by show _ = (P.length : Int) - (stP P u 2).length; first | rfl | (simp only [wrap64]; omega)), own1, (hI.below b5).mono (by omega), hU, hT.below b5⟩
end Go.Proofs.Ytocdoddmaopdbaa
namespace Go.Proofs.Ytocdoddmaopdbaa
open Go.RowKit Go.Maps
open Sp
def CellsKept (w w' : World) : Prop := ∀ (g : Nat) (cs : Array Value) (T : TypeId) (fr : Nat × Nat), w.heap[g]? = some (.cells cs T fr) → w'.heap[g]? = some (.cells cs T fr)
theorem CellsKept.refl (w : World) : CellsKept w w := fun _ _ _ _ h => h
theorem CellsKept.trans {w w1 w2 : World} (h : CellsKept w w1) (k : CellsKept w1 w2) : CellsKept w w2 := fun g cs T fr e => k g cs T fr (h g cs T fr e)
theorem CellsKept.below {w w1 : World} (b : Below w.heap.size w w1) : CellsKept w w1 := fun g cs T fr e => hcall e b
theorem CellsKept.row {w w1 : World} (h : CellsKept w w1) {α : Type} {enc : α → List Value} {k : Nat} {v : Value} {xs : List α} (hr : Row enc k w v xs) : Row enc k w1 v xs := by
  obtain ⟨A, c, rfl, h1, h2, h3, h4⟩ := hr
  refine ⟨A, c, rfl, h1, h2, h3, fun hp => ?_⟩
  obtain ⟨ad, e, hc⟩ := h4 hp
  refine ⟨ad, e, fun j u hu => ?_⟩
  have h5 := hc j u hu
  have hb : (ad.add j).block = ad.block := add_block ad j
  have hcell : ∃ cs T fr, w.heap[ad.block]? = some (.cells cs T fr) := by
    unfold World.cell? at h5
    rw [hb] at h5
    split at h5
    · rename_i cs T fr hh
      exact ⟨_, _, _, hh⟩
    · cases h5
  obtain ⟨cs, T, fr, hh⟩ := hcell
  have h6 := h _ _ _ _ hh
  unfold World.cell? at h5 ⊢
  rw [hb] at h5 ⊢
  rw [h6]
  rw [hh] at h5
  exact h5
theorem CellsKept.cell {w w1 : World} (h : CellsKept w w1) {a : Addr} {v : Value} (hc : w.cell? a = some v) : w1.cell? a = some v := by
  have hcell : ∃ cs T fr, w.heap[a.block]? = some (.cells cs T fr) := by
    unfold World.cell? at hc
    split at hc
    · rename_i cs T fr hh
      exact ⟨_, _, _, hh⟩
    · cases hc
  obtain ⟨cs, T, fr, hh⟩ := hcell
  have h6 := h _ _ _ _ hh
  unfold World.cell? at hc ⊢
  rw [h6]
  rw [hh] at hc
  exact hc
theorem Turned.kept {own : Whose} {w w1 : World} (h : Turned own w w1) (hm : Owned own w) : CellsKept w w1 := fun g cs T fr e => h.cells hm e
structure Ix (w0 w : World) (a : Nat) (P : List Pr) (n : Nat) : Prop where
  at_ : ∃ own b c, IdxAt w own a b c P (fun _ => P) n ∧ ∀ i, own i ≠ none → w0.heap.size ≤ i
  nd : P.Nodup
  sz : ∀ x ∈ P, x.1.size ≤ maxLen ∧ x.2.size ≤ maxLen
theorem Ix.below {w0 w w1 : World} {a n : Nat} {P : List Pr} (h : Ix w0 w a P n) (b : Below w.heap.size w w1) : Ix w0 w1 a P n :=
  ⟨by obtain ⟨own, x, c, h1, h2⟩ := h.at_; exact ⟨own, x, c, h1.below b, h2⟩, h.nd, h.sz⟩
theorem Ix.mono {w0 w : World} {a n n' : Nat} {P : List Pr} (h : Ix w0 w a P n) (hn : n ≤ n') : Ix w0 w a P n' :=
  ⟨by obtain ⟨own, x, c, h1, h2⟩ := h.at_; exact ⟨own, x, c, h1.mono hn, h2⟩, h.nd, h.sz⟩
theorem low_turned {w0 w w1 : World} {own : Whose} (D : Below w0.heap.size w0 w) (t : Turned own w w1) (ho : ∀ i, own i ≠ none → w0.heap.size ≤ i) : Below w0.heap.size w0 w1 :=
  ⟨t.low.os.trans D.os, t.low.tape.trans D.tape, t.low.output.trans D.output, Nat.le_trans D.size t.low.size, fun i hi => by
    have e : own i = none := by
      cases e : own i with
      | none => rfl
      | some r => exact absurd (ho i (by rw [e]; simp)) (by omega)
    rw [t.same i (Nat.lt_of_lt_of_le hi D.size) e, D.block i hi]⟩
theorem up_low {w0 w : World} {own own' : Whose} (D : w0.heap.size ≤ w.heap.size) (u : OwnUp own own' w) (ho : ∀ i, own i ≠ none → w0.heap.size ≤ i) : ∀ i, own' i ≠ none → w0.heap.size ≤ i := fun i hi => by
  cases e : own i with
  | none => exact Nat.le_trans D (u.2 i e hi)
  | some r => exact ho i (by rw [e]; simp)
theorem ix_new (w0 w : World) (D : Below w0.heap.size w0 w) : Calls Try.prog 11 #[] w fun e w' => ∃ a, e = .returned (ptr a) ∧ Ix w0 w' a [] 0 ∧ Below w.heap.size w w' := by
  refine (new_calls w).mono ?_
  rintro e w1 ⟨a, b, c, rfl, h, hb⟩
  refine ⟨a, rfl, ⟨⟨_, b, c, h, fun i hi => ?_⟩, List.nodup_nil, fun x hx => by cases hx⟩, hb⟩
  unfold own0 at hi
  have := D.size
  by_cases e0 : i = w.heap.size
  · omega
  · rw [if_neg e0] at hi
    by_cases e1 : i = w.heap.size + 1
    · omega
    · rw [if_neg e1] at hi
      by_cases e2 : i = w.heap.size + 2
      · omega
      · rw [if_neg e2] at hi
        exact absurd rfl hi
theorem setP_ok {P : List Pr} (h : P.Nodup) (hs : ∀ x ∈ P, x.1.size ≤ maxLen ∧ x.2.size ≤ maxLen) (p q : ByteArray) (on : Bool) (hp : p.size ≤ maxLen) (hq : q.size ≤ maxLen) :
    (setP P p q on).1.Nodup ∧ (∀ x ∈ (setP P p q on).1, x.1.size ≤ maxLen ∧ x.2.size ≤ maxLen) ∧ (setP P p q on).1.length ≤ P.length + 1 := by
  unfold setP
  split
  · exact ⟨h, hs, Nat.le_succ _⟩
  · rename_i e
    refine ⟨tuP_nodup h p q on fun ho => ?_, fun x hx => ?_, ?_⟩
    · rw [ho] at e
      cases hh : inP P p q with
      | false => rfl
      | true => exact absurd hh e
    · unfold tuP at hx
      cases on
      · exact hs x (List.mem_filter.1 hx).1
      · simp only [if_true, List.mem_append, List.mem_singleton] at hx
        rcases hx with hx | rfl
        · exact hs x hx
        · exact ⟨hp, hq⟩
    · unfold tuP
      cases on
      · exact Nat.le_trans (List.length_filter_le _ _) (Nat.le_succ _)
      · simp
theorem ix_set {w0 w : World} {a n : Nat} {P : List Pr} (h : Ix w0 w a P n) (D : Below w0.heap.size w0 w) (p q : ByteArray) (on : Bool) (hp : p.size ≤ maxLen) (hq : q.size ≤ maxLen) (hn : n + 5 < 1000000) :
    Calls Try.prog 12 #[ptr a, .string p, .string q, .bool on] w fun e w' => e = .returned (.bool (setP P p q on).2) ∧ Ix w0 w' a (setP P p q on).1 (n + 5) ∧ Below w0.heap.size w0 w' ∧ CellsKept w w' := by
  obtain ⟨⟨own, b, c, h1, h2⟩, h3, h4⟩ := h
  refine (set_calls h1 p q on hp hq hn h3).mono ?_
  rintro e w1 ⟨rfl, own', k1, k2, k3⟩
  obtain ⟨s1, s2, -⟩ := setP_ok h3 h4 p q on hp hq
  exact ⟨rfl, ⟨⟨own', b, c, k1, up_low D.size k2 h2⟩, s1, s2⟩, low_turned D k3 h2, k3.kept h1.owned⟩
theorem ix_forget {w0 w : World} {a n : Nat} {P : List Pr} (h : Ix w0 w a P n) (D : Below w0.heap.size w0 w) (u : ByteArray) (hu : u.size ≤ maxLen) (hl : P.length ≤ 10000) (hn : n + 10 * P.length + 10 ≤ 500000) :
    Calls Try.prog 16 #[ptr a, .string u] w fun e w' => e = .returned (.int .i64 ((P.length : Int) - (forgetP P u).length)) ∧ Ix w0 w' a (forgetP P u) (n + 10 * P.length) ∧ Below w0.heap.size w0 w' ∧ CellsKept w w' := by
  obtain ⟨⟨own, b, c, h1, h2⟩, h3, h4⟩ := h
  refine (forget_calls h1 u hu hl hn h3 h4).mono ?_
  rintro e w1 ⟨rfl, own', k1, k2, k3⟩
  exact ⟨rfl, ⟨⟨own', b, c, k1, up_low D.size k2 h2⟩, nodup_filter _ _ h3, fun x hx => h4 x (List.mem_filter.1 hx).1⟩, low_turned D k3 h2, k3.kept h1.owned⟩
theorem ix_has {w0 w : World} {a n : Nat} {P : List Pr} (h : Ix w0 w a P n) (p q : ByteArray) (hp : p.size ≤ maxLen) (hq : q.size ≤ maxLen) :
    Calls Try.prog 14 #[ptr a, .string p, .string q] w fun e w' => e = .returned (.bool (inP P p q)) ∧ Below w.heap.size w w' := by
  obtain ⟨⟨own, b, c, h1, h2⟩, h3, h4⟩ := h
  exact has_calls h1 p q hp hq
theorem ix_len {w0 w : World} {a n : Nat} {P : List Pr} (h : Ix w0 w a P n) : Calls Try.prog 18 #[ptr a] w fun e w' => e = .returned (.int .i64 P.length) ∧ Below w.heap.size w w' := by
  obtain ⟨⟨own, b, c, h1, h2⟩, h3, h4⟩ := h
  exact len_calls h1
theorem ix_watchers {w0 w : World} {a n : Nat} {P : List Pr} (h : Ix w0 w a P n) (u : ByteArray) (hu : u.size ≤ maxLen) (hn : n ≤ 500000) :
    Calls Try.prog 20 #[ptr a, .string u] w fun e w' => ∃ v, e = .returned v ∧ Row enS 1 w' v (sideP P u true) ∧ Below w.heap.size w w' := by
  obtain ⟨⟨own, b, c, h1, h2⟩, h3, h4⟩ := h
  exact watchers_calls h1 u hu hn h4
theorem ix_contacts {w0 w : World} {a n : Nat} {P : List Pr} (h : Ix w0 w a P n) (u : ByteArray) (hu : u.size ≤ maxLen) (hn : n ≤ 500000) :
    Calls Try.prog 22 #[ptr a, .string u] w fun e w' => ∃ v, e = .returned v ∧ Row enS 1 w' v (sideP P u false) ∧ Below w.heap.size w w' := by
  obtain ⟨⟨own, b, c, h1, h2⟩, h3, h4⟩ := h
  exact contacts_calls h1 u hu hn h4
theorem form_S {w : World} {v : Value} {l : List ByteArray} (h : Row enS 1 w v l) : ∃ A c, v = .slice A l.length c := by
  obtain ⟨A, c, rfl, -⟩ := h
  exact ⟨A, c, rfl⟩
end Go.Proofs.Ytocdoddmaopdbaa
namespace Go.Proofs.Ytocdoddmaopdbaa
open Go.RowKit Go.Maps
open Sp
namespace Sp
end Sp
theorem l13_0 : Hid (setP [] ⟨#[99]⟩ ⟨#[98]⟩ true = ([(⟨#[99]⟩, ⟨#[98]⟩)], true)) := by show _ = _; decide +kernel
theorem l13_1 : Hid (setP [(⟨#[99]⟩, ⟨#[98]⟩)] ⟨#[97]⟩ ⟨#[98]⟩ true = ([(⟨#[99]⟩, ⟨#[98]⟩), (⟨#[97]⟩, ⟨#[98]⟩)], true)) := by show _ = _; decide +kernel
theorem l13_2 : Hid (setP [(⟨#[99]⟩, ⟨#[98]⟩), (⟨#[97]⟩, ⟨#[98]⟩)] ⟨#[97]⟩ ⟨#[98]⟩ true = ([(⟨#[99]⟩, ⟨#[98]⟩), (⟨#[97]⟩, ⟨#[98]⟩)], false)) := by show _ = _; decide +kernel
theorem l13_3 : Hid (setP [(⟨#[99]⟩, ⟨#[98]⟩), (⟨#[97]⟩, ⟨#[98]⟩)] ⟨#[97]⟩ ⟨#[97]⟩ true = ([(⟨#[99]⟩, ⟨#[98]⟩), (⟨#[97]⟩, ⟨#[98]⟩), (⟨#[97]⟩, ⟨#[97]⟩)], true)) := by show _ = _; decide +kernel
theorem l13_w : Hid (sideP [(⟨#[99]⟩, ⟨#[98]⟩), (⟨#[97]⟩, ⟨#[98]⟩), (⟨#[97]⟩, ⟨#[97]⟩)] ⟨#[98]⟩ true = [⟨#[97]⟩, ⟨#[99]⟩]) := by show _ = _; decide +kernel
theorem l13_k : Hid (sideP [(⟨#[99]⟩, ⟨#[98]⟩), (⟨#[97]⟩, ⟨#[98]⟩), (⟨#[97]⟩, ⟨#[97]⟩)] ⟨#[97]⟩ false = [⟨#[97]⟩, ⟨#[98]⟩]) := by show _ = _; decide +kernel
theorem l13_6 : Hid (setP [(⟨#[99]⟩, ⟨#[98]⟩), (⟨#[97]⟩, ⟨#[98]⟩), (⟨#[97]⟩, ⟨#[97]⟩)] ⟨#[99]⟩ ⟨#[98]⟩ false = ([(⟨#[97]⟩, ⟨#[98]⟩), (⟨#[97]⟩, ⟨#[97]⟩)], true)) := by show _ = _; decide +kernel
theorem l13_7 : Hid (setP [(⟨#[97]⟩, ⟨#[98]⟩), (⟨#[97]⟩, ⟨#[97]⟩)] ⟨#[99]⟩ ⟨#[98]⟩ false = ([(⟨#[97]⟩, ⟨#[98]⟩), (⟨#[97]⟩, ⟨#[97]⟩)], false)) := by show _ = _; decide +kernel
theorem l13_f : Hid (forgetP [(⟨#[97]⟩, ⟨#[98]⟩), (⟨#[97]⟩, ⟨#[97]⟩)] ⟨#[97]⟩ = []) := by show _ = _; decide +kernel
set_option maxHeartbeats 16000000 in
set_option maxRecDepth 100000 in
theorem live13 (w : World) : Calls Try.prog 10 #[] w fun e w' => e = .returned (.bool true) ∧ Below w.heap.size w w' := by
  go_enter Try.func10, Try.ntmps10
  go_wp2_with fail
  with_reducible refine (ix_new w w (Below.refl _ _)).mono ?_
  rintro e w0 ⟨a, rfl, hI, D⟩
  go_wp2_with fail
  with_reducible refine (ix_set hI D ⟨#[99]⟩ ⟨#[98]⟩ true (by decide) (by decide) (by omega)).mono ?_
  rintro e w1 ⟨rfl, hI1, D1, K1⟩
  rw [l13_0.out] at hI1 ⊢
  clear K1 D hI
  have D := D1
  have hI := hI1
  clear D1 hI1
  go_wp2_with fail
  with_reducible refine (ix_set hI D ⟨#[97]⟩ ⟨#[98]⟩ true (by decide) (by decide) (by omega)).mono ?_
  rintro e w1 ⟨rfl, hI1, D1, K1⟩
  rw [l13_1.out] at hI1 ⊢
  clear K1 D hI
  have D := D1
  have hI := hI1
  clear D1 hI1
  go_wp2_with fail
  with_reducible refine (ix_set hI D ⟨#[97]⟩ ⟨#[98]⟩ true (by decide) (by decide) (by omega)).mono ?_
  rintro e w1 ⟨rfl, hI1, D1, K1⟩
  rw [l13_2.out] at hI1 ⊢
  clear K1 D hI
  have D := D1
  have hI := hI1
  clear D1 hI1
  go_wp2_with fail
  with_reducible refine (ix_set hI D ⟨#[97]⟩ ⟨#[97]⟩ true (by decide) (by decide) (by omega)).mono ?_
  rintro e w1 ⟨rfl, hI1, D1, K1⟩
  rw [l13_3.out] at hI1 ⊢
  clear K1 D hI
  have D := D1
  have hI := hI1
  clear D1 hI1
  go_wp2_with fail
  with_reducible refine (ix_watchers hI ⟨#[98]⟩ (by decide) (by omega)).mono ?_
  rintro e w1 ⟨vw, rfl, rw, b1⟩
  rw [l13_w.out] at rw
  obtain ⟨Aw, cw, rfl⟩ := form_S rw
  replace hI := hI.below b1
  replace D := below_call D b1
  clear b1
  go_wp2_with fail
  with_reducible refine (ix_contacts hI ⟨#[97]⟩ (by decide) (by omega)).mono ?_
  rintro e w1 ⟨vk, rfl, rk, b1⟩
  rw [l13_k.out] at rk
  obtain ⟨Ak, ck, rfl⟩ := form_S rk
  replace rw := rw.below b1
  replace hI := hI.below b1
  replace D := below_call D b1
  clear b1
  go_wp2_with fail
  with_reducible refine (ix_len hI).mono ?_
  rintro e w1 ⟨rfl, b1⟩
  replace rw := rw.below b1
  replace rk := rk.below b1
  replace hI := hI.below b1
  replace D := below_call D b1
  clear b1
  go_wp2_with fail
  with_reducible refine (ix_set hI D ⟨#[99]⟩ ⟨#[98]⟩ false (by decide) (by decide) (by omega)).mono ?_
  rintro e w1 ⟨rfl, hI1, D1, K1⟩
  rw [l13_6.out] at hI1 ⊢
  replace rw := K1.row rw
  replace rk := K1.row rk
  clear K1 D hI
  have D := D1
  have hI := hI1
  clear D1 hI1
  go_wp2_with fail
  with_reducible refine (ix_set hI D ⟨#[99]⟩ ⟨#[98]⟩ false (by decide) (by decide) (by omega)).mono ?_
  rintro e w1 ⟨rfl, hI1, D1, K1⟩
  rw [l13_7.out] at hI1 ⊢
  replace rw := K1.row rw
  replace rk := K1.row rk
  clear K1 D hI
  have D := D1
  have hI := hI1
  clear D1 hI1
  go_wp2_with fail
  with_reducible refine (ix_forget hI D ⟨#[97]⟩ (by decide) (by decide) (by decide)).mono ?_
  rintro e w1 ⟨rfl, hI1, D1, K1⟩
  rw [l13_f.out] at hI1 ⊢
  replace rw := K1.row rw
  replace rk := K1.row rk
  clear K1 D hI
  have D := D1
  have hI := hI1
  clear D1 hI1
  have bb := below_box (w := w1) (.cells #[.string ⟨#[97]⟩, .string ⟨#[99]⟩] 9)
  have rr : Row enS 1 (w1.alloc (.cells #[.string ⟨#[97]⟩, .string ⟨#[99]⟩] 9)) (.slice (some ⟨w1.heap.size, 0, none⟩) 2 2) [⟨#[97]⟩, ⟨#[99]⟩] := (Own.lit (base := w1.heap.size) enS_len w1 _ _ 2 rfl rfl (Nat.le_refl _) (by decide)).row
  replace rw := rw.below bb
  replace rk := rk.below bb
  replace hI := hI.below bb
  replace D := below_call D bb
  go_wp2_with fail
  with_reducible refine (refSame_calls 2 cw 2 2 Aw _ _ _ _ rw rr).mono ?_
  rintro e w2 ⟨rfl, b2⟩
  replace hI := hI.below b2
  replace D := below_call D b2
  replace rk := rk.below b2
  clear b2 bb rr rw
  rw [decide_eq_true rfl]
  have bb := below_box (w := w2) (.cells #[.string ⟨#[97]⟩, .string ⟨#[98]⟩] 9)
  have rr : Row enS 1 (w2.alloc (.cells #[.string ⟨#[97]⟩, .string ⟨#[98]⟩] 9)) (.slice (some ⟨w2.heap.size, 0, none⟩) 2 2) [⟨#[97]⟩, ⟨#[98]⟩] := (Own.lit (base := w2.heap.size) enS_len w2 _ _ 2 rfl rfl (Nat.le_refl _) (by decide)).row
  replace rk := rk.below bb
  replace hI := hI.below bb
  replace D := below_call D bb
  go_wp2_with fail
  with_reducible refine (refSame_calls 2 ck 2 2 Ak _ _ _ _ rk rr).mono ?_
  rintro e w3 ⟨rfl, b2⟩
  replace hI := hI.below b2
  replace D := below_call D b2
  clear b2 bb rr rk
  rw [decide_eq_true rfl]
  go_wp2_with fail
  with_reducible refine (ix_len hI).mono ?_
  rintro e w4 ⟨rfl, b2⟩
  replace hI := hI.below b2
  replace D := below_call D b2
  clear b2
  go_wp2_with fail
  with_reducible refine (ix_has hI ⟨#[97]⟩ ⟨#[98]⟩ (by decide) (by decide)).mono ?_
  rintro e w5 ⟨rfl, b2⟩
  replace D := below_call D b2
  rw [show inP [] ⟨#[97]⟩ ⟨#[98]⟩ = false from rfl]
  go_wp2
  go_ret
  exact ⟨rfl, D⟩
end Go.Proofs.Ytocdoddmaopdbaa
namespace Go.Proofs.Ytocdoddmaopdbaa
open Go.RowKit
namespace Held
def lst (n : Nat) (o : List Nat) (k : Nat) : Array Bool := (o.take k).foldl (fun L i => L.setIfInBounds i true) (Array.replicate n false)
theorem lst_succ (n : Nat) (o : List Nat) (k i : Nat) (h : o[k]? = some i) : (lst n o k).setIfInBounds i true = lst n o (k + 1) := by
  unfold lst
  rw [List.take_add_one, h, List.foldl_append]
  rfl
def okAt (ops : Array Oper) (o : List Nat) (k : Nat) : Bool :=
  match o[k]? with
  | some i => Region.free .any ops (lst ops.size o k) i && (Region.ready .any ops (lst ops.size o k)).contains i
  | none => false
section
variable {P : Program} {ops : Array Oper} {Q : Exit → Act → World → Prop} {S : World → Prop}
theorem start {ops0 : Array Oper} {id : Nat} {a : Act} {w : World} (o : List Nat) (n : Nat) (he : ops0 = ops) (hn : ops.size = n) (hm : P.follows .mixedOrders = true) (hS : S w.drew)
    (h : S w.drew → wpAnyH P .any ops Q S n (lst n o 0) a w.drew) : (Code.region id ops0 true).wp P Q a w := by
  subst he
  refine wp_region_held_drew hm hS fun hs => ?_
  rw [hn]
  exact h hs
theorem take {o : List Nat} {n k i : Nat} {oi : Oper} {v : Value} {fuel : Nat} {a : Act} {w : World} (hns : Region.noSelect ops = true) (h2 : okAt ops o k = true) (hn : ops.size = n) (hk : o[k]? = some i) (hi : ops.toList[i]? = some oi)
    (hQ : ∀ c a w, Q (.panic c) (a.put oi.dst v) w → Q (.panic c) a w) (hy : YieldsIf P ops S oi v a) (hS : S w)
    (h : wpAnyH P .any ops Q S fuel (lst n o (k + 1)) (a.put oi.dst v) w) : wpAnyH P .any ops Q S (fuel + 1) (lst n o k) a w := by
  subst hn
  unfold okAt at h2
  rw [hk] at h2
  simp only [Bool.and_eq_true] at h2
  refine wpAnyH_take (by simpa using hi) hns h2.1 h2.2 hQ hy hS ?_
  rw [lst_succ _ _ _ _ hk]
  exact h
theorem only {o : List Nat} {n k i : Nat} {oi : Oper} {fuel : Nat} {a : Act} {w : World} (hr : Region.ready .any ops (lst n o k) = [i]) (hk : o[k]? = some i) (hi : ops.toList[i]? = some oi) (hw : Region.wanted oi (yielded ops a.tmps) = true)
    (h : ∀ K' : Act → World → Prop, Shut (∀ a w, S w → (S w → wpAnyH P .any ops Q S fuel (lst n o (k + 1)) a w) → K' a w) → Oper.wp P oi a w K' Q) : wpAnyH P .any ops Q S (fuel + 1) (lst n o k) a w := by
  refine wpAnyH_ready hr (by simp) (AllReadyH.cons (by simpa using hi) (fun K hK => ?_) AllReadyH.nil)
  rw [if_pos hw]
  refine h K ?_
  rw [lst_succ _ _ _ _ hk] at hK
  exact hK
end
end Held
end Go.Proofs.Ytocdoddmaopdbaa
namespace Go.Proofs.Ytocdoddmaopdbaa
namespace Held
def find (n : Nat) : Code → Option (Array Oper)
  | .region id ops _ => if id == n then some ops else none
  | .seq a b => match find n a with
    | some x => some x
    | none => find n b
  | .cond _ a b => match find n a with
    | some x => some x
    | none => find n b
  | .block _ b => find n b
  | .loop b => find n b
  | .scope b => find n b
  | .rangeFunc _ _ _ b => find n b
  | _ => none
def inBody (n : Nat) : Option Code → Array Oper
  | some c => (find n c).getD #[]
  | none => #[]
end Held
end Go.Proofs.Ytocdoddmaopdbaa
namespace Go.Proofs.Ytocdoddmaopdbaa
namespace Held
structure Reg (ops : Array Oper) (o : List Nat) (n : Nat) (ks : List Nat) : Prop where
  siz : ops.size = n
  nos : Region.noSelect ops = true
  ok : (ks.all fun k => okAt ops o k) = true
theorem tk {P : Program} {ops : Array Oper} {Q : Exit → Act → World → Prop} {S : World → Prop} {o ks : List Nat} {n k i : Nat} {oi : Oper} {v : Value} {fuel : Nat} {a : Act} {w : World} (R : Reg ops o n ks) (h2 : ks.contains k = true) (hk : o[k]? = some i) (hi : ops.toList[i]? = some oi)
    (hQ : ∀ c a w, Q (.panic c) (a.put oi.dst v) w → Q (.panic c) a w) (hS : S w) (hy : YieldsIf P ops S oi v a)
    (h : wpAnyH P .any ops Q S fuel (lst n o (k + 1)) (a.put oi.dst v) w) : wpAnyH P .any ops Q S (fuel + 1) (lst n o k) a w :=
  take R.nos (List.all_eq_true.1 R.ok k (by simpa using h2)) R.siz hk hi hQ hy hS h
end Held
end Go.Proofs.Ytocdoddmaopdbaa
namespace Go.Proofs.Ytocdoddmaopdbaa
namespace Sp
structure SOrd {K : Type} (lt : K → K → Bool) : Prop where
  irr : ∀ a, lt a a = false
  tr : ∀ a b c, lt a b = true → lt b c = true → lt a c = true
  tri : ∀ a b, a ≠ b → lt a b = true ∨ lt b a = true
section
variable {α K : Type} {key : α → K} {lt : K → K → Bool}
theorem SOrd.asymm (O : SOrd lt) {a b : K} (h : lt a b = true) : lt b a = false := by
  rw [← Bool.not_eq_true]
  intro h2
  have := O.tr a b a h h2
  rw [O.irr] at this
  cases this
theorem SOrd.ne (O : SOrd lt) {a b : K} (h : lt a b = true) : a ≠ b := by
  rintro rfl
  rw [O.irr] at h
  cases h
def InOrd (key : α → K) (lt : K → K → Bool) (l : List α) : Prop := l.Pairwise fun a b => lt (key a) (key b) = true
theorem ord_ext (O : SOrd lt) : ∀ l m : List α, InOrd key lt l → InOrd key lt m → (∀ x, x ∈ l ↔ x ∈ m) → l = m
  | [], [], _, _, _ => rfl
  | [], b :: m, _, _, h => absurd ((h b).2 List.mem_cons_self) (by simp)
  | a :: l, [], _, _, h => absurd ((h a).1 List.mem_cons_self) (by simp)
  | a :: l, b :: m, hl, hm, h => by
    obtain ⟨ha, hl'⟩ := List.pairwise_cons.1 hl
    obtain ⟨hb, hm'⟩ := List.pairwise_cons.1 hm
    have hab : a = b := by
      rcases List.mem_cons.1 ((h a).1 List.mem_cons_self) with e | e
      · exact e
      · rcases List.mem_cons.1 ((h b).2 List.mem_cons_self) with e' | e'
        · exact e'.symm
        · have h1 := hb a e
          have h2 := O.asymm (ha b e')
          rw [h1] at h2
          cases h2
    subst hab
    congr 1
    refine ord_ext O l m hl' hm' fun x => ?_
    have hx := h x
    simp only [List.mem_cons] at hx
    constructor
    · intro hxl
      rcases hx.1 (.inr hxl) with e | e
      · subst e
        exact absurd rfl (O.ne (ha _ hxl))
      · exact e
    · intro hxm
      rcases hx.2 (.inr hxm) with e | e
      · subst e
        exact absurd rfl (O.ne (hb _ hxm))
      · exact e
theorem ord_key (O : SOrd lt) {l : List α} (h : InOrd key lt l) {x y : α} (hx : x ∈ l) (hy : y ∈ l) (e : key x = key y) : x = y := by
  induction l with
  | nil => cases hx
  | cons a l ih =>
    obtain ⟨ha, hl⟩ := List.pairwise_cons.1 h
    rcases List.mem_cons.1 hx with e1 | h1
    · rcases List.mem_cons.1 hy with e2 | h2
      · rw [e1, e2]
      · subst e1; exact absurd e (O.ne (ha y h2))
    · rcases List.mem_cons.1 hy with e2 | h2
      · subst e2; exact absurd e.symm (O.ne (ha x h1))
      · exact ih hl h1 h2
theorem ord_of_adj (O : SOrd lt) : ∀ l : List α, (∀ i (h : i + 1 < l.length), lt (key l[i]) (key l[i + 1]) = true) → InOrd key lt l
  | [], _ => List.Pairwise.nil
  | [a], _ => List.pairwise_singleton _ _
  | a :: b :: l, h => by
    have ih := ord_of_adj O (b :: l) (fun i hi => h (i + 1) (by simp only [List.length_cons] at hi ⊢; omega))
    have hab : lt (key a) (key b) = true := h 0 (by simp)
    refine List.pairwise_cons.2 ⟨fun y hy => ?_, ih⟩
    rcases List.mem_cons.1 hy with rfl | hy
    · exact hab
    · exact O.tr _ _ _ hab ((List.pairwise_cons.1 ih).1 y hy)
theorem adj_of_ord {l : List α} (h : InOrd key lt l) (i : Nat) (hi : i + 1 < l.length) : lt (key l[i]) (key l[i + 1]) = true :=
  List.pairwise_iff_getElem.1 h i (i + 1) (by omega) hi (by omega)
theorem ord_filter {l : List α} (p : α → Bool) (h : InOrd key lt l) : InOrd key lt (l.filter p) := List.Pairwise.filter p h
variable [DecidableEq K]
def getK (key : α → K) (l : List α) (k : K) : Option α := l.find? fun x => decide (key x = k)
def delK (key : α → K) (l : List α) (k : K) : List α := l.filter fun x => !decide (key x = k)
def insK (key : α → K) (lt : K → K → Bool) (l : List α) (x : α) : List α := l.takeWhile (fun y => lt (key y) (key x)) ++ x :: l.dropWhile (fun y => lt (key y) (key x))
def putK (key : α → K) (lt : K → K → Bool) (l : List α) (x : α) : List α := insK key lt (delK key l (key x)) x
theorem getK_mem {l : List α} {k : K} {x : α} (h : getK key l k = some x) : x ∈ l ∧ key x = k :=
  ⟨List.mem_of_find?_eq_some h, of_decide_eq_true (List.find?_some (p := fun x => decide (key x = k)) h)⟩
theorem getK_none {l : List α} {k : K} : getK key l k = none ↔ ∀ x ∈ l, key x ≠ k := by
  unfold getK
  rw [List.find?_eq_none]
  simp
theorem getK_of_mem (O : SOrd lt) {l : List α} (h : InOrd key lt l) {x : α} (hx : x ∈ l) : getK key l (key x) = some x := by
  cases hg : getK key l (key x) with
  | none => exact absurd rfl (getK_none.1 hg x hx)
  | some y =>
    obtain ⟨h1, h2⟩ := getK_mem hg
    rw [ord_key O h h1 hx h2]
theorem getK_iff (O : SOrd lt) {l : List α} (h : InOrd key lt l) (k : K) (x : α) : getK key l k = some x ↔ x ∈ l ∧ key x = k :=
  ⟨getK_mem, fun ⟨h1, h2⟩ => by rw [← h2]; exact getK_of_mem O h h1⟩
theorem delK_ord {l : List α} (h : InOrd key lt l) (k : K) : InOrd key lt (delK key l k) := List.Pairwise.filter _ h
theorem delK_mem {l : List α} {k : K} {x : α} : x ∈ delK key l k ↔ x ∈ l ∧ key x ≠ k := by
  unfold delK
  rw [List.mem_filter]
  simp
theorem getK_delK {l : List α} (k k' : K) : getK key (delK key l k) k' = if k' = k then none else getK key l k' := by
  induction l with
  | nil => unfold delK getK; simp
  | cons a l ih =>
    unfold delK getK at ih ⊢
    rw [List.filter_cons, List.find?_cons]
    by_cases h1 : key a = k
    · rw [if_neg (by simp [h1]), ih]
      by_cases h2 : k' = k
      · rw [if_pos h2, if_pos h2]
      · rw [if_neg h2, if_neg h2, decide_eq_false (fun e => h2 (e.symm.trans h1))]
    · rw [if_pos (by simp [h1]), List.find?_cons, ih]
      by_cases h3 : key a = k'
      · rw [decide_eq_true h3]
        simp only
        rw [if_neg (fun e => h1 (h3.trans e))]
      · rw [decide_eq_false h3]
theorem delK_none {l : List α} {k : K} (h : getK key l k = none) : delK key l k = l := by
  unfold delK
  rw [List.filter_eq_self]
  intro x hx
  simpa using getK_none.1 h x hx
theorem tw_dw (l : List α) (p : α → Bool) : l.takeWhile p ++ l.dropWhile p = l := List.takeWhile_append_dropWhile
theorem insK_mem {l : List α} {x y : α} : y ∈ insK key lt l x ↔ y = x ∨ y ∈ l := by
  unfold insK
  rw [List.mem_append, List.mem_cons]
  conv => rhs; rw [← tw_dw l (fun y => lt (key y) (key x)), List.mem_append]
  constructor
  · rintro (h | h | h)
    · exact .inr (.inl h)
    · exact .inl h
    · exact .inr (.inr h)
  · rintro (h | h | h)
    · exact .inr (.inl h)
    · exact .inl h
    · exact .inr (.inr h)
theorem insK_ord (O : SOrd lt) {l : List α} (h : InOrd key lt l) (x : α) (hx : ∀ y ∈ l, key y ≠ key x) : InOrd key lt (insK key lt l x) := by
  have hl := tw_dw l (fun y => lt (key y) (key x))
  unfold insK InOrd
  have h' := h
  rw [InOrd, ← hl, List.pairwise_append] at h'
  obtain ⟨h1, h2, h3⟩ := h'
  rw [List.pairwise_append]
  have hq : ∀ y ∈ l.dropWhile (fun y => lt (key y) (key x)), lt (key x) (key y) = true := by
    cases hd : l.dropWhile (fun y => lt (key y) (key x)) with
    | nil => intro y hy; cases hy
    | cons z q =>
      rw [hd] at h2
      have hz : lt (key z) (key x) = false := dropWhile_head (fun y => lt (key y) (key x)) l z (by rw [hd]; rfl)
      have hzl : z ∈ l := by rw [← hl, hd]; exact List.mem_append_right _ List.mem_cons_self
      have hxz : lt (key x) (key z) = true := by
        rcases O.tri (key z) (key x) (hx z hzl) with e | e
        · rw [hz] at e; cases e
        · exact e
      intro y hy
      rcases List.mem_cons.1 hy with rfl | hy
      · exact hxz
      · exact O.tr _ _ _ hxz ((List.pairwise_cons.1 h2).1 y hy)
  refine ⟨h1, List.pairwise_cons.2 ⟨hq, h2⟩, fun a ha b hb => ?_⟩
  have hax : lt (key a) (key x) = true := takeWhile_all _ l a ha
  rcases List.mem_cons.1 hb with rfl | hb
  · exact hax
  · exact O.tr _ _ _ hax (hq b hb)
theorem getK_insK (O : SOrd lt) {l : List α} (h : InOrd key lt l) (x : α) (hx : ∀ y ∈ l, key y ≠ key x) (k : K) : getK key (insK key lt l x) k = if k = key x then some x else getK key l k := by
  have ho := insK_ord O h x hx
  by_cases hk : k = key x
  · subst hk
    rw [if_pos rfl]
    exact getK_of_mem O ho (insK_mem.2 (.inl rfl))
  · rw [if_neg hk]
    cases hg : getK key l k with
    | none =>
      rw [getK_none] at hg ⊢
      intro y hy
      rcases insK_mem.1 hy with rfl | hy
      · exact fun e => hk e.symm
      · exact hg y hy
    | some y =>
      obtain ⟨h1, h2⟩ := getK_mem hg
      rw [getK_iff O ho]
      exact ⟨insK_mem.2 (.inr h1), h2⟩
theorem putK_ord (O : SOrd lt) {l : List α} (h : InOrd key lt l) (x : α) : InOrd key lt (putK key lt l x) :=
  insK_ord O (delK_ord h _) x fun _ hy => (delK_mem.1 hy).2
theorem getK_putK (O : SOrd lt) {l : List α} (h : InOrd key lt l) (x : α) (k : K) : getK key (putK key lt l x) k = if k = key x then some x else getK key l k := by
  unfold putK
  rw [getK_insK O (delK_ord h _) x (fun _ hy => (delK_mem.1 hy).2), getK_delK]
  by_cases hk : k = key x
  · rw [if_pos hk, if_pos hk]
  · rw [if_neg hk, if_neg hk, if_neg hk]
theorem putK_mem {l : List α} {x y : α} : y ∈ putK key lt l x ↔ y = x ∨ (y ∈ l ∧ key y ≠ key x) := by
  unfold putK
  rw [insK_mem, delK_mem]
theorem delK_len (O : SOrd lt) {l : List α} (h : InOrd key lt l) {x : α} (hx : x ∈ l) : (delK key l (key x)).length + 1 = l.length := by
  induction l with
  | nil => cases hx
  | cons a l ih =>
    obtain ⟨ha, hl⟩ := List.pairwise_cons.1 h
    unfold delK at ih ⊢
    rw [List.filter_cons]
    rcases List.mem_cons.1 hx with rfl | hx
    · rw [if_neg (by simp), List.length_cons]
      have : l.filter (fun y => !decide (key y = key x)) = l := by
        rw [List.filter_eq_self]
        intro y hy
        have := (O.ne (ha y hy)).symm
        simpa using this
      rw [this]
    · have hne : key a ≠ key x := O.ne (ha x hx)
      rw [if_pos (by simp [hne]), List.length_cons, List.length_cons, ih hl hx]
theorem set_putK (O : SOrd lt) {l : List α} (h : InOrd key lt l) (i : Nat) (hi : i < l.length) (x : α) (hx : key l[i] = key x) : l.set i x = putK key lt l x := by
  have ho : InOrd key lt (l.set i x) := by
    have h := List.pairwise_iff_getElem.1 h
    refine List.pairwise_iff_getElem.2 ?_
    intro a b ha hb hab
    rw [List.length_set] at ha hb
    rw [List.getElem_set, List.getElem_set]
    have := h a b ha hb hab
    by_cases e1 : i = a
    · subst e1
      rw [if_pos rfl, if_neg (by omega), ← hx]
      exact this
    · rw [if_neg e1]
      by_cases e2 : i = b
      · subst e2
        rw [if_pos rfl, ← hx]
        exact this
      · rw [if_neg e2]
        exact this
  refine ord_ext O _ _ ho (putK_ord O h x) fun y => ?_
  rw [putK_mem]
  constructor
  · intro hy
    obtain ⟨j, hj, rfl⟩ := List.getElem_of_mem hy
    rw [List.length_set] at hj
    rw [List.getElem_set]
    by_cases e : i = j
    · rw [if_pos e]; exact .inl rfl
    · rw [if_neg e]
      refine .inr ⟨List.getElem_mem _, fun he => ?_⟩
      have hp := List.pairwise_iff_getElem.1 h
      rcases Nat.lt_or_gt_of_ne e with hlt | hlt
      · exact O.ne (hp i j hi hj hlt) (hx.trans he.symm)
      · exact O.ne (hp j i hj hi hlt) (he.trans hx.symm)
  · rintro (rfl | ⟨hy, hne⟩)
    · exact List.mem_iff_getElem.2 ⟨i, by rw [List.length_set]; exact hi, by rw [List.getElem_set, if_pos rfl]⟩
    · obtain ⟨j, hj, rfl⟩ := List.getElem_of_mem hy
      have hij : i ≠ j := fun e => hne (by subst e; exact hx)
      exact List.mem_iff_getElem.2 ⟨j, by rw [List.length_set]; exact hj, by rw [List.getElem_set, if_neg hij]⟩
end
def idxI : Option Nat → Int
  | some i => (i : Int)
  | none => -1
theorem idx_at {α : Type} (p : α → Bool) (l : List α) (i : Nat) (hi : i < l.length) (h : ∀ j (hj : j < l.length), j < i → p l[j] = false) (hp : p l[i] = true) : l.findIdx? p = some i := by
  rw [List.findIdx?_eq_some_iff_getElem]
  exact ⟨hi, hp, fun j hj => by rw [h j (by omega) hj]; decide⟩
theorem idx_no {α : Type} (p : α → Bool) (l : List α) (h : ∀ j (hj : j < l.length), p l[j] = false) : l.findIdx? p = none := by
  rw [List.findIdx?_eq_none_iff]
  intro x hx
  obtain ⟨j, hj, rfl⟩ := List.getElem_of_mem hx
  exact h j hj
end Sp
end Go.Proofs.Ytocdoddmaopdbaa
namespace Go.Proofs.Ytocdoddmaopdbaa
namespace Sp
def getL : List UInt8 → Nat → Nat → Option (Option (Nat × Nat))
  | [], _, _ => none
  | b :: l, i, n =>
    if i = 9 ∧ 1 < b.toNat then some none
    else if 128 ≤ b.toNat then getL l (i + 1) (n + b.toNat % 128 * 128 ^ i)
    else if b.toNat = 0 ∧ 0 < i then some none
    else some (some (n + b.toNat % 128 * 128 ^ i, i + 1))
def GetAt (s : ByteArray) (m i n p : Nat) : Prop :=
  i ≤ 9 ∧ m + i ≤ s.size ∧ n < 128 ^ i ∧ p = 128 ^ i ∧ getL (s.data.toList.drop (m + i)) i n = getL (s.data.toList.drop m) 0 0
theorem GetAt.start (s : ByteArray) (m : Nat) (h : m ≤ s.size) : GetAt s m 0 0 1 := ⟨by omega, h, by simp, rfl, rfl⟩
end Sp
end Go.Proofs.Ytocdoddmaopdbaa
namespace Go.Proofs.Ytocdoddmaopdbaa
open Go.RowKit Sp
end Go.Proofs.Ytocdoddmaopdbaa
namespace Go.Proofs.Ytocdoddmaopdbaa
open Go.RowKit Sp
end Go.Proofs.Ytocdoddmaopdbaa
namespace Go.Proofs.Ytocdoddmaopdbaa
open Go.RowKit Sp
end Go.Proofs.Ytocdoddmaopdbaa
namespace Go.Proofs.Ytocdoddmaopdbaa
open Go.RowKit
namespace Sp
end Sp
end Go.Proofs.Ytocdoddmaopdbaa
namespace Go.Proofs.Ytocdoddmaopdbaa
namespace Sp
structure It where
  to : Bool
  fr : Bool
  ou : Bool
  in_ : Bool
  bl : Bool
theorem It.eq_iff (a b : It) : a = b ↔ a.to = b.to ∧ a.fr = b.fr ∧ a.ou = b.ou ∧ a.in_ = b.in_ ∧ a.bl = b.bl :=
  ⟨fun h => by subst h; exact ⟨rfl, rfl, rfl, rfl, rfl⟩, fun ⟨h1, h2, h3, h4, h5⟩ => by cases a; cases b; simp only at h1 h2 h3 h4 h5; subst h1 h2 h3 h4 h5; rfl⟩
instance : DecidableEq It := fun a b => decidable_of_iff _ (It.eq_iff a b).symm
structure En where
  o : ByteArray
  c : ByteArray
  it : It
instance : DecidableEq En := fun a b => decidable_of_iff (a.o = b.o ∧ a.c = b.c ∧ a.it = b.it) ⟨fun h => by cases a; cases b; simp only at h; obtain ⟨h1, h2, h3⟩ := h; subst h1 h2 h3; rfl, fun h => by subst h; exact ⟨rfl, rfl, rfl⟩⟩
structure Mv where
  k : Int
  u : ByteArray
  o : ByteArray
instance : DecidableEq Mv := fun a b => decidable_of_iff (a.k = b.k ∧ a.u = b.u ∧ a.o = b.o) ⟨fun h => by cases a; cases b; simp only at h; obtain ⟨h1, h2, h3⟩ := h; subst h1 h2 h3; rfl, fun h => by subst h; exact ⟨rfl, rfl, rfl⟩⟩
abbrev EnK := ByteArray × ByteArray
def keyRo (x : En) : EnK := (x.o, x.c)
def ltRo (a b : EnK) : Bool := less a.1 b.1 || (decide (a.1 = b.1) && less a.2 b.2)
theorem ltRo_ord : SOrd ltRo where
  irr a := by simp [ltRo, less_irrefl]
  tr a b c h1 h2 := by
    simp only [ltRo, Bool.or_eq_true, Bool.and_eq_true, decide_eq_true_eq] at h1 h2 ⊢
    rcases h1 with h1 | ⟨e1, h1⟩ <;> rcases h2 with h2 | ⟨e2, h2⟩
    · exact .inl (less_trans _ _ _ h1 h2)
    · rw [e2] at h1; exact .inl h1
    · rw [← e1] at h2; exact .inl h2
    · exact .inr ⟨e1.trans e2, less_trans _ _ _ h1 h2⟩
  tri a b h := by
    simp only [ltRo, Bool.or_eq_true, Bool.and_eq_true, decide_eq_true_eq]
    by_cases e : a.1 = b.1
    · have : a.2 ≠ b.2 := fun e2 => h (Prod.ext e e2)
      rcases less_total _ _ this with h2 | h2
      · exact .inl (.inr ⟨e, h2⟩)
      · exact .inr (.inr ⟨e.symm, h2⟩)
    · rcases less_total _ _ e with h2 | h2
      · exact .inl (.inl h2)
      · exact .inr (.inl h2)
def noI : It := ⟨false, false, false, false, false⟩
def emptyI (a : It) : Bool := decide (a = noI)
def fitI (a b : It) : Bool := a.to == b.fr && (a.fr == b.to && (a.ou == b.in_ && (a.in_ == b.ou && (!(a.to && a.ou) && !(b.to && b.ou)))))
def seesI (a b : It) : Bool := a.to && (!a.bl && !b.bl)
def getRo (l : List En) (o c : ByteArray) : It := match getK keyRo l (o, c) with | some x => x.it | none => noI
def hasRo (l : List En) (o c : ByteArray) : Bool := (getK keyRo l (o, c)).isSome
def ofRo (l : List En) (o : ByteArray) : List ByteArray := (l.filter fun x => decide (x.o = o)).map En.c
def seesRo (l : List En) (w c : ByteArray) : Bool := seesI (getRo l w c) (getRo l c w)
def watchRo (l : List En) (c : ByteArray) : List ByteArray := mergeS ((l.filter fun x => decide (x.c = c) && seesRo l x.o c).map En.o) []
def oneRo (l : List En) (x : En) : Bool :=
  isName x.o && (isName x.c && (!decide (x.o = x.c) && (decide ((ofRo l x.o).length ≤ 16) && (hasRo l x.c x.o && (fitI x.it (getRo l x.c x.o) && !(emptyI x.it && emptyI (getRo l x.c x.o)))))))
def adjRo : List En → Bool
  | a :: b :: l => ltRo (keyRo a) (keyRo b) && adjRo (b :: l)
  | _ => true
def mayRo (l : List En) : Bool := l.all (oneRo l) && adjRo l
theorem adjRo_iff : ∀ l : List En, adjRo l = true ↔ ∀ i (h : i + 1 < l.length), ltRo (keyRo l[i]) (keyRo l[i + 1]) = true
  | [] => by simp [adjRo]
  | [a] => by simp [adjRo]
  | a :: b :: l => by
    rw [adjRo, Bool.and_eq_true, adjRo_iff (b :: l)]
    constructor
    · rintro ⟨h1, h2⟩ i hi
      cases i with
      | zero => exact h1
      | succ i => exact h2 i (by simp only [List.length_cons] at hi ⊢; omega)
    · intro h
      exact ⟨h 0 (by simp), fun i hi => h (i + 1) (by simp only [List.length_cons] at hi ⊢; omega)⟩
theorem mayRo_iff (l : List En) : mayRo l = true ↔ (∀ s ∈ l, oneRo l s = true) ∧ ∀ i (h : i + 1 < l.length), ltRo (keyRo l[i]) (keyRo l[i + 1]) = true := by
  unfold mayRo
  rw [Bool.and_eq_true, List.all_eq_true, adjRo_iff]
abbrev OrdRo (l : List En) : Prop := InOrd keyRo ltRo l
theorem mayRo_ord {l : List En} (h : mayRo l = true) : OrdRo l := ord_of_adj ltRo_ord l ((mayRo_iff l).1 h).2
theorem getRo_some {l : List En} {o c : ByteArray} {x : En} (h : getK keyRo l (o, c) = some x) : getRo l o c = x.it := by unfold getRo; rw [h]
theorem getRo_none {l : List En} {o c : ByteArray} (h : getK keyRo l (o, c) = none) : getRo l o c = noI := by unfold getRo; rw [h]
theorem getRo_at (l : List En) (o c : ByteArray) (i : Nat) (hi : i < l.length) (h : ∀ j (hj : j < l.length), j < i → keyRo l[j] ≠ (o, c)) (hq : keyRo l[i] = (o, c)) : getRo l o c = l[i].it ∧ hasRo l o c = true := by
  have e : getK keyRo l (o, c) = some l[i] := by
    unfold getK
    rw [List.find?_eq_some_iff_getElem]
    exact ⟨decide_eq_true hq, i, hi, rfl, fun j hj => by simpa using h j (by omega) hj⟩
  exact ⟨getRo_some e, by unfold hasRo; rw [e]; rfl⟩
theorem getRo_no (l : List En) (o c : ByteArray) (h : ∀ j (hj : j < l.length), keyRo l[j] ≠ (o, c)) : getRo l o c = noI ∧ hasRo l o c = false := by
  have e : getK keyRo l (o, c) = none := by
    rw [getK_none]
    intro x hx
    obtain ⟨j, hj, rfl⟩ := List.getElem_of_mem hx
    exact h j hj
  exact ⟨getRo_none e, by unfold hasRo; rw [e]; rfl⟩
theorem hasRo_mem {l : List En} {o c : ByteArray} : hasRo l o c = true ↔ ∃ x ∈ l, x.o = o ∧ x.c = c := by
  unfold hasRo
  rw [Option.isSome_iff_exists]
  constructor
  · rintro ⟨x, hx⟩
    obtain ⟨h1, h2⟩ := getK_mem hx
    exact ⟨x, h1, congrArg Prod.fst h2, congrArg Prod.snd h2⟩
  · rintro ⟨x, hx, h1, h2⟩
    cases h : getK keyRo l (o, c) with
    | some y => exact ⟨y, rfl⟩
    | none => exact absurd (show keyRo x = (o, c) from Prod.ext h1 h2) (getK_none.1 h x hx)
theorem ofRo_mem {l : List En} {o c : ByteArray} : c ∈ ofRo l o ↔ ∃ x ∈ l, x.o = o ∧ x.c = c := by
  unfold ofRo
  simp only [List.mem_map, List.mem_filter, decide_eq_true_eq]
  exact ⟨fun ⟨x, ⟨h1, h2⟩, h3⟩ => ⟨x, h1, h2, h3⟩, fun ⟨x, h1, h2, h3⟩ => ⟨x, ⟨h1, h2⟩, h3⟩⟩
theorem sees_has {l : List En} {w c : ByteArray} (h : seesRo l w c = true) : hasRo l w c = true := by
  unfold seesRo seesI getRo at h
  unfold hasRo
  cases hg : getK keyRo l (w, c) with
  | some x => rfl
  | none => rw [hg] at h; simp [noI] at h
theorem watchRo_mem {l : List En} {w c : ByteArray} : w ∈ watchRo l c ↔ seesRo l w c = true := by
  unfold watchRo
  rw [mergeS_mem]
  simp only [List.mem_map, List.mem_filter, decide_eq_true_eq, Bool.and_eq_true, List.not_mem_nil, or_false]
  constructor
  · rintro ⟨x, ⟨_, _, h⟩, rfl⟩; exact h
  · intro h
    obtain ⟨x, hx, rfl, rfl⟩ := hasRo_mem.1 (sees_has h)
    exact ⟨x, ⟨hx, rfl, h⟩, rfl⟩
end Sp
end Go.Proofs.Ytocdoddmaopdbaa
namespace Go.Proofs.Ytocdoddmaopdbaa
namespace Sp
theorem side {l : List En} (h : mayRo l = true) {x : En} (hx : x ∈ l) : hasRo l x.c x.o = true ∧ fitI x.it (getRo l x.c x.o) = true ∧ getRo l x.o x.c = x.it := by
  have h1 := ((mayRo_iff l).1 h).1 x hx
  unfold oneRo at h1
  simp only [Bool.and_eq_true] at h1
  exact ⟨h1.2.2.2.2.1, h1.2.2.2.2.2.1, getRo_some (show getK keyRo l (keyRo x) = some x from getK_of_mem ltRo_ord (mayRo_ord h) hx)⟩
theorem watch_sorted (l : List En) (c : ByteArray) : Sorted (watchRo l c) := mergeS_sorted _ _
end Sp
end Go.Proofs.Ytocdoddmaopdbaa
namespace Go.Proofs.Ytocdoddmaopdbaa
namespace Sp
def cntL (l : List ByteArray) (s : ByteArray) : Nat := (l.filter fun x => decide (x = s)).length
theorem cntL_snoc (l : List ByteArray) (s t : ByteArray) : cntL (l ++ [s]) t = cntL l t + (if s = t then 1 else 0) := by
  unfold cntL
  rw [List.filter_append, List.length_append]
  by_cases e : s = t
  · rw [if_pos e, List.filter_cons, if_pos (decide_eq_true e)]; rfl
  · rw [if_neg e, List.filter_cons, if_neg (by simpa using e)]; rfl
theorem ofRo_cnt (o : ByteArray) : ∀ l : List En, (ofRo l o).length = cntL (l.map En.o) o
  | [] => rfl
  | x :: l => by
    have ih := ofRo_cnt o l
    unfold ofRo cntL at ih ⊢
    rw [List.length_map] at ih ⊢
    rw [List.map_cons, List.filter_cons, List.filter_cons]
    by_cases e : x.o = o
    · rw [if_pos (decide_eq_true e), if_pos (decide_eq_true e), List.length_cons, List.length_cons, ih]
    · rw [if_neg (by simpa using e), if_neg (by simpa using e), ih]
theorem cntL_take (l : List En) (o : ByteArray) (i : Nat) : cntL ((l.take i).map En.o) o ≤ cntL (l.map En.o) o := by
  unfold cntL
  exact ((List.take_sublist i l).map En.o).filter _ |>.length_le
def condRo (l : List En) (x : En) : Bool :=
  isName x.o && (isName x.c && (!decide (x.o = x.c) && (hasRo l x.c x.o && (fitI x.it (getRo l x.c x.o) && !(emptyI x.it && emptyI (getRo l x.c x.o))))))
theorem oneRo_eq (l : List En) (x : En) : oneRo l x = (condRo l x && decide ((ofRo l x.o).length ≤ 16)) := by
  unfold oneRo condRo
  cases isName x.o <;> cases isName x.c <;> cases decide (x.o = x.c) <;> cases decide ((ofRo l x.o).length ≤ 16) <;> cases hasRo l x.c x.o <;> cases fitI x.it (getRo l x.c x.o) <;> simp
theorem mayRo_no_one {l : List En} {x : En} (hx : x ∈ l) (h : oneRo l x = false) : mayRo l = false := by
  rw [← Bool.not_eq_true, mayRo_iff]
  intro h'
  rw [h'.1 x hx] at h
  cases h
theorem mayRo_no_cond {l : List En} (i : Nat) (hi : i < l.length) (h : condRo l l[i] = false) : mayRo l = false :=
  mayRo_no_one (List.getElem_mem hi) (by rw [oneRo_eq, h]; rfl)
theorem mayRo_no_cnt {l : List En} (i k : Nat) (hi : i < l.length) (h : 16 < cntL ((l.take k).map En.o) l[i].o) : mayRo l = false :=
  mayRo_no_one (List.getElem_mem hi) (by
    rw [oneRo_eq, ofRo_cnt, decide_eq_false (by have := cntL_take l l[i].o k; omega), Bool.and_false])
theorem mayRo_no_adj {l : List En} (i : Nat) (h : i + 1 < l.length) (hn : ltRo (keyRo l[i]) (keyRo l[i + 1]) = false) : mayRo l = false := by
  rw [← Bool.not_eq_true, mayRo_iff]
  intro h'
  rw [h'.2 i h] at hn
  cases hn
theorem mayRo_yes {l : List En} (h1 : ∀ o, cntL (l.map En.o) o ≤ 16) (h2 : ∀ j (h : j < l.length), condRo l l[j] = true) (h3 : ∀ j (h : j + 1 < l.length), ltRo (keyRo l[j]) (keyRo l[j + 1]) = true) : mayRo l = true := by
  rw [mayRo_iff]
  refine ⟨fun s hs => ?_, h3⟩
  obtain ⟨j, hj, rfl⟩ := List.getElem_of_mem hs
  rw [oneRo_eq, h2 j hj, ofRo_cnt, decide_eq_true (h1 _)]
  rfl
end Sp
end Go.Proofs.Ytocdoddmaopdbaa
namespace Go.Proofs.Ytocdoddmaopdbaa
namespace Sp
def actI (a b : It) (k : Int) : It × It × Int :=
  if fitI a b = false then (a, b, 1)
  else if k = 1 then (if a.bl || b.bl then (a, b, 8) else if a.to || a.ou then (a, b, 7) else (⟨a.to, a.fr, true, a.in_, a.bl⟩, ⟨b.to, b.fr, b.ou, true, b.bl⟩, 0))
  else if k = 2 then (if a.bl || b.bl then (a, b, 8) else if a.in_ then (⟨a.to, true, a.ou, false, a.bl⟩, ⟨true, b.fr, false, b.in_, b.bl⟩, 0) else (a, b, 7))
  else if k = 3 then (if a.to || a.ou then (⟨false, a.fr, false, a.in_, a.bl⟩, ⟨b.to, false, b.ou, false, b.bl⟩, 0) else (a, b, 7))
  else if k = 4 then (if a.fr || a.in_ then (⟨a.to, false, a.ou, false, a.bl⟩, ⟨false, b.fr, false, b.in_, b.bl⟩, 0) else (a, b, 7))
  else if k = 5 then (if a.bl then (a, b, 7) else (⟨a.to, a.fr, a.ou, a.in_, true⟩, b, 0))
  else if k = 6 then (if a.bl then (⟨a.to, a.fr, a.ou, a.in_, false⟩, b, 0) else (a, b, 7))
  else (a, b, 1)
def setRo (l : List En) (x : En) (keep : Bool) : List En :=
  if keep then (delK keyRo l (keyRo x)).takeWhile (fun y => !ltRo (keyRo x) (keyRo y)) ++ x :: (delK keyRo l (keyRo x)).dropWhile (fun y => !ltRo (keyRo x) (keyRo y)) else delK keyRo l (keyRo x)
def okDo (l : List En) (k : Int) (u o : ByteArray) : Bool := mayRo l && (isName u && (isName o && (!decide (u = o) && (decide (1 ≤ k) && decide (k ≤ 6)))))
def fullRo (l : List En) (u o : ByteArray) : Bool := !hasRo l u o && (decide (16 ≤ (ofRo l u).length) || decide (16 ≤ (ofRo l o).length))
def doRo (l : List En) (k : Int) (u o : ByteArray) : List En × Int :=
  if okDo l k u o = false then (l, 1)
  else
    let r := actI (getRo l u o) (getRo l o u) k
    if r.2.2 ≠ 0 then (l, r.2.2)
    else if fullRo l u o = true then (l, 5)
    else
      let keep := !(emptyI r.1 && emptyI r.2.1)
      (setRo (setRo l ⟨u, o, r.1⟩ keep) ⟨o, u, r.2.1⟩ keep, 0)
theorem setRo_put {l : List En} (h : OrdRo l) (x : En) : setRo l x true = putK keyRo ltRo l x := by
  unfold setRo putK insK
  rw [if_pos rfl]
  have hd := delK_ord (key := keyRo) (lt := ltRo) h (keyRo x)
  have e : ∀ m : List En, (∀ y ∈ m, keyRo y ≠ keyRo x) → m.takeWhile (fun y => !ltRo (keyRo x) (keyRo y)) = m.takeWhile (fun y => ltRo (keyRo y) (keyRo x)) ∧ m.dropWhile (fun y => !ltRo (keyRo x) (keyRo y)) = m.dropWhile (fun y => ltRo (keyRo y) (keyRo x)) := by
    intro m hm
    induction m with
    | nil => exact ⟨rfl, rfl⟩
    | cons y m ih =>
      have hy := hm y (List.mem_cons_self ..)
      have e1 : (!ltRo (keyRo x) (keyRo y)) = ltRo (keyRo y) (keyRo x) := by
        rcases ltRo_ord.tri _ _ hy with h1 | h1
        · rw [h1, ltRo_ord.asymm h1]; rfl
        · rw [h1, ltRo_ord.asymm h1]; rfl
      have ih' := ih fun z hz => hm z (List.mem_cons_of_mem _ hz)
      rw [List.takeWhile_cons, List.takeWhile_cons, List.dropWhile_cons, List.dropWhile_cons, e1]
      cases ltRo (keyRo y) (keyRo x) with
      | true => simp only [if_true]; exact ⟨by rw [ih'.1], ih'.2⟩
      | false => exact ⟨rfl, rfl⟩
  obtain ⟨e1, e2⟩ := e (delK keyRo l (keyRo x)) fun y hy => (delK_mem.1 hy).2
  rw [e1, e2]
theorem setRo_del (l : List En) (x : En) : setRo l x false = delK keyRo l (keyRo x) := by unfold setRo; rw [if_neg (by simp)]
theorem setRo_ord {l : List En} (h : OrdRo l) (x : En) (keep : Bool) : OrdRo (setRo l x keep) := by
  cases keep with
  | true => rw [setRo_put h]; exact putK_ord ltRo_ord h x
  | false => rw [setRo_del]; exact delK_ord h _
end Sp
end Go.Proofs.Ytocdoddmaopdbaa
namespace Go.Proofs.Ytocdoddmaopdbaa
namespace Sp
theorem doRo_err {l : List En} {k : Int} {u o : ByteArray} {r : List En} {e : Int} (h : doRo l k u o = (r, e)) (he : e ≠ 0) : r = l := by
  unfold doRo at h
  split at h
  · injection h with h1 h2; exact h1.symm
  · simp only at h
    split at h
    · injection h with h1 h2; exact h1.symm
    · split at h
      · injection h with h1 h2; exact h1.symm
      · injection h with h1 h2; exact absurd h2.symm he
theorem doRo_ok {l : List En} {k : Int} {u o : ByteArray} {r : List En} (h : doRo l k u o = (r, 0)) : okDo l k u o = true ∧ ∃ a b : It, actI (getRo l u o) (getRo l o u) k = (a, b, 0) ∧ r = setRo (setRo l ⟨u, o, a⟩ (!(emptyI a && emptyI b))) ⟨o, u, b⟩ (!(emptyI a && emptyI b)) := by
  unfold doRo at h
  split at h
  · injection h with h1 h2; exact absurd h2 (by decide)
  · rename_i hok
    refine ⟨by simpa using hok, ?_⟩
    obtain ⟨a, b, e, hact⟩ : ∃ a b e, actI (getRo l u o) (getRo l o u) k = (a, b, e) := ⟨_, _, _, rfl⟩
    rw [hact] at h
    simp only at h
    split at h
    · rename_i he
      injection h with h1 h2
      exact absurd h2 he
    · rename_i he
      have he0 : e = 0 := Decidable.not_not.1 he
      subst he0
      split at h
      · injection h with h1 h2; exact absurd h2 (by decide)
      · injection h with h1 h2
        exact ⟨a, b, hact, h1.symm⟩
theorem getK_setRo {l : List En} (h : OrdRo l) (x : En) (keep : Bool) (k : EnK) (hk : k ≠ keyRo x) : getK keyRo (setRo l x keep) k = getK keyRo l k := by
  cases keep with
  | true => rw [setRo_put h, getK_putK ltRo_ord h, if_neg hk]
  | false => rw [setRo_del, getK_delK, if_neg hk]
theorem getRo_setRo {l : List En} (h : OrdRo l) (x : En) (keep : Bool) (p q : ByteArray) (hk : (p, q) ≠ keyRo x) : getRo (setRo l x keep) p q = getRo l p q := by
  unfold getRo
  rw [getK_setRo h x keep _ hk]
theorem filter_setRo (l : List En) (x : En) (keep : Bool) (f : En → Bool) (hx : ∀ y : En, keyRo y = keyRo x → f y = false) : (setRo l x keep).filter f = l.filter f := by
  have h1 : (delK keyRo l (keyRo x)).filter f = l.filter f := by
    unfold delK
    rw [List.filter_filter]
    refine List.filter_congr fun y _ => ?_
    by_cases e : keyRo y = keyRo x
    · rw [hx y e, Bool.false_and]
    · rw [decide_eq_false e, Bool.not_false, Bool.and_true]
  unfold setRo
  split
  · rw [List.filter_append, List.filter_cons, hx x rfl, if_neg (by simp), ← List.filter_append, tw_dw, h1]
  · exact h1
theorem others_get {l : List En} (hm : mayRo l = true) {k : Int} {u o : ByteArray} {r : List En} (h : doRo l k u o = (r, 0)) {p q : ByteArray} (h1 : ¬ (p = u ∧ q = o)) (h2 : ¬ (q = u ∧ p = o)) : getRo r p q = getRo l p q := by
  obtain ⟨_, a, b, _, rfl⟩ := doRo_ok h
  rw [getRo_setRo (setRo_ord (mayRo_ord hm) _ _) _ _ _ _ (fun e => h2 ⟨congrArg Prod.snd e, congrArg Prod.fst e⟩), getRo_setRo (mayRo_ord hm) _ _ _ _ (fun e => h1 ⟨congrArg Prod.fst e, congrArg Prod.snd e⟩)]
end Sp
end Go.Proofs.Ytocdoddmaopdbaa
namespace Go.Proofs.Ytocdoddmaopdbaa
namespace Sp
theorem fitI_symm (a b : It) : fitI a b = fitI b a := by
  obtain ⟨a1, a2, a3, a4, a5⟩ := a
  obtain ⟨b1, b2, b3, b4, b5⟩ := b
  simp only [fitI]
  cases a1 <;> cases a2 <;> cases a3 <;> cases a4 <;> cases b1 <;> cases b2 <;> cases b3 <;> cases b4 <;> rfl
theorem actI_fit {x y a b : It} {k : Int} (h : actI x y k = (a, b, 0)) : fitI a b = true ∧ ¬ (a = x ∧ b = y) := by
  obtain ⟨x1, x2, x3, x4, x5⟩ := x
  obtain ⟨y1, y2, y3, y4, y5⟩ := y
  unfold actI at h
  cases hf : fitI ⟨x1, x2, x3, x4, x5⟩ ⟨y1, y2, y3, y4, y5⟩ with
  | false => rw [hf] at h; simp at h
  | true =>
    rw [hf] at h
    simp only [Bool.true_eq_false, if_false] at h
    simp only [fitI, Bool.and_eq_true, beq_iff_eq] at hf
    obtain ⟨rfl, rfl, rfl, rfl, h5, h6⟩ := hf
    split at h
    · cases x5 <;> cases y5 <;> cases x1 <;> cases x3 <;> simp at h
      obtain ⟨rfl, rfl⟩ := h
      cases x2 <;> cases x4 <;> simp_all [fitI]
    · split at h
      · cases x5 <;> cases y5 <;> cases x4 <;> simp at h
        obtain ⟨rfl, rfl⟩ := h
        cases x1 <;> cases x2 <;> cases x3 <;> simp_all [fitI]
      · split at h
        · cases x1 <;> cases x3 <;> simp at h <;> obtain ⟨rfl, rfl⟩ := h <;> cases x2 <;> cases x4 <;> simp_all [fitI]
        · split at h
          · cases x2 <;> cases x4 <;> simp at h <;> obtain ⟨rfl, rfl⟩ := h <;> cases x1 <;> cases x3 <;> simp_all [fitI]
          · split at h
            · cases x5 <;> simp at h
              obtain ⟨rfl, rfl⟩ := h
              cases x1 <;> cases x2 <;> cases x3 <;> cases x4 <;> simp_all [fitI]
            · split at h
              · cases x5 <;> simp at h
                obtain ⟨rfl, rfl⟩ := h
                cases x1 <;> cases x2 <;> cases x3 <;> cases x4 <;> simp_all [fitI]
              · simp at h
theorem doRo_get {l : List En} (hm : OrdRo l) {u o : ByteArray} (huo : u ≠ o) (a b : It) (keep : Bool) (k : EnK) :
    getK keyRo (setRo (setRo l ⟨u, o, a⟩ keep) ⟨o, u, b⟩ keep) k = if k = (o, u) then (if keep then some ⟨o, u, b⟩ else none) else if k = (u, o) then (if keep then some ⟨u, o, a⟩ else none) else getK keyRo l k := by
  have e1 : keyRo ⟨u, o, a⟩ = (u, o) := rfl
  have e2 : keyRo ⟨o, u, b⟩ = (o, u) := rfl
  cases keep with
  | true =>
    rw [setRo_put (setRo_ord hm _ _), setRo_put hm, getK_putK ltRo_ord (putK_ord ltRo_ord hm _), getK_putK ltRo_ord hm, e1, e2]
    simp
  | false => rw [setRo_del, setRo_del, getK_delK, getK_delK, e1, e2]; simp
theorem ofRo_count (l : List En) (x : En) (p : ByteArray) (h : p ≠ x.o) (keep : Bool) : ofRo (setRo l x keep) p = ofRo l p := by
  unfold ofRo
  rw [filter_setRo _ _ _ _ fun y e => decide_eq_false fun e2 => h (e2.symm.trans (congrArg Prod.fst e))]
theorem ofRo_len_set {l : List En} (hm : OrdRo l) (x : En) (keep : Bool) : (ofRo (setRo l x keep) x.o).length ≤ (ofRo l x.o).length + (if hasRo l x.o x.c then 0 else 1) := by
  have hd : ((delK keyRo l (keyRo x)).filter fun y => decide (y.o = x.o)) = delK keyRo (l.filter fun y => decide (y.o = x.o)) (keyRo x) := by
    unfold delK
    rw [List.filter_filter, List.filter_filter]
    refine List.filter_congr fun y _ => ?_
    rw [Bool.and_comm]
  have hle : (delK keyRo (l.filter fun y => decide (y.o = x.o)) (keyRo x)).length ≤ (l.filter fun y => decide (y.o = x.o)).length := List.length_filter_le _ _
  unfold ofRo
  rw [List.length_map, List.length_map]
  cases keep with
  | false => rw [setRo_del, hd]; omega
  | true =>
    have hs : ((setRo l x true).filter fun y => decide (y.o = x.o)).length = (delK keyRo (l.filter fun y => decide (y.o = x.o)) (keyRo x)).length + 1 := by
      rw [← hd]
      unfold setRo
      rw [if_pos rfl, List.filter_append, List.filter_cons, if_pos (by simp), List.length_append, List.length_cons]
      have := congrArg List.length (congrArg (List.filter fun y : En => decide (y.o = x.o)) (tw_dw (delK keyRo l (keyRo x)) (fun y => !ltRo (keyRo x) (keyRo y))))
      rw [List.filter_append, List.length_append] at this
      omega
    rw [hs]
    cases hh : hasRo l x.o x.c with
    | false => simp; exact hle
    | true =>
      obtain ⟨y, hy, h1, h2⟩ := hasRo_mem.1 hh
      have hyf : y ∈ l.filter fun y => decide (y.o = x.o) := List.mem_filter.2 ⟨hy, decide_eq_true h1⟩
      have hk : keyRo y = keyRo x := Prod.ext h1 h2
      have := delK_len ltRo_ord (ord_filter (fun y : En => decide (y.o = x.o)) hm) hyf
      rw [hk] at this
      simp
      omega
theorem hasRo_get {l m : List En} {p q : ByteArray} (h : getK keyRo l (p, q) = getK keyRo m (p, q)) : hasRo l p q = hasRo m p q ∧ getRo l p q = getRo m p q := by
  unfold hasRo getRo
  rw [h]
  exact ⟨rfl, rfl⟩
theorem of_le {l : List En} (hm : mayRo l = true) (p : ByteArray) : (ofRo l p).length ≤ 16 := by
  cases he : ofRo l p with
  | nil => simp
  | cons c cs =>
    have : c ∈ ofRo l p := by rw [he]; exact List.mem_cons_self ..
    obtain ⟨x, hx, rfl, _⟩ := ofRo_mem.1 this
    have h1 := ((mayRo_iff l).1 hm).1 x hx
    unfold oneRo at h1
    simp only [Bool.and_eq_true, decide_eq_true_eq] at h1
    rw [← he]
    exact h1.2.2.2.1
theorem okDo_all {l : List En} {k : Int} {u o : ByteArray} (h : okDo l k u o = true) : mayRo l = true ∧ isName u = true ∧ isName o = true ∧ u ≠ o ∧ 1 ≤ k ∧ k ≤ 6 := by
  unfold okDo at h
  simp only [Bool.and_eq_true, Bool.not_eq_true', decide_eq_false_iff_not, decide_eq_true_eq] at h
  exact ⟨h.1, h.2.1, h.2.2.1, h.2.2.2.1, h.2.2.2.2.1, h.2.2.2.2.2⟩
theorem doRo_room {l : List En} {k : Int} {u o : ByteArray} {r : List En} (h : doRo l k u o = (r, 0)) : fullRo l u o = false := by
  unfold doRo at h
  split at h
  · injection h with h1 h2; exact absurd h2 (by decide)
  · simp only at h
    split at h
    · rename_i he
      injection h with h1 h2
      exact absurd h2 he
    · split at h
      · injection h with h1 h2; exact absurd h2 (by decide)
      · rename_i hf
        simpa using hf
theorem hasRo_sides {l : List En} (hm : mayRo l = true) (u o : ByteArray) : hasRo l u o = hasRo l o u := by
  rw [Bool.eq_iff_iff]
  constructor
  · intro h
    obtain ⟨x, hx, rfl, rfl⟩ := hasRo_mem.1 h
    exact (side hm hx).1
  · intro h
    obtain ⟨x, hx, rfl, rfl⟩ := hasRo_mem.1 h
    exact (side hm hx).1
theorem doRo_may {l : List En} {k : Int} {u o : ByteArray} {r : List En} (h : doRo l k u o = (r, 0)) : mayRo r = true := by
  have hroom := doRo_room h
  obtain ⟨hok, a, b, hact, hr⟩ := doRo_ok h
  obtain ⟨hm, hu, ho, huo, _, _⟩ := okDo_all hok
  obtain ⟨hfit, _⟩ := actI_fit hact
  have hord := mayRo_ord hm
  obtain ⟨keep, hk0⟩ : ∃ x, (!(emptyI a && emptyI b)) = x := ⟨_, rfl⟩
  rw [hk0] at hr
  have hg := fun k => (congrArg (fun m => getK keyRo m k) hr).trans (doRo_get hord huo a b keep k)
  have hro : OrdRo r := by rw [hr]; exact setRo_ord (setRo_ord hord _ _) _ _
  have hlen : ∀ p, (ofRo r p).length ≤ 16 := by
    intro p
    have h0 := of_le hm p
    unfold fullRo at hroom
    have hsd := hasRo_sides hm u o
    by_cases hpo : p = o
    · subst hpo
      have h2 := ofRo_len_set (setRo_ord hord ⟨u, p, a⟩ keep) ⟨p, u, b⟩ keep
      have h3 := ofRo_count l ⟨u, p, a⟩ p (fun e => huo e.symm) keep
      rw [hr]
      simp only at h2
      rw [h3] at h2
      have h4 : hasRo (setRo l ⟨u, p, a⟩ keep) p u = hasRo l p u := (hasRo_get (getK_setRo hord ⟨u, p, a⟩ keep (p, u) (fun e => huo (show u = p from (congrArg Prod.fst e).symm)))).1
      rw [h4] at h2
      cases hh : hasRo l p u with
      | true => rw [hh] at h2; simp at h2; omega
      | false =>
        rw [hsd, hh] at hroom
        rw [hh] at h2
        simp at hroom h2
        omega
    · by_cases hpu : p = u
      · subst hpu
        rw [hr, ofRo_count _ _ _ hpo]
        have h2 := ofRo_len_set hord ⟨p, o, a⟩ keep
        simp only at h2
        cases hh : hasRo l p o with
        | true => rw [hh] at h2; simp at h2; omega
        | false =>
          rw [hh] at hroom h2
          simp at hroom h2
          omega
      · rw [hr, ofRo_count _ _ _ hpo, ofRo_count _ _ _ hpu]
        exact h0
  have hou : ((o, u) : EnK) ≠ (u, o) := fun e => huo (congrArg Prod.fst e).symm
  refine (mayRo_iff r).2 ⟨fun s hs => ?_, adj_of_ord hro⟩
  have hgs := getK_of_mem ltRo_ord hro hs
  rw [hg] at hgs
  unfold oneRo
  simp only [Bool.and_eq_true, decide_eq_true_eq, Bool.not_eq_true']
  by_cases k1 : keyRo s = (o, u)
  · rw [if_pos k1] at hgs
    cases keep with
    | false => simp at hgs
    | true =>
      simp at hgs
      have hs2 := hg (u, o)
      rw [if_neg (Ne.symm hou), if_pos rfl, if_pos rfl] at hs2
      have hg2 : getRo r u o = a := getRo_some hs2
      have hh2 : hasRo r u o = true := by unfold hasRo; rw [hs2]; rfl
      subst hgs
      simp only
      rw [hg2]
      refine ⟨ho, hu, decide_eq_false (fun e => huo e.symm), hlen _, hh2, by rw [fitI_symm]; exact hfit, ?_⟩
      rw [Bool.not_eq_true'] at hk0
      rw [Bool.and_comm]; exact hk0
  · rw [if_neg k1] at hgs
    by_cases k2 : keyRo s = (u, o)
    · rw [if_pos k2] at hgs
      cases keep with
      | false => simp at hgs
      | true =>
        simp at hgs
        have hs2 := hg (o, u)
        rw [if_pos rfl, if_pos rfl] at hs2
        have hg2 : getRo r o u = b := getRo_some hs2
        have hh2 : hasRo r o u = true := by unfold hasRo; rw [hs2]; rfl
        subst hgs
        simp only
        rw [hg2]
        rw [Bool.not_eq_true'] at hk0
        exact ⟨hu, ho, decide_eq_false huo, hlen _, hh2, hfit, hk0⟩
    · rw [if_neg k2] at hgs
      obtain ⟨hsl, _⟩ := getK_mem hgs
      have h1 := ((mayRo_iff l).1 hm).1 s hsl
      unfold oneRo at h1
      simp only [Bool.and_eq_true, decide_eq_true_eq, Bool.not_eq_true'] at h1
      have hs3 := hg (s.c, s.o)
      rw [if_neg (fun e => k2 (Prod.ext (congrArg Prod.snd e) (congrArg Prod.fst e))), if_neg (fun e => k1 (Prod.ext (congrArg Prod.snd e) (congrArg Prod.fst e)))] at hs3
      obtain ⟨h3, h4⟩ := hasRo_get hs3
      rw [h3, h4]
      exact ⟨h1.1, h1.2.1, h1.2.2.1, hlen _, h1.2.2.2.2.1, h1.2.2.2.2.2.1, h1.2.2.2.2.2.2⟩
end Sp
end Go.Proofs.Ytocdoddmaopdbaa
namespace Go.Proofs.Ytocdoddmaopdbaa
open Go.RowKit
open Sp
abbrev vaIt (x : It) : Value := .agg #[.bool x.to, .bool x.fr, .bool x.ou, .bool x.in_, .bool x.bl]
set_option maxHeartbeats 8000000 in
set_option maxRecDepth 100000 in
theorem eqlIt (a_ b_ c_ d_ e_ a_' b_' c_' d_' e_' : Bool) (W : World) :
    (binOp .eql 63 (.agg #[.bool a_, .bool b_, .bool c_, .bool d_, .bool e_]) (.agg #[.bool a_', .bool b_', .bool c_', .bool d_', .bool e_'])).run Try.prog W = .ok (.bool ((a_ == a_' && (b_ == b_' && (c_ == c_' && (d_ == d_' && (e_ == e_'))))))) W := by
  cases h0 : a_ == a_'
  · simp [go_sem, h0]
  cases h1 : b_ == b_'
  · simp [go_sem, h0, h1]
  cases h2 : c_ == c_'
  · simp [go_sem, h0, h1, h2]
  cases h3 : d_ == d_'
  · simp [go_sem, h0, h1, h2, h3]
  cases h4 : e_ == e_' <;> simp [go_sem, h0, h1, h2, h3, h4]
theorem eqvIt (a_ b_ c_ d_ e_ a_' b_' c_' d_' e_' : Bool) : (a_ == a_' && (b_ == b_' && (c_ == c_' && (d_ == d_' && (e_ == e_'))))) = decide ((⟨a_, b_, c_, d_, e_⟩ : It) = ⟨a_', b_', c_', d_', e_'⟩) := by
  rw [Bool.eq_iff_iff, decide_eq_true_eq]
  simp only [Bool.and_eq_true, beq_iff_eq, It.mk.injEq]
end Go.Proofs.Ytocdoddmaopdbaa
namespace Go.Proofs.Ytocdoddmaopdbaa
open Go.RowKit
open Sp
abbrev agI (a b c d e : Bool) : Value := .agg #[.bool a, .bool b, .bool c, .bool d, .bool e]
abbrev agP (a b c d e a' b' c' d' e' : Bool) : Value := .agg #[.bool a, .bool b, .bool c, .bool d, .bool e, .bool a', .bool b', .bool c', .bool d', .bool e']
set_option maxHeartbeats 8000000 in
set_option maxRecDepth 100000 in
theorem blocked_calls (a b c d e a' b' c' d' e' : Bool) (w : World) :
    Calls Try.prog 62 #[agP a b c d e a' b' c' d' e'] w fun x w' => x = .returned (.bool (e || e')) ∧ Below w.heap.size w w' := by
  have hB := below_box (w := w) (.cells #[.bool a, .bool b, .bool c, .bool d, .bool e, .bool a', .bool b', .bool c', .bool d', .bool e'] 90)
  go_enter Try.func62, Try.ntmps62
  cases e <;> cases e'
  all_goals go_wp2
  all_goals go_ret
  all_goals exact ⟨rfl, hB⟩
set_option maxHeartbeats 8000000 in
set_option maxRecDepth 100000 in
theorem fits_calls (a b c d e a' b' c' d' e' : Bool) (w : World) :
    Calls Try.prog 56 #[agP a b c d e a' b' c' d' e'] w fun x w' => x = .returned (.bool (fitI ⟨a, b, c, d, e⟩ ⟨a', b', c', d', e'⟩)) ∧ Below w.heap.size w w' := by
  go_enter Try.func56, Try.ntmps56
  go_wp2_with fail
  go_region
  all_goals go_wp2
  all_goals (try go_ret)
  all_goals (refine ⟨ret_bool ?_, ?_⟩)
  all_goals (first | exact (below_alloc0 (below_alloc0 (below_box _) _) _).drew | exact below_alloc0 (below_alloc0 (below_box _) _) _ | skip)
  all_goals (unfold fitI)
  all_goals (simp_all)
set_option maxHeartbeats 8000000 in
set_option maxRecDepth 100000 in
theorem MayI_calls (a b c d e a' b' c' d' e' : Bool) (w : World) :
    Calls Try.prog 48 #[agI a b c d e, agI a' b' c' d' e'] w fun x w' => x = .returned (.bool (fitI ⟨a, b, c, d, e⟩ ⟨a', b', c', d', e'⟩)) ∧ Below w.heap.size w w' := by
  have hB := below_alloc0 (below_box (w := w) (.cells #[.bool a, .bool b, .bool c, .bool d, .bool e] 63)) (.cells #[.bool a', .bool b', .bool c', .bool d', .bool e'] 63)
  obtain ⟨r, hr⟩ : ∃ r, fitI ⟨a, b, c, d, e⟩ ⟨a', b', c', d', e'⟩ = r := ⟨_, rfl⟩
  rw [hr]
  have HR := Lib.hid hr
  clear hr
  go_enter Try.func48, Try.ntmps48
  go_wp2_with fail
  with_reducible refine (re_ (fits_calls a b c d e a' b' c' d' e' _) (ret_bool HR.out)).mono ?_
  rintro x w1 ⟨rfl, b1⟩
  go_wp2
  go_ret
  exact ⟨rfl, below_call hB b1⟩
set_option maxHeartbeats 8000000 in
set_option maxRecDepth 100000 in
theorem EmptyI_calls (a b c d e : Bool) (w : World) :
    Calls Try.prog 40 #[agI a b c d e] w fun x w' => x = .returned (.bool (emptyI ⟨a, b, c, d, e⟩)) ∧ Below w.heap.size w w' := by
  have hB := below_box (w := w) (.cells #[.bool a, .bool b, .bool c, .bool d, .bool e] 63)
  have hc := eqlIt a b c d e false false false false false
  rw [eqvIt] at hc
  go_enter Try.func40, Try.ntmps40
  go_wp2
  go_ret
  exact ⟨ret_bool (by cases a <;> cases b <;> cases c <;> cases d <;> cases e <;> rfl), hB⟩
set_option maxHeartbeats 8000000 in
set_option maxRecDepth 100000 in
theorem SeesI_calls (a b c d e a' b' c' d' e' : Bool) (w : World) :
    Calls Try.prog 45 #[agI a b c d e, agI a' b' c' d' e'] w fun x w' => x = .returned (.bool (seesI ⟨a, b, c, d, e⟩ ⟨a', b', c', d', e'⟩)) ∧ Below w.heap.size w w' := by
  unfold seesI
  cases a with
  | false =>
    go_enter Try.func45, Try.ntmps45
    go_wp2
    go_ret
    exact ⟨rfl, below_alloc0 (below_box _) _⟩
  | true =>
    obtain ⟨r, hr⟩ : ∃ r, (e || e') = r := ⟨_, rfl⟩
    have hR : (!e && !e') = !r := by rw [← hr]; cases e <;> cases e' <;> rfl
    have HR := Lib.hid hr
    rw [show (true && (!e && !e')) = !r by rw [hR]; rfl]
    clear hr hR
    go_enter Try.func45, Try.ntmps45
    go_wp2_with fail
    with_reducible refine (re_ (blocked_calls true b c d e a' b' c' d' e' _) (ret_bool HR.out)).mono ?_
    rintro x w1 ⟨rfl, b1⟩
    go_wp2
    go_ret
    exact ⟨rfl, below_call (below_alloc0 (below_box _) _) b1⟩
end Go.Proofs.Ytocdoddmaopdbaa
namespace Go.Proofs.Ytocdoddmaopdbaa
open Go.RowKit
open Sp
abbrev bxP (a b c d e a' b' c' d' e' : Bool) : Obj := .cells #[.bool a, .bool b, .bool c, .bool d, .bool e, .bool a', .bool b', .bool c', .bool d', .bool e'] 90
theorem popen {W : World} {k : Nat} {a b c d e a' b' c' d' e' : Bool} (h : W.heap[k]? = some (bxP a b c d e a' b' c' d' e')) :
    (W.cell? ⟨k, 0, none⟩ = some (.bool a) ∧ W.cell? ⟨k, 1, none⟩ = some (.bool b) ∧ W.cell? ⟨k, 2, none⟩ = some (.bool c) ∧ W.cell? ⟨k, 3, none⟩ = some (.bool d) ∧ W.cell? ⟨k, 4, none⟩ = some (.bool e) ∧ W.cell? ⟨k, 5, none⟩ = some (.bool a') ∧ W.cell? ⟨k, 6, none⟩ = some (.bool b') ∧ W.cell? ⟨k, 7, none⟩ = some (.bool c') ∧ W.cell? ⟨k, 8, none⟩ = some (.bool d') ∧ W.cell? ⟨k, 9, none⟩ = some (.bool e')) ∧
    (W.frozen? ⟨k, 0, none⟩ = false ∧ W.frozen? ⟨k, 1, none⟩ = false ∧ W.frozen? ⟨k, 2, none⟩ = false ∧ W.frozen? ⟨k, 3, none⟩ = false ∧ W.frozen? ⟨k, 4, none⟩ = false ∧ W.frozen? ⟨k, 5, none⟩ = false ∧ W.frozen? ⟨k, 6, none⟩ = false ∧ W.frozen? ⟨k, 7, none⟩ = false ∧ W.frozen? ⟨k, 8, none⟩ = false ∧ W.frozen? ⟨k, 9, none⟩ = false) ∧ k < W.heap.size :=
  ⟨⟨by simp [World.cell?, h], by simp [World.cell?, h], by simp [World.cell?, h], by simp [World.cell?, h], by simp [World.cell?, h], by simp [World.cell?, h], by simp [World.cell?, h], by simp [World.cell?, h], by simp [World.cell?, h], by simp [World.cell?, h]⟩, ⟨by simp [World.frozen?, h], by simp [World.frozen?, h], by simp [World.frozen?, h], by simp [World.frozen?, h], by simp [World.frozen?, h], by simp [World.frozen?, h], by simp [World.frozen?, h], by simp [World.frozen?, h], by simp [World.frozen?, h], by simp [World.frozen?, h]⟩, (Array.getElem?_eq_some_iff.1 h).1⟩
set_option maxHeartbeats 8000000 in
set_option maxRecDepth 100000 in
theorem in_calls (a b c d e a' b' c' d' e' : Bool) (x y : Bool) (g : Nat) (w : World) (hg : w.heap[g]? = some (bxP a b c d e a' b' c' d' e')) :
    Calls Try.prog 68 #[.pointer (some ⟨g, 0, none⟩), .bool x, .bool y] w fun r w' => r = .returned (.tuple #[]) ∧ w'.heap[g]? = some (bxP x b y d e a' x c' y e') ∧ Below g w w' := by
  obtain ⟨⟨k0, k1, k2, k3, k4, k5, k6, k7, k8, k9⟩, ⟨f0, f1, f2, f3, f4, f5, f6, f7, f8, f9⟩, kz⟩ := popen hg
  go_enter Try.func68, Try.ntmps68
  go_wp2
  refine bodyPost_end (by simp [results, Try.results68]) rfl ⟨rfl, ?_, ?_⟩
  · simp [World.setCell, Array.getElem?_modify, hg]
  · exact (bset (bset (bset (bset (Below.refl g w) g 0 _ (Nat.le_refl _)) g 2 _ (Nat.le_refl _)) g 6 _ (Nat.le_refl _)) g 8 _ (Nat.le_refl _))
set_option maxHeartbeats 8000000 in
set_option maxRecDepth 100000 in
theorem from_calls (a b c d e a' b' c' d' e' : Bool) (x y : Bool) (g : Nat) (w : World) (hg : w.heap[g]? = some (bxP a b c d e a' b' c' d' e')) :
    Calls Try.prog 69 #[.pointer (some ⟨g, 0, none⟩), .bool x, .bool y] w fun r w' => r = .returned (.tuple #[]) ∧ w'.heap[g]? = some (bxP a x c y e x b' y d' e') ∧ Below g w w' := by
  obtain ⟨⟨k0, k1, k2, k3, k4, k5, k6, k7, k8, k9⟩, ⟨f0, f1, f2, f3, f4, f5, f6, f7, f8, f9⟩, kz⟩ := popen hg
  go_enter Try.func69, Try.ntmps69
  go_wp2
  refine bodyPost_end (by simp [results, Try.results69]) rfl ⟨rfl, ?_, ?_⟩
  · simp [World.setCell, Array.getElem?_modify, hg]
  · exact (bset (bset (bset (bset (Below.refl g w) g 1 _ (Nat.le_refl _)) g 3 _ (Nat.le_refl _)) g 5 _ (Nat.le_refl _)) g 7 _ (Nat.le_refl _))
abbrev bx2 (r : It × It × Int) : Obj := bxP r.1.to r.1.fr r.1.ou r.1.in_ r.1.bl r.2.1.to r.2.1.fr r.2.1.ou r.2.1.in_ r.2.1.bl
def doI (k : Nat) (a b : It) : It × It × Int :=
  if k = 1 then (if a.bl || b.bl then (a, b, 8) else if a.to || a.ou then (a, b, 7) else (⟨false, a.fr, true, a.in_, a.bl⟩, ⟨b.to, false, b.ou, true, b.bl⟩, 0))
  else if k = 2 then (if a.bl || b.bl then (a, b, 8) else if a.in_ then (⟨a.to, true, a.ou, false, a.bl⟩, ⟨true, b.fr, false, b.in_, b.bl⟩, 0) else (a, b, 7))
  else if k = 3 then (if a.to || a.ou then (⟨false, a.fr, false, a.in_, a.bl⟩, ⟨b.to, false, b.ou, false, b.bl⟩, 0) else (a, b, 7))
  else if k = 4 then (if a.fr || a.in_ then (⟨a.to, false, a.ou, false, a.bl⟩, ⟨false, b.fr, false, b.in_, b.bl⟩, 0) else (a, b, 7))
  else if k = 5 then (if a.bl then (a, b, 7) else (⟨a.to, a.fr, a.ou, a.in_, true⟩, b, 0))
  else (if a.bl then (⟨a.to, a.fr, a.ou, a.in_, false⟩, b, 0) else (a, b, 7))
theorem doI_fit {a b : It} (h : fitI a b = true) (k : Nat) (h1 : 1 ≤ k) (h6 : k ≤ 6) : actI a b (k : Int) = doI k a b := by
  obtain ⟨a1, a2, a3, a4, a5⟩ := a
  obtain ⟨b1, b2, b3, b4, b5⟩ := b
  unfold actI
  rw [if_neg (by rw [h]; decide)]
  unfold fitI at h
  obtain rfl | rfl | rfl | rfl | rfl | rfl : k = 1 ∨ k = 2 ∨ k = 3 ∨ k = 4 ∨ k = 5 ∨ k = 6 := by omega
  all_goals (unfold doI; cases a1 <;> cases a2 <;> cases a3 <;> cases a4 <;> cases b1 <;> cases b2 <;> simp_all)
set_option maxHeartbeats 8000000 in
set_option maxRecDepth 100000 in
theorem sub1_calls (a b c d e a' b' c' d' e' : Bool) (g : Nat) (w : World) (hg : w.heap[g]? = some (bxP a b c d e a' b' c' d' e')) :
    Calls Try.prog 50 #[.pointer (some ⟨g, 0, none⟩)] w fun r w' => r = .returned (.int .i64 (doI 1 ⟨a, b, c, d, e⟩ ⟨a', b', c', d', e'⟩).2.2) ∧ w'.heap[g]? = some (bx2 (doI 1 ⟨a, b, c, d, e⟩ ⟨a', b', c', d', e'⟩)) ∧ Below g w w' := by
  obtain ⟨⟨k0, k1, k2, k3, k4, k5, k6, k7, k8, k9⟩, ⟨f0, f1, f2, f3, f4, f5, f6, f7, f8, f9⟩, kz⟩ := popen hg
  cases e <;> cases e' <;> cases a <;> cases c
  all_goals (go_enter Try.func50, Try.ntmps50)
  all_goals (go_wp2_with (first | (go_at_call 62; refine (blocked_calls _ _ _ _ _ _ _ _ _ _ _).mono ?_; rintro r w1 ⟨rfl, b1⟩; replace hg := hcall hg b1; (obtain ⟨⟨j0, j1, j2, j3, j4, j5, j6, j7, j8, j9⟩, ⟨l0, l1, l2, l3, l4, l5, l6, l7, l8, l9⟩, jz⟩ := popen hg); have hB : Below g w w1 := b1.mono (Nat.le_of_lt kz); clear b1) | (go_at_call 68; refine (in_calls _ _ _ _ _ _ _ _ _ _ false true g _ hg).mono ?_; rintro r w2 ⟨rfl, hg2, hB2⟩)))
  all_goals (try go_ret)
  all_goals (first | exact ⟨rfl, hg2, hB.trans hB2⟩ | exact ⟨rfl, hg, hB⟩)
set_option maxHeartbeats 8000000 in
set_option maxRecDepth 100000 in
theorem sub2_calls (a b c d e a' b' c' d' e' : Bool) (g : Nat) (w : World) (hg : w.heap[g]? = some (bxP a b c d e a' b' c' d' e')) :
    Calls Try.prog 51 #[.pointer (some ⟨g, 0, none⟩)] w fun r w' => r = .returned (.int .i64 (doI 2 ⟨a, b, c, d, e⟩ ⟨a', b', c', d', e'⟩).2.2) ∧ w'.heap[g]? = some (bx2 (doI 2 ⟨a, b, c, d, e⟩ ⟨a', b', c', d', e'⟩)) ∧ Below g w w' := by
  obtain ⟨⟨k0, k1, k2, k3, k4, k5, k6, k7, k8, k9⟩, ⟨f0, f1, f2, f3, f4, f5, f6, f7, f8, f9⟩, kz⟩ := popen hg
  cases e <;> cases e' <;> cases d
  all_goals (go_enter Try.func51, Try.ntmps51)
  all_goals (go_wp2_with (first | (go_at_call 62; refine (blocked_calls _ _ _ _ _ _ _ _ _ _ _).mono ?_; rintro r w1 ⟨rfl, b1⟩; replace hg := hcall hg b1; (obtain ⟨⟨j0, j1, j2, j3, j4, j5, j6, j7, j8, j9⟩, ⟨l0, l1, l2, l3, l4, l5, l6, l7, l8, l9⟩, jz⟩ := popen hg); have hB : Below g w w1 := b1.mono (Nat.le_of_lt kz); clear b1) | (go_at_call 69; refine (from_calls _ _ _ _ _ _ _ _ _ _ true false g _ hg).mono ?_; rintro r w2 ⟨rfl, hg2, hB2⟩)))
  all_goals (try go_ret)
  all_goals (first | exact ⟨rfl, hg2, hB.trans hB2⟩ | exact ⟨rfl, hg, hB⟩)
set_option maxHeartbeats 8000000 in
set_option maxRecDepth 100000 in
theorem sub3_calls (a b c d e a' b' c' d' e' : Bool) (g : Nat) (w : World) (hg : w.heap[g]? = some (bxP a b c d e a' b' c' d' e')) :
    Calls Try.prog 52 #[.pointer (some ⟨g, 0, none⟩)] w fun r w' => r = .returned (.int .i64 (doI 3 ⟨a, b, c, d, e⟩ ⟨a', b', c', d', e'⟩).2.2) ∧ w'.heap[g]? = some (bx2 (doI 3 ⟨a, b, c, d, e⟩ ⟨a', b', c', d', e'⟩)) ∧ Below g w w' := by
  obtain ⟨⟨k0, k1, k2, k3, k4, k5, k6, k7, k8, k9⟩, ⟨f0, f1, f2, f3, f4, f5, f6, f7, f8, f9⟩, kz⟩ := popen hg
  cases a <;> cases c
  all_goals (go_enter Try.func52, Try.ntmps52)
  all_goals (go_wp2_with (go_at_call 68; refine (in_calls _ _ _ _ _ _ _ _ _ _ false false g _ hg).mono ?_; rintro r w2 ⟨rfl, hg2, hB2⟩))
  all_goals (try go_ret)
  all_goals (first | exact ⟨rfl, hg2, hB2⟩ | exact ⟨rfl, hg, Below.refl _ _⟩)
set_option maxHeartbeats 8000000 in
set_option maxRecDepth 100000 in
theorem sub4_calls (a b c d e a' b' c' d' e' : Bool) (g : Nat) (w : World) (hg : w.heap[g]? = some (bxP a b c d e a' b' c' d' e')) :
    Calls Try.prog 53 #[.pointer (some ⟨g, 0, none⟩)] w fun r w' => r = .returned (.int .i64 (doI 4 ⟨a, b, c, d, e⟩ ⟨a', b', c', d', e'⟩).2.2) ∧ w'.heap[g]? = some (bx2 (doI 4 ⟨a, b, c, d, e⟩ ⟨a', b', c', d', e'⟩)) ∧ Below g w w' := by
  obtain ⟨⟨k0, k1, k2, k3, k4, k5, k6, k7, k8, k9⟩, ⟨f0, f1, f2, f3, f4, f5, f6, f7, f8, f9⟩, kz⟩ := popen hg
  cases b <;> cases d
  all_goals (go_enter Try.func53, Try.ntmps53)
  all_goals (go_wp2_with (go_at_call 69; refine (from_calls _ _ _ _ _ _ _ _ _ _ false false g _ hg).mono ?_; rintro r w2 ⟨rfl, hg2, hB2⟩))
  all_goals (try go_ret)
  all_goals (first | exact ⟨rfl, hg2, hB2⟩ | exact ⟨rfl, hg, Below.refl _ _⟩)
set_option maxHeartbeats 8000000 in
set_option maxRecDepth 100000 in
theorem sub5_calls (a b c d e a' b' c' d' e' : Bool) (g : Nat) (w : World) (hg : w.heap[g]? = some (bxP a b c d e a' b' c' d' e')) :
    Calls Try.prog 54 #[.pointer (some ⟨g, 0, none⟩)] w fun r w' => r = .returned (.int .i64 (doI 5 ⟨a, b, c, d, e⟩ ⟨a', b', c', d', e'⟩).2.2) ∧ w'.heap[g]? = some (bx2 (doI 5 ⟨a, b, c, d, e⟩ ⟨a', b', c', d', e'⟩)) ∧ Below g w w' := by
  obtain ⟨⟨k0, k1, k2, k3, k4, k5, k6, k7, k8, k9⟩, ⟨f0, f1, f2, f3, f4, f5, f6, f7, f8, f9⟩, kz⟩ := popen hg
  cases e
  all_goals (go_enter Try.func54, Try.ntmps54)
  all_goals go_wp2
  all_goals (try go_ret)
  all_goals (first | exact ⟨rfl, hg, Below.refl _ _⟩ | exact ⟨rfl, by simp [World.setCell, Array.getElem?_modify, hg, doI], bset (Below.refl g w) g 4 _ (Nat.le_refl _)⟩)
set_option maxHeartbeats 8000000 in
set_option maxRecDepth 100000 in
theorem sub6_calls (a b c d e a' b' c' d' e' : Bool) (g : Nat) (w : World) (hg : w.heap[g]? = some (bxP a b c d e a' b' c' d' e')) :
    Calls Try.prog 55 #[.pointer (some ⟨g, 0, none⟩)] w fun r w' => r = .returned (.int .i64 (doI 6 ⟨a, b, c, d, e⟩ ⟨a', b', c', d', e'⟩).2.2) ∧ w'.heap[g]? = some (bx2 (doI 6 ⟨a, b, c, d, e⟩ ⟨a', b', c', d', e'⟩)) ∧ Below g w w' := by
  obtain ⟨⟨k0, k1, k2, k3, k4, k5, k6, k7, k8, k9⟩, ⟨f0, f1, f2, f3, f4, f5, f6, f7, f8, f9⟩, kz⟩ := popen hg
  cases e
  all_goals (go_enter Try.func55, Try.ntmps55)
  all_goals go_wp2
  all_goals (try go_ret)
  all_goals (first | exact ⟨rfl, hg, Below.refl _ _⟩ | exact ⟨rfl, by simp [World.setCell, Array.getElem?_modify, hg, doI], bset (Below.refl g w) g 4 _ (Nat.le_refl _)⟩)
end Go.Proofs.Ytocdoddmaopdbaa
namespace Go.Proofs.Ytocdoddmaopdbaa
open Go.RowKit
open Sp
def enEn (x : En) : List Value := [.string x.o, .string x.c, .bool x.it.to, .bool x.it.fr, .bool x.it.ou, .bool x.it.in_, .bool x.it.bl]
theorem enEn_len (x : En) : (enEn x).length = 7 := rfl
theorem enEn_one (x : En) : ∀ u ∈ enEn x, u.oneCell' = true := by intro u hu; simp only [enEn, List.mem_cons, List.mem_nil_iff, or_false] at hu; rcases hu with rfl | rfl | rfl | rfl | rfl | rfl | rfl <;> rfl
abbrev zvEn : Value := .agg #[.string ⟨#[]⟩, .string ⟨#[]⟩, .bool false, .bool false, .bool false, .bool false, .bool false]
theorem infoEn : (Try.prog.info? 72).map (fun i => (i.zero, i.size, i.bytes)) = some (some zvEn, 7, 40) := by kernel_rfl
abbrev bxEn (a_ : ByteArray) (b_ : ByteArray) (c_ : Bool) (d_ : Bool) (e_ : Bool) (f_ : Bool) (g_ : Bool) : Obj := .cells #[.string a_, .string b_, .bool c_, .bool d_, .bool e_, .bool f_, .bool g_] 72
theorem rowEn {W : World} {A : Option Addr} {n c : Nat} {l : List En} (h : Row enEn 7 W (.slice A n c) l) (i : Nat) (hi : i < l.length) (a_ : ByteArray) (b_ : ByteArray) (c_ : Bool) (d_ : Bool) (e_ : Bool) (f_ : Bool) (g_ : Bool) (he : l[i] = ⟨a_, b_, c_, d_, e_, f_, g_⟩) :
    ∃ ad, A = some ad ∧ W.cell? (ad.add (i * 7)) = some (.string a_) ∧ W.cell? ⟨(ad.add (i * 7)).block, (ad.add (i * 7)).off + 1, none⟩ = some (.string b_) ∧ W.cell? ⟨(ad.add (i * 7)).block, (ad.add (i * 7)).off + 2, none⟩ = some (.bool c_) ∧ W.cell? ⟨(ad.add (i * 7)).block, (ad.add (i * 7)).off + 3, none⟩ = some (.bool d_) ∧ W.cell? ⟨(ad.add (i * 7)).block, (ad.add (i * 7)).off + 4, none⟩ = some (.bool e_) ∧ W.cell? ⟨(ad.add (i * 7)).block, (ad.add (i * 7)).off + 5, none⟩ = some (.bool f_) ∧ W.cell? ⟨(ad.add (i * 7)).block, (ad.add (i * 7)).off + 6, none⟩ = some (.bool g_) := by
  obtain ⟨ad, e, hc⟩ := h.get enEn_len i hi
  rw [he] at hc
  exact ⟨ad, e, hc 0 (by omega), hc 1 (by omega), hc 2 (by omega), hc 3 (by omega), hc 4 (by omega), hc 5 (by omega), hc 6 (by omega)⟩
theorem rowsEn {W : World} {ad : Addr} {n c : Nat} {l : List En} (h : Row enEn 7 W (.slice (some ad) n c) l) (i : Nat) (hi : i < l.length) (a_ : ByteArray) (b_ : ByteArray) (c_ : Bool) (d_ : Bool) (e_ : Bool) (f_ : Bool) (g_ : Bool) (he : l[i] = ⟨a_, b_, c_, d_, e_, f_, g_⟩) :
    W.cell? (ad.add (i * 7)) = some (.string a_) ∧ W.cell? ⟨(ad.add (i * 7)).block, (ad.add (i * 7)).off + 1, none⟩ = some (.string b_) ∧ W.cell? ⟨(ad.add (i * 7)).block, (ad.add (i * 7)).off + 2, none⟩ = some (.bool c_) ∧ W.cell? ⟨(ad.add (i * 7)).block, (ad.add (i * 7)).off + 3, none⟩ = some (.bool d_) ∧ W.cell? ⟨(ad.add (i * 7)).block, (ad.add (i * 7)).off + 4, none⟩ = some (.bool e_) ∧ W.cell? ⟨(ad.add (i * 7)).block, (ad.add (i * 7)).off + 5, none⟩ = some (.bool f_) ∧ W.cell? ⟨(ad.add (i * 7)).block, (ad.add (i * 7)).off + 6, none⟩ = some (.bool g_) := by
  obtain ⟨ad', e, hc⟩ := rowEn h i hi a_ b_ c_ d_ e_ f_ g_ he
  injection e with e
  subst e
  exact hc
theorem cellsEn {W : World} {g : Nat} (a_ : ByteArray) (b_ : ByteArray) (c_ : Bool) (d_ : Bool) (e_ : Bool) (f_ : Bool) (g_ : Bool) (h : W.heap[g]? = some (bxEn a_ b_ c_ d_ e_ f_ g_)) :
    W.cell? ⟨g, 0, none⟩ = some (.string a_) ∧ W.cell? ⟨g, 1, none⟩ = some (.string b_) ∧ W.cell? ⟨g, 2, none⟩ = some (.bool c_) ∧ W.cell? ⟨g, 3, none⟩ = some (.bool d_) ∧ W.cell? ⟨g, 4, none⟩ = some (.bool e_) ∧ W.cell? ⟨g, 5, none⟩ = some (.bool f_) ∧ W.cell? ⟨g, 6, none⟩ = some (.bool g_) ∧ g < W.heap.size :=
  ⟨by simp [World.cell?, h], by simp [World.cell?, h], by simp [World.cell?, h], by simp [World.cell?, h], by simp [World.cell?, h], by simp [World.cell?, h], by simp [World.cell?, h], (Array.getElem?_eq_some_iff.1 h).1⟩
end Go.Proofs.Ytocdoddmaopdbaa
namespace Go.Proofs.Ytocdoddmaopdbaa
open Go.RowKit Sp
end Go.Proofs.Ytocdoddmaopdbaa
namespace Go.Proofs.Ytocdoddmaopdbaa
open Go.RowKit Sp
theorem TextRow.kept {e : TypeId} {w w' : World} {k b n : Nat} {s : ByteArray} (h : TextRow e w k s) (hK : KeepsMarked b n w w') (hkb : k ≠ b) (hn : n ≤ s.size) : TextRow e w' k s := by
  refine h.keep ?_
  obtain ⟨cs, h1, h2, _⟩ := h
  exact hK k cs e _ hkb h1 (by simp; omega)
end Go.Proofs.Ytocdoddmaopdbaa
namespace Go.Proofs.Ytocdoddmaopdbaa
open Go.RowKit Sp
end Go.Proofs.Ytocdoddmaopdbaa
namespace Go.Proofs.Ytocdoddmaopdbaa
open Go.RowKit Sp
theorem below_alloc {w w1 : World} (h : Below w.heap.size w w1) (o : Obj) : Below w.heap.size w (w1.alloc o) := h.alloc h.size o
section
variable (w : World)
theorem Is_is (s : ByteArray) (b : Bool) (h : Hid (isName s = b)) (hs : s.size ≤ 140737488351232) :
    Calls Try.prog 34 #[.string s] w fun e w' => e = .returned (.bool b) ∧ Below w.heap.size w w' := re_ (Is_calls s w hs) (by rw [h.out])
theorem Less_is (s t : ByteArray) (b : Bool) (h : Hid (less s t = b)) :
    Calls Try.prog 67 #[.string s, .string t] w fun e w' => e = .returned (.bool b) ∧ Below w.heap.size w w' := re_ (Less_calls s t w) (by rw [h.out])
end
end Go.Proofs.Ytocdoddmaopdbaa
