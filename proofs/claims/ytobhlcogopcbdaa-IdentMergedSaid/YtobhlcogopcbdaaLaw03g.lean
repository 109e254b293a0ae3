/-
The walk of the statement IdentMerged: it returns true whatever the input.
-/
import Derived.Test.YtobhlcogopcbdaaLaw03f
import Derived.Test.YtobhlcogopcbdaaMapSet
namespace Go.Proofs.Ytobhlcogopcbdaa
open Go.RowKit Sp Go.WideMaps Go.Maps

theorem few_sz (l : List ByteArray) (h : few l 30 30 = true) : ∀ s ∈ l, s.size ≤ 30 := by
  intro s hs
  unfold few at h
  rw [Bool.and_eq_true, List.all_eq_true] at h
  have := of_decide_eq_true (h.2 s hs)
  omega
theorem sorted_at (l : List ByteArray) (h : Sorted l) (i : Nat) (h0 : i < l.length) (h1 : i + 1 < l.length) : less l[i] l[i + 1] = true := by
  have := List.pairwise_iff_getElem.1 h i (i + 1) h0 h1 (by omega)
  exact this
theorem mergeS_comm (a b : List ByteArray) : mergeS a b = mergeS b a :=
  mergeS_eq a b _ (mergeS_sorted b a) fun x => by rw [mergeS_mem]; exact or_comm
theorem mergeS_again (a b : List ByteArray) : mergeS (mergeS a b) a = mergeS a b :=
  mergeS_eq _ a _ (mergeS_sorted a b) fun x => by
    rw [mergeS_mem]
    constructor
    · exact .inl
    · rintro (h | h)
      · exact h
      · exact .inl h

set_option maxHeartbeats 4000000 in
set_option maxRecDepth 100000 in
theorem merged_walk (n c : Nat) (A : Option Addr) (a : List ByteArray) (m d : Nat) (B : Option Addr) (b : List ByteArray) (w : World) (ha : Row enS 1 w (.slice A n c) a) (hb : Row enS 1 w (.slice B m d) b) :
    Calls Try.prog 8 #[.slice A n c, .slice B m d] w fun e w' => e = .returned (.bool true) ∧ Below w.heap.size w w' := by
  cases hfa : few a 30 30 with
  | false =>
    have H1 := Lib.hid hfa
    clear hfa
    go_enter Try.func8, Try.ntmps8
    go_wp2_with fail
    refine (few_is n c A a 30 30 false _ ha H1).mono ?_
    rintro e w1 ⟨rfl, rfl⟩
    go_wp2_with fail
    refine (live03 _).mono ?_
    rintro e w2 ⟨rfl, b2⟩
    go_wp2
    go_ret
    exact ⟨rfl, b2⟩
  | true =>
  cases hfb : few b 30 30 with
  | false =>
    have H1 := Lib.hid hfa
    have H2 := Lib.hid hfb
    clear hfa hfb
    go_enter Try.func8, Try.ntmps8
    go_wp2_with fail
    refine (few_is n c A a 30 30 true _ ha H1).mono ?_
    rintro e w1 ⟨rfl, rfl⟩
    go_wp2_with fail
    refine (few_is m d B b 30 30 false _ hb H2).mono ?_
    rintro e w1 ⟨rfl, rfl⟩
    go_wp2_with fail
    refine (live03 _).mono ?_
    rintro e w2 ⟨rfl, b2⟩
    go_wp2
    go_ret
    exact ⟨rfl, b2⟩
  | true =>
    have hza := few_sz a hfa
    have hzb := few_sz b hfb
    have hna := few_len a hfa
    have hnb := few_len b hfb
    have ea := ha.len_eq
    have eb := hb.len_eq
    have hn : n ≤ 30 := by omega
    have hm : m ≤ 30 := by omega
    have H1 := Lib.hid hfa
    have H2 := Lib.hid hfb
    have EA := Lib.hid ea
    have EB := Lib.hid eb
    clear hfa hfb ea eb hna hnb
    have HZA := Lib.hid hza
    have HZB := Lib.hid hzb
    clear hza hzb
    have hmm := @run_makeMap Try.prog
    go_enter Try.func8, Try.ntmps8
    go_wp2_with fail
    refine (few_is n c A a 30 30 true _ ha H1).mono ?_
    rintro e w1 ⟨rfl, rfl⟩
    go_wp2_with fail
    refine (few_is m d B b 30 30 true _ hb H2).mono ?_
    rintro e w1 ⟨rfl, rfl⟩
    go_wp2_with fail
    go_wp2_with fail
    refine (Merge_calls n c m d A B a b _ ha hb (by omega) (by omega)).mono ?_
    rintro e w1 ⟨v, rfl, hv, b1⟩
    obtain ⟨ml, hml⟩ : ∃ ml, mergeS a b = ml := ⟨_, rfl⟩
    rw [hml] at hv
    have HML := Lib.hid hml
    clear hml
    obtain ⟨A1, c1, rfl, _⟩ := id hv
    have hml60 : ml.length ≤ 60 := by
      rw [← HML.out]
      have := mergeS_len a b
      have h1 := EA.out
      have h2 := EB.out
      omega
    go_wp2_with fail
    go_loopw [7] (fun v7 wr => ∃ i : Nat, v7 = .int .i64 i ∧ i ≤ n ∧ SetMap wr w1.heap.size i (a.take i) ∧ Below w1.heap.size w1 wr) (fun v7 _ => (n - intOf v7).toNat)
    case atStart => exact ⟨0, rfl, Nat.zero_le _, SetMap.new _, below_alloc (Below.refl _ _) _⟩
    case round =>
      obtain ⟨i, rfl, hi, hS, hB⟩ := hrel
      by_cases hlt : i < n
      · have hil : i < a.length := by have := EA.out; omega
        obtain ⟨ad, rfl, hca⟩ := ((ha.below b1).below hB).get1 (f := Value.string) i hil
        have hsz : a[i].size ≤ maxLen := by
          have := HZA.out a[i] (List.getElem_mem _)
          simp only [maxLen]; omega
        have htk : a.take (i + 1) = a.take i ++ [a[i]] := List.take_succ_eq_append_getElem hil
        obtain ⟨s, hs⟩ : ∃ s, a[i] = s := ⟨_, rfl⟩
        rw [hs] at hca hsz htk
        have HTK := Lib.hid htk
        clear hs htk
        obtain ⟨D, hown, hD⟩ := hS
        go_wp2_with (first | (at_mapUpdate; refine wpList_mapUpdate_own _ rfl _ _ _ 37 rfl 9 4 mapLaw Try.underlying37 _ w1.heap.size i _ rfl hown (by unfold maxLen; omega) _ _ (keyL s) rfl rfl (keyOf_string_mk Try.underlying9 hsz) (.lit (.bool true)) [] (plainElem_bool Try.underlying4 true) ?_) | go_in)
        intro w2 hown2 hgrow2
        have R1 : SetMap w2 w1.heap.size (i + 1) (a.take (i + 1)) := by rw [HTK.out]; exact ⟨_, hown2, hD.put s⟩
        have R2 := hB.grown hgrow2 hB.size (fun j hj => by cases hj; exact Nat.le_refl _)
        clear hown2 hgrow2 hown hD hB
        go_wp2
        exact ⟨⟨i + 1, by go_num, by omega, R1, R2⟩, by simp [intOf]; omega⟩
      · obtain rfl : i = n := by omega
        rw [List.take_of_length_le (by have := EA.out; omega)] at hS
        clear hlt hi
        go_wp2_with fail
        go_loopw [8] (fun v8 wq => ∃ k : Nat, v8 = .int .i64 k ∧ k ≤ m ∧ SetMap wq w1.heap.size (i + k) (a ++ b.take k) ∧ Below w1.heap.size w1 wq) (fun v8 _ => (m - intOf v8).toNat)
        case atStart => exact ⟨0, rfl, Nat.zero_le _, by simpa using hS, hB⟩
        case round =>
          clear hS hB
          obtain ⟨k, rfl, hk, hS, hB⟩ := hrel
          by_cases hlt : k < m
          · have hkl : k < b.length := by have := EB.out; omega
            obtain ⟨bd, rfl, hcb⟩ := ((hb.below b1).below hB).get1 (f := Value.string) k hkl
            have hsz : b[k].size ≤ maxLen := by
              have := HZB.out b[k] (List.getElem_mem _)
              simp only [maxLen]; omega
            have htk : a ++ b.take (k + 1) = (a ++ b.take k) ++ [b[k]] := by rw [List.append_assoc, ← List.take_succ_eq_append_getElem hkl]
            obtain ⟨s, hs⟩ : ∃ s, b[k] = s := ⟨_, rfl⟩
            rw [hs] at hcb hsz htk
            have HTK := Lib.hid htk
            clear hs htk
            obtain ⟨D, hown, hD⟩ := hS
            go_wp2_with (first | (at_mapUpdate; refine wpList_mapUpdate_own _ rfl _ _ _ 37 rfl 9 4 mapLaw Try.underlying37 _ w1.heap.size (i + k) _ rfl hown (by unfold maxLen; omega) _ _ (keyL s) rfl rfl (keyOf_string_mk Try.underlying9 hsz) (.lit (.bool true)) [] (plainElem_bool Try.underlying4 true) ?_) | go_in)
            intro w2 hown2 hgrow2
            have R1 : SetMap w2 w1.heap.size (i + (k + 1)) (a ++ b.take (k + 1)) := by rw [HTK.out]; exact ⟨_, hown2, hD.put s⟩
            have R2 := hB.grown hgrow2 hB.size (fun j hj => by cases hj; exact Nat.le_refl _)
            clear hown2 hgrow2 hown hD hB
            go_wp2
            exact ⟨⟨k + 1, by go_num, by omega, R1, R2⟩, by simp [intOf]; omega⟩
          · obtain rfl : k = m := by omega
            rw [List.take_of_length_le (by have := EB.out; omega)] at hS
            clear hlt hk
            have hmem : ∀ x ∈ ml, inL (a ++ b) x = true ∧ x.size ≤ 30 := by
              intro x hx
              rw [← HML.out, mergeS_mem] at hx
              rw [inL_iff, List.mem_append]
              exact ⟨hx, hx.elim (HZA.out x) (HZB.out x)⟩
            have hsort : Sorted ml := by rw [← HML.out]; exact mergeS_sorted a b
            have HMEM := Lib.hid hmem
            have HSORT := Lib.hid hsort
            clear hmem hsort
            go_wp2_with fail
            go_loopw [9] (fun v9 wp => ∃ j : Nat, v9 = .int .i64 j ∧ j ≤ ml.length ∧ SetMap wp w1.heap.size (i + k) (a ++ b) ∧ Below w1.heap.size w1 wp) (fun v9 _ => (ml.length - intOf v9).toNat)
            case atStart => exact ⟨0, rfl, Nat.zero_le _, hS, hB⟩
            case round =>
              clear hS hB
              obtain ⟨j, rfl, hj, hS, hB⟩ := hrel
              by_cases hlt : j < ml.length
              · obtain ⟨ad, rfl, hc⟩ := (hv.below hB).get1 (f := Value.string) j hlt
                obtain ⟨hin, hs30⟩ := HMEM.out ml[j] (List.getElem_mem _)
                have hlook := hS.look ml[j] (by simp only [maxLen]; omega)
                rw [hin] at hlook
                have hlookd := SetMap.look (w := wr.drew) hS ml[j] (by simp only [maxLen]; omega)
                rw [hin] at hlookd
                have hlookn := fun q => SetMap.look (w := wr.drewN q) hS ml[j] (by simp only [maxLen]; omega)
                rw [hin] at hlookn
                have x1 : (0 : Int) ≤ (j : Int) := by omega
                have x2 : (j : Int) < (ml.length : Int) := by omega
                by_cases hj0 : j = 0
                · have hg : decide (0 < j) = false := decide_eq_false (by omega)
                  have hg2 : decide (0 < (j : Int)) = false := decide_eq_false (by omega)
                  clear hj0
                  generalize ml[j] = s at hc hlook hlookd hlookn hin hs30
                  clear hin hs30
                  go_wp2_with fail
                  go_quiet (fail)
                  have hB2 : Below w1.heap.size w1 (wr.drewN nq) := below_drewN hB _
                  have hS2 : SetMap (wr.drewN nq) w1.heap.size (i + k) (a ++ b) := hS
                  clear hS hB hlook hlookd hlookn hc
                  go_wp2
                  exact ⟨⟨j + 1, by go_num, by omega, hS2, hB2⟩, by simp [intOf]; omega⟩
                · have hg : 0 < j := by omega
                  have hg3 : 0 < (j : Int) := by omega
                  obtain ⟨q, hq⟩ : ∃ q, q = j - 1 := ⟨_, rfl⟩
                  have hql : q < ml.length := by omega
                  have hqj : q + 1 < ml.length := by omega
                  have hles := sorted_at ml HSORT.out q hql hqj
                  obtain ⟨ad2, had2, hc2⟩ := (hv.below hB).get1 (f := Value.string) q hql
                  obtain rfl : ad = ad2 := by injection had2
                  clear had2
                  have hqe : ml[q + 1] = ml[j] := by congr 1; omega
                  rw [hqe] at hles
                  clear hqe
                  have HL : Hid (less ml[q] ml[j] = true) := hles
                  clear hles
                  have hw : IntKind.i64.wrap ((j : Int) - 1) = ((q : Nat) : Int) := by
                    have : (j : Int) - 1 = (q : Int) := by omega
                    rw [this]
                    rw [IntKind.wrap_i64]; omega
                  have x3 : (0 : Int) ≤ (q : Int) := by omega
                  have x4 : (q : Int) < (ml.length : Int) := by omega
                  have HQ := Lib.hid hq
                  clear hq hj0
                  generalize ml[j] = s at hc hlook hlookd hlookn hin hs30 HL
                  generalize ml[q] = t at hc2 HL
                  go_wp2_with fail
                  clear hlookn
                  go_region_held3 (fun w' => w'.cell? (ad.add j) = some (.string s) ∧ w'.cell? (ad.add q) = some (.string t) ∧ (Instr.lookup 37 (.map (some w1.heap.size)) (.string s) false).run Try.prog w' = .ok (.bool true) w') (first | exact ⟨hc, hc2, hlook⟩ | exact ⟨hc, hc2, hlookd⟩ | exact ⟨cell_below hbx hc, cell_below hbx hc2, hlx⟩) (first | (go_at_call 25; refine (Less_is _ t s true HL).mono ?_; rintro e wx ⟨rfl, hbx⟩; have hlx := (SetMap.below (w := wr.drew) hS hbx).look s (by simp only [maxLen]; omega); rw [hin] at hlx))
                  have hB2 : Below w1.heap.size w1 wx := hB.trans (Below.mono (B := wr.heap.size) ⟨hbx.os, hbx.tape, hbx.output, hbx.size, hbx.block⟩ hB.size)
                  have hS2 : SetMap wx w1.heap.size (i + k) (a ++ b) := SetMap.below (w := wr.drew) hS hbx
                  clear hS hB hlook hlookd hc hc2 hlx hbx
                  go_wp2
                  exact ⟨⟨j + 1, by go_num, by omega, hS2, hB2⟩, by simp [intOf]; omega⟩
              · obtain rfl : j = ml.length := by omega
                obtain ⟨D, hown, hD⟩ := hS
                have hz : Maps.size D = ml.length := by rw [hD.2.2.2, ← HML.out]; rfl
                have e1 : ((ml.length : Int) == (Maps.size D : Int)) = true := by rw [hz]; simp
                clear hz hD
                have HBA : Hid (mergeS b a = ml) := by show _ = _; rw [← HML.out]; exact mergeS_comm b a
                have HMA : Hid (mergeS ml a = ml) := by show _ = _; rw [← HML.out]; exact mergeS_again a b
                have hv2 := hv.below hB
                have hB2 := below_call b1 hB
                clear hB hv
                go_wp2_with (first | (at_len; refine wpList_len_own _ rfl _ 37 rfl 9 4 Try.underlying37 _ w1.heap.size _ D rfl hown ?_) | fail)
                clear hown
                refine (Merge_calls k d i c _ _ b a _ ((hb.below hB2)) ((ha.below hB2)) (by omega) (by omega)).mono ?_
                rintro e w3 ⟨v, rfl, hu, b3⟩
                rw [HBA.out] at hu
                obtain ⟨A2, c2, rfl, _⟩ := id hu
                replace hv2 := hv2.below b3
                replace b3 := below_call hB2 b3
                clear hB2
                go_wp2_with fail
                refine (re_ (refSame_calls _ _ _ _ _ _ _ _ _ hv2 hu) (ret_bool (decide_eq_true rfl))).mono ?_
                rintro e w4 ⟨rfl, b4⟩
                replace hv2 := hv2.below b4
                replace b4 := below_call b3 b4
                clear b3 hu
                go_wp2_with fail
                refine (Merge_calls ml.length c1 i c _ _ ml a _ hv2 ((ha.below b4)) (by omega) (by omega)).mono ?_
                rintro e w5 ⟨v, rfl, hu, b5⟩
                rw [HMA.out] at hu
                obtain ⟨A3, c3, rfl, _⟩ := id hu
                replace hv2 := hv2.below b5
                replace b5 := below_call b4 b5
                clear b4
                go_wp2_with fail
                refine (re_ (refSame_calls _ _ _ _ _ _ _ _ _ hv2 hu) (ret_bool (decide_eq_true rfl))).mono ?_
                rintro e w6 ⟨rfl, b6⟩
                replace b6 := below_call b5 b6
                clear b5 hu hv2
                go_wp2_with fail
                refine (live03 _).mono ?_
                rintro e w7 ⟨rfl, b7⟩
                replace b7 := below_call b6 b7
                clear b6
                go_wp2
                go_ret
                exact ⟨rfl, b7⟩
end Go.Proofs.Ytobhlcogopcbdaa
