/-
Layer 5: a table taken, by the document.
Layer 5: a table taken, by the program.
-/
import Derived.Test.YtcopiimflloooaaDigGH
set_option linter.unusedVariables false
set_option linter.unusedSimpArgs false
namespace Go.Proofs.Ytcopiimflloooaa
open Go.RowKit
open Sp
namespace Sp
theorem takeN_name {s : ByteArray} {a : Int} {t : ByteArray} {to : Int} (h : takeN s a = (t, to, 0)) : isName t = true := by
  unfold takeN at h
  simp only at h
  split at h
  · rename_i h1
    injection h with _ h
    injection h with _ h
    exact absurd h h1
  · split at h
    · rename_i h1 h2
      rw [h] at h2
      exact h2
    · injection h with _ h
      injection h with _ h
      exact absurd h (by decide)
theorem takeVal_may {s : ByteArray} {a : Int} {v : PV} {to : Int} (h : takeVal s a = (v, to, 0)) : mayV v.1 v.2.1 v.2.2.1 v.2.2.2 = true := by
  unfold takeVal at h
  split at h
  · injection h with _ h; injection h with _ h; exact absurd h (by decide)
  · split at h
    · injection h with _ h; injection h with _ h; exact absurd h (by decide)
    · simp only at h
      split at h
      · rename_i h1; injection h with _ h; injection h with _ h; exact absurd h h1
      · split at h
        · rename_i h1; injection h with _ h; injection h with _ h; exact absurd h h1
        · split at h
          · rename_i h1
            injection h with h _
            rw [← h]
            exact h1
          · injection h with _ h; injection h with _ h; exact absurd h (by decide)
theorem takeT_e {s : ByteArray} {a : Int} {n : Nat} {p e : Int} (h : getV s a = (n, p, e)) (he : e ≠ 0) : takeT s a = ([], 0, e) := by
  unfold takeT; simp only [h]; rw [if_pos he]
theorem takeT_n {s : ByteArray} {a : Int} {n : Nat} {p : Int} (h : getV s a = (n, p, 0)) (hn : 32 < n) : takeT s a = ([], 0, 3) := by
  unfold takeT; simp only [h]; rw [if_neg (by simp), if_pos hn]
theorem takeT_r {s : ByteArray} {a : Int} {n : Nat} {p : Int} (h : getV s a = (n, p, 0)) (hn : ¬ 32 < n) {r : List Sn} {to e : Int} (hr : rowsT s n p [] = (r, to, e)) :
    takeT s a = if e ≠ 0 then ([], 0, e) else if mayT r then (r, to, 0) else ([], 0, 3) := by
  unfold takeT; simp only [h]; rw [if_neg (by simp), if_neg hn]; simp only [hr]
theorem rowsT_1 {s : ByteArray} {n : Nat} {a nx e : Int} {l : List Sn} {c : ByteArray} (h : takeN s a = (c, nx, e)) (he : e ≠ 0) : rowsT s (n + 1) a l = ([], 0, e) := by
  rw [rowsT]; simp only [h]; rw [if_pos he]
theorem rowsT_2 {s : ByteArray} {n : Nat} {a nx to e : Int} {l : List Sn} {c : ByteArray} {v : PV} (h : takeN s a = (c, nx, 0)) (h2 : takeVal s nx = (v, to, e)) (he : e ≠ 0) : rowsT s (n + 1) a l = ([], 0, e) := by
  rw [rowsT]; simp only [h]; rw [if_neg (by simp)]; simp only [h2]; rw [if_pos he]
theorem rowsT_3 {s : ByteArray} {n : Nat} {a nx to : Int} {l : List Sn} {c : ByteArray} {v : PV} (h : takeN s a = (c, nx, 0)) (h2 : takeVal s nx = (v, to, 0)) : rowsT s (n + 1) a l = rowsT s n to (l ++ [⟨c, v⟩]) := by
  rw [rowsT]; simp only [h]; rw [if_neg (by simp)]; simp only [h2]; rw [if_neg (by simp)]
end Sp
theorem refTakeV5 (s : ByteArray) (a : Int) (x y z : Int) (t : ByteArray) (to er : Int) (w : World) (hs : s.size ≤ 140737488351232) (h : Hid (takeVal s a = ((x, y, z, t), to, er))) :
    Calls Try.prog 79 #[.string s, .int .i64 a] w fun e w' => e = .returned (.tuple #[.agg #[.int .i64 x, .int .i64 y, .int .i64 z, .string t], .int .i64 to, .int .i64 er]) ∧ Below w.heap.size w w' := by
  have := refTake04_calls s a w hs
  rw [h.out] at this
  exact this
theorem takeV5 (s : ByteArray) (a : Int) (x y z : Int) (t : ByteArray) (to er : Int) (w : World) (hs : s.size ≤ 140737488351232) (h : Hid (takeVal s a = ((x, y, z, t), to, er))) :
    Calls Try.prog 76 #[.string s, .int .i64 a] w fun e w' => e = .returned (.tuple #[.agg #[.int .i64 x, .int .i64 y, .int .i64 z, .string t], .int .i64 to, .int .i64 er]) ∧ Below w.heap.size w w' := by
  have := valTake_calls s a w hs
  rw [h.out] at this
  exact this
set_option maxHeartbeats 16000000 in
set_option maxRecDepth 100000 in
theorem refTakeT_is (s : ByteArray) (a : Int) (r : List Sn) (to er : Int) (w : World) (hs : s.size ≤ 140737488351232) (h : Hid (takeT s a = (r, to, er))) :
    Calls Try.prog 40 #[.string s, .int .i64 a] w fun e w' => ∃ v, e = .returned (.tuple #[v, .int .i64 to, .int .i64 er]) ∧ Row enSn 5 w' v r ∧ Below w.heap.size w w' := by
  obtain ⟨n, p, e0, hg⟩ : ∃ n p e, getV s a = (n, p, e) := ⟨_, _, _, rfl⟩
  have HG := Lib.hid hg
  by_cases he0 : e0 ≠ 0
  · have HV : Hid ((r, to, er) = ([], 0, e0)) := by show _ = _; rw [← h.out]; exact takeT_e hg he0
    have hne : (e0 == 0) = false := by simpa using he0
    clear hg he0
    go_enter Try.func40, Try.ntmps40
    go_wp2_with fail
    with_reducible refine (refGet_is s a n p e0 _ hs HG).mono ?_
    rintro e w1 ⟨rfl, rfl⟩
    go_wp2
    go_ret3
    have := HV.out
    simp only [Prod.mk.injEq] at this
    obtain ⟨rfl, rfl, rfl⟩ := this
    exact ⟨_, rfl, Row.nil _ _ _, Below.refl _ _⟩
  · have he1 : e0 = 0 := Classical.not_not.1 he0
    clear he0
    subst he1
    by_cases hn : 32 < n
    · have HV : Hid ((r, to, er) = ([], 0, 3)) := by show _ = _; rw [← h.out]; exact takeT_n hg hn
      have hn' : (32 : Int) < (n : Int) := by omega
      clear hg
      go_enter Try.func40, Try.ntmps40
      go_wp2_with fail
      with_reducible refine (refGet_is s a n p 0 _ hs HG).mono ?_
      rintro e w1 ⟨rfl, rfl⟩
      go_wp2
      go_ret3
      have := HV.out
      simp only [Prod.mk.injEq] at this
      obtain ⟨rfl, rfl, rfl⟩ := this
      exact ⟨_, rfl, Row.nil _ _ _, Below.refl _ _⟩
    · obtain ⟨r', to', e', hR⟩ : ∃ x y z, rowsT s n p [] = (x, y, z) := ⟨_, _, _, rfl⟩
      have HV : Hid ((r, to, er) = if e' ≠ 0 then ([], 0, e') else if mayT r' then (r', to', 0) else ([], 0, 3)) := by show _ = _; rw [← h.out]; exact takeT_r hg hn hR
      have HR := Lib.hid hR
      have hn' : n ≤ 32 := by omega
      clear hg hR hn h
      go_enter Try.func40, Try.ntmps40
      go_wp2_with fail
      with_reducible refine (refGet_is s a n p 0 _ hs HG).mono ?_
      rintro e w1 ⟨rfl, rfl⟩
      go_wp2
      go_loopw [8, 10, 11] (fun vt vo vc wr => ∃ (k : Nat) (q : Int) (ys : List Sn), vc = .int .i64 k ∧ vt = .int .i64 q ∧ k ≤ n ∧ ys.length = k ∧ Hid (rowsT s (n - k) q ys = (r', to', e')) ∧ Hid (∀ x ∈ ys, rowOk x = true) ∧ Own enSn 5 66 wr w.heap.size vo ys ∧ Below w.heap.size w wr) (fun _ _ vc _ => (n - intOf vc).toNat)
      case atStart => exact ⟨0, p, [], rfl, rfl, Nat.zero_le _, rfl, HR, (show ∀ x ∈ ([] : List Sn), rowOk x = true from fun x hx => by cases hx), Own.nil _ _ _ _ _, Below.refl _ _⟩
      case round =>
        obtain ⟨k, q, ys, rfl, rfl, hk, hys, HT, HY, hO, hB⟩ := hrel
        by_cases hlt : k < n
        · obtain ⟨m, hm⟩ : ∃ m, n - k = m + 1 := ⟨n - k - 1, by omega⟩
          have hm2 : n - (k + 1) = m := by omega
          have HT' := HT.out
          rw [hm] at HT'
          obtain ⟨c, nx, e1, hc⟩ : ∃ x y z, takeN s q = (x, y, z) := ⟨_, _, _, rfl⟩
          have HC := Lib.hid hc
          by_cases he1 : e1 ≠ 0
          · have HF : Hid ((r, to, er) = ([], 0, e1)) := by
              show _ = _
              rw [rowsT_1 hc he1] at HT'
              simp only [Prod.mk.injEq] at HT'
              obtain ⟨_, _, rfl⟩ := HT'
              rw [HV.out, if_pos he1]
            have hne : (e1 == 0) = false := by simpa using he1
            clear hc he1 HT' hm hm2 hys
            go_wp2_with fail
            with_reducible refine (refNTake_is _ s q c nx e1 HC hs).mono ?_
            rintro e w3 ⟨rfl, b3⟩
            go_wp2
            go_ret3
            have := HF.out
            simp only [Prod.mk.injEq] at this
            obtain ⟨rfl, rfl, rfl⟩ := this
            exact ⟨_, rfl, Row.nil _ _ _, below_call hB b3⟩
          · have he1' : e1 = 0 := Classical.not_not.1 he1
            clear he1
            subst he1'
            obtain ⟨⟨x, y, z, t⟩, en, e2, hv⟩ : ∃ x y z, takeVal s nx = (x, y, z) := ⟨_, _, _, rfl⟩
            have HX := Lib.hid hv
            by_cases he2 : e2 ≠ 0
            · have HF : Hid ((r, to, er) = ([], 0, e2)) := by
                show _ = _
                rw [rowsT_2 hc hv he2] at HT'
                simp only [Prod.mk.injEq] at HT'
                obtain ⟨_, _, rfl⟩ := HT'
                rw [HV.out, if_pos he2]
              have hne : (e2 == 0) = false := by simpa using he2
              clear hc hv he2 HT' hm hm2 hys
              go_wp2_with fail
              with_reducible refine (refNTake_is _ s q c nx 0 HC hs).mono ?_
              rintro e w3 ⟨rfl, b3⟩
              go_wp2_with fail
              with_reducible refine (refTakeV5 s nx x y z t en e2 _ hs HX).mono ?_
              rintro e w4 ⟨rfl, b4⟩
              replace hB := below_alloc0 (below_call (below_call hB b3) b4) (bxV x y z t)
              go_wp2
              go_ret3
              have := HF.out
              simp only [Prod.mk.injEq] at this
              obtain ⟨rfl, rfl, rfl⟩ := this
              exact ⟨_, rfl, Row.nil _ _ _, hB⟩
            · have he2' : e2 = 0 := Classical.not_not.1 he2
              clear he2
              subst he2'
              have HT2 : Hid (rowsT s (n - (k + 1)) en (ys ++ [⟨c, x, y, z, t⟩]) = (r', to', e')) := by
                show _ = _
                rw [hm2, ← rowsT_3 hc hv]; exact HT'
              have HY2 : Hid (∀ u ∈ ys ++ [(⟨c, x, y, z, t⟩ : Sn)], rowOk u = true) := fun u hu => by
                rcases List.mem_append.1 hu with hu | hu
                · exact HY.out u hu
                · rw [List.mem_singleton.1 hu, rowOk_iff]
                  exact ⟨takeN_name hc, takeVal_may hv⟩
              clear hc hv HT' hm hm2
              go_wp2_with fail
              with_reducible refine (refNTake_is _ s q c nx 0 HC hs).mono ?_
              rintro e w3 ⟨rfl, b3⟩
              go_wp2_with fail
              with_reducible refine (refTakeV5 s nx x y z t en 0 _ hs HX).mono ?_
              rintro e w4 ⟨rfl, b4⟩
              have hO1 := ((hO.below b3).below b4).alloc (bxV x y z t)
              have hB1 := below_alloc0 (below_call (below_call hB b3) b4) (bxV x y z t)
              have HZ1 : Hid ((w4.alloc (bxV x y z t)).heap.size = w4.heap.size + 1) := size_alloc _ _
              clear hO hB b3 b4
              go_wp2_with (at_builtin; refine Own.append (w0 := w) w.heap.size rfl (.tmp 55) (.tmp 59) 44 66 zvSn 5 56 rfl Try.underlying44 infoSn rfl (by decide) _ ys ⟨c, x, y, z, t⟩ (enSn ⟨c, x, y, z, t⟩) rfl (by rw [HZ1.out]; rfl) rfl rfl (enSn_one _) hO1 hB1 hB1.size (by omega) (by omega) ?_; intro v5 w5 hO5 hB5 _ _)
              exact ⟨⟨k + 1, en, ys ++ [⟨c, x, y, z, t⟩], by go_num, rfl, by omega, by rw [List.length_append, hys]; rfl, HT2, HY2, hO5, hB5⟩, by simp [intOf]; omega⟩
        · have hin : k = n := by omega
          subst hin
          have hrr : ys = r' ∧ q = to' ∧ (0 : Int) = e' := by
            have := HT.out
            rw [Nat.sub_self, rowsT] at this
            simpa using this
          obtain ⟨rfl, rfl, rfl⟩ := hrr
          have hzt : SzT ys := fun u hu => by
            have := (rowOk_iff u).1 (HY.out u hu)
            have h1 := name_le _ this.1
            have h2 := (mayV_iff _ _ _ _).1 this.2
            omega
          have hrow := hO.row
          obtain ⟨A2, c2, rfl, _⟩ := hO.slice
          replace hrow : Row enSn 5 wr (.slice A2 k c2) ys := by rw [hys] at hrow; exact hrow
          cases hmt : mayT ys with
          | false =>
            have HF : Hid ((r, to, er) = ([], 0, 3)) := by show _ = _; rw [HV.out, if_neg (by simp), if_neg (by rw [hmt]; decide)]
            have HM := Lib.hid hmt
            clear hmt
            go_wp2_with fail
            with_reducible refine (re_ (refMayT_calls k c2 A2 ys _ hrow hzt) (ret_bool HM.out)).mono ?_
            rintro e w3 ⟨rfl, b3⟩
            go_wp2
            go_ret3
            have := HF.out
            simp only [Prod.mk.injEq] at this
            obtain ⟨rfl, rfl, rfl⟩ := this
            exact ⟨_, rfl, Row.nil _ _ _, below_call hB b3⟩
          | true =>
            have HF : Hid ((r, to, er) = (ys, q, 0)) := by show _ = _; rw [HV.out, if_neg (by simp), if_pos hmt]
            have HM := Lib.hid hmt
            clear hmt
            go_wp2_with fail
            with_reducible refine (re_ (refMayT_calls k c2 A2 ys _ hrow hzt) (ret_bool HM.out)).mono ?_
            rintro e w3 ⟨rfl, b3⟩
            replace hrow := hrow.below b3
            go_wp2
            go_ret3
            have := HF.out
            simp only [Prod.mk.injEq] at this
            obtain ⟨rfl, rfl, rfl⟩ := this
            exact ⟨_, rfl, hrow, below_call hB b3⟩
end Go.Proofs.Ytcopiimflloooaa
set_option linter.unusedVariables false
set_option linter.unusedSimpArgs false
namespace Go.Proofs.Ytcopiimflloooaa
open Go.RowKit
open Sp
theorem snopen {W : World} {g : Nat} {c : ByteArray} {a p n : Int} {t : ByteArray} (h : W.heap[g]? = some (bxSn c a p n t)) : (W.cell? ⟨g, 0, none⟩ = some (.string c) ∧ W.cell? ⟨g, 1, none⟩ = some (.int .i64 a) ∧ W.cell? ⟨g, 2, none⟩ = some (.int .i64 p) ∧ W.cell? ⟨g, 3, none⟩ = some (.int .i64 n) ∧ W.cell? ⟨g, 4, none⟩ = some (.string t)) ∧
    (W.frozen? ⟨g, 0, none⟩ = false ∧ W.frozen? ⟨g, 1, none⟩ = false ∧ W.frozen? ⟨g, 2, none⟩ = false ∧ W.frozen? ⟨g, 3, none⟩ = false ∧ W.frozen? ⟨g, 4, none⟩ = false) ∧ g < W.heap.size :=
  ⟨⟨by simp [World.cell?, h], by simp [World.cell?, h], by simp [World.cell?, h], by simp [World.cell?, h], by simp [World.cell?, h]⟩, ⟨by simp [World.frozen?, h], by simp [World.frozen?, h], by simp [World.frozen?, h], by simp [World.frozen?, h], by simp [World.frozen?, h]⟩, (Array.getElem?_eq_some_iff.1 h).1⟩
set_option maxHeartbeats 16000000 in
set_option maxRecDepth 100000 in
theorem TakeT_is (s : ByteArray) (a : Int) (r : List Sn) (to er : Int) (w : World) (hs : s.size ≤ 140737488351232) (h : Hid (takeT s a = (r, to, er))) :
    Calls Try.prog 39 #[.string s, .int .i64 a] w fun e w' => ∃ v, e = .returned (.tuple #[v, .int .i64 to, .int .i64 er]) ∧ Row enSn 5 w' v r ∧ Below w.heap.size w w' := by
  obtain ⟨n, p, e0, hg⟩ : ∃ n p e, getV s a = (n, p, e) := ⟨_, _, _, rfl⟩
  have HG := Lib.hid hg
  by_cases he0 : e0 ≠ 0
  · have HV : Hid ((r, to, er) = ([], 0, e0)) := by show _ = _; rw [← h.out]; exact takeT_e hg he0
    have hne : (e0 == 0) = false := by simpa using he0
    clear hg he0
    go_enter Try.func39, Try.ntmps39
    go_wp2_with fail
    with_reducible refine (varGet_is s a n p e0 _ hs HG).mono ?_
    rintro e w1 ⟨rfl, rfl⟩
    go_wp2
    go_ret3
    have := HV.out
    simp only [Prod.mk.injEq] at this
    obtain ⟨rfl, rfl, rfl⟩ := this
    exact ⟨_, rfl, Row.nil _ _ _, Below.refl _ _⟩
  · have he1 : e0 = 0 := Classical.not_not.1 he0
    clear he0
    subst he1
    by_cases hn : 32 < n
    · have HV : Hid ((r, to, er) = ([], 0, 3)) := by show _ = _; rw [← h.out]; exact takeT_n hg hn
      have hn' : (32 : Int) < (n : Int) := by omega
      clear hg
      go_enter Try.func39, Try.ntmps39
      go_wp2_with fail
      with_reducible refine (varGet_is s a n p 0 _ hs HG).mono ?_
      rintro e w1 ⟨rfl, rfl⟩
      go_wp2
      go_ret3
      have := HV.out
      simp only [Prod.mk.injEq] at this
      obtain ⟨rfl, rfl, rfl⟩ := this
      exact ⟨_, rfl, Row.nil _ _ _, Below.refl _ _⟩
    · obtain ⟨r', to', e', hR⟩ : ∃ x y z, rowsT s n p [] = (x, y, z) := ⟨_, _, _, rfl⟩
      have HV : Hid ((r, to, er) = if e' ≠ 0 then ([], 0, e') else if mayT r' then (r', to', 0) else ([], 0, 3)) := by show _ = _; rw [← h.out]; exact takeT_r hg hn hR
      have HR := Lib.hid hR
      have hn' : n ≤ 32 := by omega
      clear hg hR hn h
      go_enter Try.func39, Try.ntmps39
      go_wp2_with fail
      with_reducible refine (varGet_is s a n p 0 _ hs HG).mono ?_
      rintro e w1 ⟨rfl, rfl⟩
      go_wp2
      go_loopw [8, 10, 27] (fun vt vo vc wr => ∃ (k : Nat) (q : Int) (ys : List Sn), vc = .int .u64 k ∧ vt = .int .i64 q ∧ k ≤ n ∧ ys.length = k ∧ Hid (rowsT s (n - k) q ys = (r', to', e')) ∧ Hid (∀ x ∈ ys, rowOk x = true) ∧ Own enSn 5 66 wr w.heap.size vo ys ∧ Below w.heap.size w wr) (fun _ _ vc _ => (n - intOf vc).toNat)
      case atStart => exact ⟨0, p, [], rfl, rfl, Nat.zero_le _, rfl, HR, (show ∀ x ∈ ([] : List Sn), rowOk x = true from fun x hx => by cases hx), Own.nil _ _ _ _ _, Below.refl _ _⟩
      case round =>
        obtain ⟨k, q, ys, rfl, rfl, hk, hys, HT, HY, hO, hB⟩ := hrel
        by_cases hlt : k < n
        · obtain ⟨m, hm⟩ : ∃ m, n - k = m + 1 := ⟨n - k - 1, by omega⟩
          have hm2 : n - (k + 1) = m := by omega
          have HT' := HT.out
          rw [hm] at HT'
          obtain ⟨c, nx, e1, hc⟩ : ∃ x y z, takeN s q = (x, y, z) := ⟨_, _, _, rfl⟩
          have HC := Lib.hid hc
          by_cases he1 : e1 ≠ 0
          · have HF : Hid ((r, to, er) = ([], 0, e1)) := by
              show _ = _
              rw [rowsT_1 hc he1] at HT'
              simp only [Prod.mk.injEq] at HT'
              obtain ⟨_, _, rfl⟩ := HT'
              rw [HV.out, if_pos he1]
            have hne : (e1 == 0) = false := by simpa using he1
            clear hc he1 HT' hm hm2 hys
            go_wp2_with fail
            with_reducible refine (identTake_is _ s q c nx e1 HC hs).mono ?_
            rintro e w3 ⟨rfl, b3⟩
            have h3 := hcall (heap_alloc_new wr (bxSn ⟨#[]⟩ 0 0 0 ⟨#[]⟩)) b3
            obtain ⟨⟨o0, o1, o2, o3, o4⟩, ⟨f0, f1, f2, f3, f4⟩, og⟩ := snopen h3
            replace b3 := bset (below_call (below_box (bxSn ⟨#[]⟩ 0 0 0 ⟨#[]⟩)) b3) wr.heap.size 0 (.string c) (Nat.le_refl _)
            go_wp2
            go_ret3
            have := HF.out
            simp only [Prod.mk.injEq] at this
            obtain ⟨rfl, rfl, rfl⟩ := this
            exact ⟨_, rfl, Row.nil _ _ _, below_call hB b3⟩
          · have he1' : e1 = 0 := Classical.not_not.1 he1
            clear he1
            subst he1'
            obtain ⟨⟨x, y, z, t⟩, en, e2, hv⟩ : ∃ x y z, takeVal s nx = (x, y, z) := ⟨_, _, _, rfl⟩
            have HX := Lib.hid hv
            by_cases he2 : e2 ≠ 0
            · have HF : Hid ((r, to, er) = ([], 0, e2)) := by
                show _ = _
                rw [rowsT_2 hc hv he2] at HT'
                simp only [Prod.mk.injEq] at HT'
                obtain ⟨_, _, rfl⟩ := HT'
                rw [HV.out, if_pos he2]
              have hne : (e2 == 0) = false := by simpa using he2
              clear hc hv he2 HT' hm hm2 hys
              go_wp2_with fail
              with_reducible refine (identTake_is _ s q c nx 0 HC hs).mono ?_
              rintro e w3 ⟨rfl, b3⟩
              have h3 := hcall (heap_alloc_new wr (bxSn ⟨#[]⟩ 0 0 0 ⟨#[]⟩)) b3
              obtain ⟨⟨o0, o1, o2, o3, o4⟩, ⟨f0, f1, f2, f3, f4⟩, og⟩ := snopen h3
              have hs3 : (w3.setCell ⟨wr.heap.size, 0, none⟩ (.string c)).heap[wr.heap.size]? = some (bxSn c 0 0 0 ⟨#[]⟩) := by simp [World.setCell, Array.getElem?_modify, h3]
              replace b3 := bset (below_call (below_box (bxSn ⟨#[]⟩ 0 0 0 ⟨#[]⟩)) b3) wr.heap.size 0 (.string c) (Nat.le_refl _)
              go_wp2_with fail
              with_reducible refine (takeV5 s nx x y z t en e2 _ hs HX).mono ?_
              rintro e w4 ⟨rfl, b4⟩
              have h4 := hcall hs3 b4
              replace b4 := below_call b3 b4
              clear o0 o1 o2 o3 o4 f0 f1 f2 f3 f4 og h3 hs3 b3
              obtain ⟨⟨o0, o1, o2, o3, o4⟩, ⟨f0, f1, f2, f3, f4⟩, og⟩ := snopen h4
              replace b4 := bset (bset (bset (bset b4 wr.heap.size 1 (.int .i64 x) (Nat.le_refl _)) wr.heap.size 2 (.int .i64 y) (Nat.le_refl _)) wr.heap.size 3 (.int .i64 z) (Nat.le_refl _)) wr.heap.size 4 (.string t) (Nat.le_refl _)
              replace hB := below_call hB b4
              go_wp2
              go_ret3
              have := HF.out
              simp only [Prod.mk.injEq] at this
              obtain ⟨rfl, rfl, rfl⟩ := this
              exact ⟨_, rfl, Row.nil _ _ _, hB⟩
            · have he2' : e2 = 0 := Classical.not_not.1 he2
              clear he2
              subst he2'
              have HT2 : Hid (rowsT s (n - (k + 1)) en (ys ++ [⟨c, x, y, z, t⟩]) = (r', to', e')) := by
                show _ = _
                rw [hm2, ← rowsT_3 hc hv]; exact HT'
              have HY2 : Hid (∀ u ∈ ys ++ [(⟨c, x, y, z, t⟩ : Sn)], rowOk u = true) := fun u hu => by
                rcases List.mem_append.1 hu with hu | hu
                · exact HY.out u hu
                · rw [List.mem_singleton.1 hu, rowOk_iff]
                  exact ⟨takeN_name hc, takeVal_may hv⟩
              clear hc hv HT' hm hm2
              go_wp2_with fail
              with_reducible refine (identTake_is _ s q c nx 0 HC hs).mono ?_
              rintro e w3 ⟨rfl, b3⟩
              have h3 := hcall (heap_alloc_new wr (bxSn ⟨#[]⟩ 0 0 0 ⟨#[]⟩)) b3
              obtain ⟨⟨o0, o1, o2, o3, o4⟩, ⟨f0, f1, f2, f3, f4⟩, og⟩ := snopen h3
              have hs3 : (w3.setCell ⟨wr.heap.size, 0, none⟩ (.string c)).heap[wr.heap.size]? = some (bxSn c 0 0 0 ⟨#[]⟩) := by simp [World.setCell, Array.getElem?_modify, h3]
              replace b3 := bset (below_call (below_box (bxSn ⟨#[]⟩ 0 0 0 ⟨#[]⟩)) b3) wr.heap.size 0 (.string c) (Nat.le_refl _)
              go_wp2_with fail
              with_reducible refine (takeV5 s nx x y z t en 0 _ hs HX).mono ?_
              rintro e w4 ⟨rfl, b4⟩
              have h4 := hcall hs3 b4
              replace b4 := below_call b3 b4
              clear o0 o1 o2 o3 o4 f0 f1 f2 f3 f4 og h3 hs3 b3
              obtain ⟨⟨o0, o1, o2, o3, o4⟩, ⟨f0, f1, f2, f3, f4⟩, og⟩ := snopen h4
              replace b4 := bset (bset (bset (bset b4 wr.heap.size 1 (.int .i64 x) (Nat.le_refl _)) wr.heap.size 2 (.int .i64 y) (Nat.le_refl _)) wr.heap.size 3 (.int .i64 z) (Nat.le_refl _)) wr.heap.size 4 (.string t) (Nat.le_refl _)
              have hW : ((((w4.setCell ⟨wr.heap.size, 1, none⟩ (.int .i64 x)).setCell ⟨wr.heap.size, 2, none⟩ (.int .i64 y)).setCell ⟨wr.heap.size, 3, none⟩ (.int .i64 z)).setCell ⟨wr.heap.size, 4, none⟩ (.string t)).heap[wr.heap.size]? = some (bxSn c x y z t) := by simp [World.setCell, Array.getElem?_modify, h4]
              obtain ⟨k0, k1, k2, k3, k4, kz⟩ := cellsSn c x y z t hW
              have hO1 := hO.below b4
              have hB1 := below_call hB b4
              have HZ1 : Hid (((((w4.setCell ⟨wr.heap.size, 1, none⟩ (.int .i64 x)).setCell ⟨wr.heap.size, 2, none⟩ (.int .i64 y)).setCell ⟨wr.heap.size, 3, none⟩ (.int .i64 z)).setCell ⟨wr.heap.size, 4, none⟩ (.string t)).heap.size = w4.heap.size) := by show _ = _; simp [World.setCell]
              clear hO hB b4 hW
              go_wp2_with (at_builtin; refine Own.append (w0 := w) w.heap.size rfl (.tmp 51) (.tmp 53) 44 66 zvSn 5 56 rfl Try.underlying44 infoSn rfl (by decide) _ ys ⟨c, x, y, z, t⟩ (enSn ⟨c, x, y, z, t⟩) rfl (by rw [HZ1.out]; rfl) rfl rfl (enSn_one _) hO1 hB1 hB1.size (by omega) (by omega) ?_; intro v5 w5 hO5 hB5 _ _)
              exact ⟨⟨k + 1, en, ys ++ [⟨c, x, y, z, t⟩], by go_num, rfl, by omega, by rw [List.length_append, hys]; rfl, HT2, HY2, hO5, hB5⟩, by simp [intOf]; omega⟩
        · have hin : k = n := by omega
          subst hin
          have hrr : ys = r' ∧ q = to' ∧ (0 : Int) = e' := by
            have := HT.out
            rw [Nat.sub_self, rowsT] at this
            simpa using this
          obtain ⟨rfl, rfl, rfl⟩ := hrr
          have hzt : SzT ys := fun u hu => by
            have := (rowOk_iff u).1 (HY.out u hu)
            have h1 := name_le _ this.1
            have h2 := (mayV_iff _ _ _ _).1 this.2
            omega
          have hrow := hO.row
          obtain ⟨A2, c2, rfl, _⟩ := hO.slice
          replace hrow : Row enSn 5 wr (.slice A2 k c2) ys := by rw [hys] at hrow; exact hrow
          cases hmt : mayT ys with
          | false =>
            have HF : Hid ((r, to, er) = ([], 0, 3)) := by show _ = _; rw [HV.out, if_neg (by simp), if_neg (by rw [hmt]; decide)]
            have HM := Lib.hid hmt
            clear hmt
            go_wp2_with fail
            with_reducible refine (re_ (MayT_calls k c2 A2 ys _ hrow hzt) (ret_bool HM.out)).mono ?_
            rintro e w3 ⟨rfl, b3⟩
            go_wp2
            go_ret3
            have := HF.out
            simp only [Prod.mk.injEq] at this
            obtain ⟨rfl, rfl, rfl⟩ := this
            exact ⟨_, rfl, Row.nil _ _ _, below_call hB b3⟩
          | true =>
            have HF : Hid ((r, to, er) = (ys, q, 0)) := by show _ = _; rw [HV.out, if_neg (by simp), if_pos hmt]
            have HM := Lib.hid hmt
            clear hmt
            go_wp2_with fail
            with_reducible refine (re_ (MayT_calls k c2 A2 ys _ hrow hzt) (ret_bool HM.out)).mono ?_
            rintro e w3 ⟨rfl, b3⟩
            replace hrow := hrow.below b3
            go_wp2
            go_ret3
            have := HF.out
            simp only [Prod.mk.injEq] at this
            obtain ⟨rfl, rfl, rfl⟩ := this
            exact ⟨_, rfl, hrow, below_call hB b3⟩
end Go.Proofs.Ytcopiimflloooaa
