/-
Layer 13: Set and others of the program.
-/
import Derived.Test.YtocdoddmaopdbaaIxC
import Derived.Test.YtocdoddmaopdbaaMergeB
import Derived.Sort.OwnSorted
set_option linter.unusedVariables false
set_option linter.unusedSimpArgs false
namespace Go.Proofs.Ytocdoddmaopdbaa
open Go.RowKit Go.Maps
open Sp
set_option maxHeartbeats 8000000 in
set_option maxRecDepth 100000 in
theorem set_calls {w : World} {own : Whose} {a b : Nat} {c : Bool → Nat} {P : List Pr} {n : Nat} (h : IdxAt w own a b c P (fun _ => P) n) (p q : ByteArray) (on : Bool) (hp : p.size ≤ maxLen) (hq : q.size ≤ maxLen) (hn : n + 5 < 1000000) (hnd : P.Nodup) :
    Calls Try.prog 12 #[ptr a, .string p, .string q, .bool on] w fun e w' => e = .returned (.bool (setP P p q on).2) ∧ ∃ own', IdxAt w' own' a b c (setP P p q on).1 (fun _ => (setP P p q on).1) (n + 5) ∧ OwnUp own own' w ∧ Turned own w w' := by
  have hl := h.prs.look p q hp hq
  obtain ⟨c0, c1, c2, hz⟩ := h.cellsA
  obtain ⟨x, hx⟩ : ∃ x, inP P p q = x := ⟨_, rfl⟩
  rw [hx] at hl
  unfold setP
  rw [hx]
  by_cases e : x = on
  · subst e
    rw [if_pos rfl]
    clear hx
    go_enter Try.func12, Try.ntmps12
    cases x
    · go_wp2
      go_ret
      exact ⟨rfl, own, h.mono (by omega), OwnUp.refl _ _, Turned.refl _ _⟩
    · go_wp2
      go_ret
      exact ⟨rfl, own, h.mono (by omega), OwnUp.refl _ _, Turned.refl _ _⟩
  · rw [if_neg e]
    have ht := turn_calls h p q on hp hq hn hnd (fun e2 => by cases on; cases e2; cases x; exact hx; exact absurd rfl e)
    clear hx
    go_enter Try.func12, Try.ntmps12
    cases x <;> cases on
    · exact absurd rfl e
    · go_wp2_with fail
      with_reducible refine ht.mono ?_
      rintro e w1 ⟨rfl, own', h1, h2, h3⟩
      go_wp2
      go_ret
      exact ⟨rfl, own', h1, h2, h3⟩
    · go_wp2_with fail
      with_reducible refine ht.mono ?_
      rintro e w1 ⟨rfl, own', h1, h2, h3⟩
      go_wp2
      go_ret
      exact ⟨rfl, own', h1, h2, h3⟩
    · exact absurd rfl e
def sdI (s : Bool) : Int := if s then 1 else 0
/-- The pair of a name on a side and another one. -/
def prO (s : Bool) (u x : ByteArray) : Pr := if s then (x, u) else (u, x)
theorem sd_eq {s : Bool} {x : Pr} {u : ByteArray} (h : sd s x = u) : x = prO s u (sd (!s) x) := by
  subst h
  cases s <;> rfl
theorem prO_sd (s : Bool) (u x : ByteArray) : sd s (prO s u x) = u ∧ sd (!s) (prO s u x) = x := by cases s <;> exact ⟨rfl, rfl⟩
theorem sideP_of {L : List Pr} {u : ByteArray} {s : Bool} {out : List ByteArray} (h : ∀ x, x ∈ out ↔ prO s u x ∈ L) : mergeS out [] = sideP L u s := by
  refine mergeS_eq _ _ _ (mergeS_sorted _ _) fun x => ?_
  rw [sideP, mergeS_mem]
  simp only [List.mem_map, List.mem_filter, decide_eq_true_eq, List.not_mem_nil, or_false]
  rw [h]
  constructor
  · rintro ⟨y, ⟨hy, e⟩, rfl⟩
    rw [← sd_eq e]
    exact hy
  · intro hx
    exact ⟨prO s u x, ⟨hx, (prO_sd s u x).1⟩, (prO_sd s u x).2⟩
theorem sd_agP (s : Bool) (p q : ByteArray) : sd s (p, q) = if s then q else p := rfl
set_option maxHeartbeats 16000000 in
set_option maxRecDepth 100000 in
theorem others_false {w : World} {own : Whose} {a b : Nat} {c : Bool → Nat} {P : List Pr} {n : Nat} (h : IdxAt w own a b c P (fun _ => P) n) (u : ByteArray) (hu : u.size ≤ maxLen) (hn : n ≤ 500000) (hsz : ∀ x ∈ P, x.1.size ≤ maxLen ∧ x.2.size ≤ maxLen) :
    Calls Try.prog 30 #[ptr a, .string u, .int .i64 0] w fun e w' => ∃ v, e = .returned v ∧ Row enS 1 w' v (sideP P u false) ∧ Below w.heap.size w w' := by
  obtain ⟨c0, c1, c2, hz⟩ := h.cellsA
  rcases h.look false u hu (by omega) with ⟨g, hlk, hog, m, D, hown, hD1, hD2, hD3⟩ | ⟨hlk, hno, -⟩
  · have hgm : g < w.heap.size := hown.lt
    have hDm : ∀ x y : ByteArray, x.size ≤ maxLen → y.size ≤ maxLen → Maps.has D (keyP x y) = true → (x, y) ∈ P ∧ x = u := fun x y hx hy hh => by
      rw [hD1 x y hx hy, Bool.and_eq_true, decide_eq_true_eq] at hh
      exact ⟨inP_iff.1 hh.1, hh.2⟩
    have hDn : ∀ x, prO false u x ∈ P → Maps.has D (keyP (prO false u x).1 (prO false u x).2) = true := fun x hx => by
      rw [hD1 _ _ (hsz _ hx).1 (hsz _ hx).2, Bool.and_eq_true, decide_eq_true_eq]
      exact ⟨inP_iff.2 hx, (prO_sd false u x).1⟩
    have hsl := hown.size_le
    clear hD1 hD3 hog
    go_enter Try.func30, Try.ntmps30
    go_wp2_with (first | (at_range; refine wpList_range_own _ rfl _ 51 rfl 56 4 mapLawP Try.underlying51 (plainElem Try.prog 4) g n D rfl hown ?_; intro w0 hrg0 hg0 hs0) | go_in)
    go_frame
    go_loopw [7] (fun v7 wr => ∃ (left : Lit → Bool) (cnt : Nat) (out : List ByteArray), wr.ranges Try.prog 56 (plainElem Try.prog 4) g w.heap.size n D left cnt ∧ Own enS 1 9 wr w.heap.size v7 out ∧ (∀ x, x ∈ out ↔ prO false u x ∈ P ∧ left (keyP (prO false u x).1 (prO false u x).2) = false) ∧ (∀ kl, left kl = true → Maps.has D kl = true) ∧ out.length + cnt ≤ n ∧ Below w.heap.size w wr) (fun _ wr => wr.rangeLeft g w.heap.size)
    case atStart =>
      refine ⟨_, _, [], hrg0, Own.nil _ _ _ _ _, fun x => ⟨fun hx => (by cases hx), fun hx => ?_⟩, fun kl hk => hk, by simpa using hsl, ⟨hg0.os, hg0.tape, hg0.output, hg0.size, fun i hi => hg0.block i hi (by simp)⟩⟩
      rw [hDn x hx.1] at hx
      cases hx.2
    case round =>
      obtain ⟨left, cnt, out, hrg, hO, hm, hlD, hc, hB⟩ := hrel
      obtain ⟨A, cc, rfl, hcc⟩ := hO.slice
      have hBS := hB.size
      have hrlt := hrg.lt
      go_wp2_with (at_next; refine next_P _ rfl _ rfl g w.heap.size n D left cnt rfl hrg hD2 ?_ ?_)
      · intro hc0 hl0
        have hF : Hid (mergeS out [] = sideP P u false) := sideP_of (s := false) fun x => by rw [hm x]; exact ⟨fun hx => hx.1, fun hx => ⟨hx, hl0 _⟩⟩
        have hol : out.length ≤ 524288 := by omega
        go_wp2_with fail
        with_reducible refine (Merge_calls _ _ _ _ _ _ out [] _ hO.row (Row.nil _ _ _) hol (by decide)).mono ?_
        rintro e w3 ⟨v, rfl, hv, b3⟩
        go_wp2
        go_ret
        exact ⟨v, rfl, by rw [← hF.out]; exact hv, below_call hB b3⟩
      · intro x y w1 cnt1 hx hy hlx hDx hrg1 hlt hg1 hs1 hen
        obtain ⟨hxP, hxu⟩ := hDm x y hx hy hDx
        have HXU := Lib.hid hxu
        clear hxu
        have hB1 : Below w.heap.size w w1 := ⟨hg1.os.trans hB.os, hg1.tape.trans hB.tape, hg1.output.trans hB.output, Nat.le_trans hB.size hg1.size, fun i hi => (hg1.block i (Nat.lt_of_lt_of_le hi hB.size) (fun e => by injection e with e; omega)).trans (hB.block i hi)⟩
        have hO1 := hO.kept hg1 (by rcases hq : (Value.slice A out.length cc).ownBlock with _ | q; exact .inl rfl; exact .inr (fun e => row_ne_iter hO hrg (by rw [hq]; exact e.symm)))
        have hB2 := below_alloc0 hB1 (.cells #[.string x, .string y] 56)
        have hO2 := hO1.alloc (.cells #[.string x, .string y] 56)
        have hrg2 := hrg1.alloc (.cells #[.string x, .string y] 56)
        have HZ : Hid ((w1.alloc (.cells #[.string x, .string y] 56)).heap.size = wr.heap.size + 1) := by show _ = _; rw [size_alloc, hs1]
        have hc1 : (w1.alloc (.cells #[.string x, .string y] 56)).cell? ⟨wr.heap.size, 1, none⟩ = some (.string y) := by
          have hnb := heap_alloc_new w1 (.cells #[.string x, .string y] 56)
          rw [← hs1]
          unfold World.cell?
          simp only
          rw [hnb]
          rfl
        go_wp2_with (at_builtin; refine Own.append (w0 := w) w.heap.size rfl (.tmp 24) (.tmp 29) 38 9 (.string ⟨#[]⟩) 1 16 rfl Try.underlying38 info_str rfl (by decide) _ out y [.string y] rfl (by rw [HZ.out]; rfl) rfl rfl (enS_one _) hO2 hB2 hB2.size (by omega) (by omega) ?_; intro v4 w4 hO4 hB4 hg4 hq4)
        have hrg4 := hrg2.kept hg4 (row_ne_low hO2 hgm) (row_ne_iter hO2 hrg2)
        refine ⟨⟨_, cnt1, out ++ [y], hrg4, hO4, fun z => ?_, fun kl hk => ?_, ?_, hB4⟩, ?_⟩
        · rw [List.mem_append, List.mem_singleton, hm z]
          constructor
          · rintro (⟨h1, h2⟩ | ez)
            · exact ⟨h1, by simp [h2]⟩
            · rw [ez]
              have e1 : prO false u y = (x, y) := by rw [← HXU.out]; rfl
              rw [e1]
              exact ⟨hxP, by simp [WideAt.sameKey_self (keyP_key x y)]⟩
          · rintro ⟨h1, h2⟩
            by_cases e : z = y
            · exact .inr e
            · left
              refine ⟨h1, ?_⟩
              rw [sameKey_ne (fun e2 => e ?_)] at h2
              · simpa using h2
              · have h3 := keyP_inj (hsz _ h1).1 (hsz _ h1).2 hx hy e2
                exact h3.2
        · rw [Bool.and_eq_true] at hk
          exact hlD kl hk.1
        · rw [List.length_append, List.length_singleton]
          omega
        · rw [hrg4.left_eq, hrg.left_eq]
          exact hlt
  · have hr := run_range_nilMap (P := Try.prog) w 51 56 4 Try.underlying51
    have hx := fun ty => run_next_nilMap (P := Try.prog) w ty 0 0 #[]
    have hF : Hid (mergeS [] [] = sideP P u false) := sideP_of (s := false) fun x => ⟨fun hx => (by cases hx), fun hx => absurd (prO_sd false u x).1 (hno _ hx)⟩
    go_enter Try.func30, Try.ntmps30
    go_wp2_with fail
    refine wp_loop_rounds 1 ?_
    rw [rounds_succ]
    go_wp2_with fail
    with_reducible refine (Merge_calls _ _ _ _ _ _ [] [] _ (Row.nil _ _ _) (Row.nil _ _ _) (by decide) (by decide)).mono ?_
    rintro e w3 ⟨v, rfl, hv, b3⟩
    go_wp2
    go_ret
    exact ⟨v, rfl, by rw [← hF.out]; exact hv, below_call (below_box _) b3⟩
set_option maxHeartbeats 16000000 in
set_option maxRecDepth 100000 in
theorem others_true {w : World} {own : Whose} {a b : Nat} {c : Bool → Nat} {P : List Pr} {n : Nat} (h : IdxAt w own a b c P (fun _ => P) n) (u : ByteArray) (hu : u.size ≤ maxLen) (hn : n ≤ 500000) (hsz : ∀ x ∈ P, x.1.size ≤ maxLen ∧ x.2.size ≤ maxLen) :
    Calls Try.prog 30 #[ptr a, .string u, .int .i64 1] w fun e w' => ∃ v, e = .returned v ∧ Row enS 1 w' v (sideP P u true) ∧ Below w.heap.size w w' := by
  obtain ⟨c0, c1, c2, hz⟩ := h.cellsA
  rcases h.look true u hu (by omega) with ⟨g, hlk, hog, m, D, hown, hD1, hD2, hD3⟩ | ⟨hlk, hno, -⟩
  · have hgm : g < w.heap.size := hown.lt
    have hDm : ∀ x y : ByteArray, x.size ≤ maxLen → y.size ≤ maxLen → Maps.has D (keyP x y) = true → (x, y) ∈ P ∧ y = u := fun x y hx hy hh => by
      rw [hD1 x y hx hy, Bool.and_eq_true, decide_eq_true_eq] at hh
      exact ⟨inP_iff.1 hh.1, hh.2⟩
    have hDn : ∀ x, prO true u x ∈ P → Maps.has D (keyP (prO true u x).1 (prO true u x).2) = true := fun x hx => by
      rw [hD1 _ _ (hsz _ hx).1 (hsz _ hx).2, Bool.and_eq_true, decide_eq_true_eq]
      exact ⟨inP_iff.2 hx, (prO_sd true u x).1⟩
    have hsl := hown.size_le
    clear hD1 hD3 hog
    go_enter Try.func30, Try.ntmps30
    go_wp2_with (first | (at_range; refine wpList_range_own _ rfl _ 51 rfl 56 4 mapLawP Try.underlying51 (plainElem Try.prog 4) g n D rfl hown ?_; intro w0 hrg0 hg0 hs0) | go_in)
    go_frame
    go_loopw [7] (fun v7 wr => ∃ (left : Lit → Bool) (cnt : Nat) (out : List ByteArray), wr.ranges Try.prog 56 (plainElem Try.prog 4) g w.heap.size n D left cnt ∧ Own enS 1 9 wr w.heap.size v7 out ∧ (∀ x, x ∈ out ↔ prO true u x ∈ P ∧ left (keyP (prO true u x).1 (prO true u x).2) = false) ∧ (∀ kl, left kl = true → Maps.has D kl = true) ∧ out.length + cnt ≤ n ∧ Below w.heap.size w wr) (fun _ wr => wr.rangeLeft g w.heap.size)
    case atStart =>
      refine ⟨_, _, [], hrg0, Own.nil _ _ _ _ _, fun x => ⟨fun hx => (by cases hx), fun hx => ?_⟩, fun kl hk => hk, by simpa using hsl, ⟨hg0.os, hg0.tape, hg0.output, hg0.size, fun i hi => hg0.block i hi (by simp)⟩⟩
      rw [hDn x hx.1] at hx
      cases hx.2
    case round =>
      obtain ⟨left, cnt, out, hrg, hO, hm, hlD, hc, hB⟩ := hrel
      obtain ⟨A, cc, rfl, hcc⟩ := hO.slice
      have hBS := hB.size
      have hrlt := hrg.lt
      go_wp2_with (at_next; refine next_P _ rfl _ rfl g w.heap.size n D left cnt rfl hrg hD2 ?_ ?_)
      · intro hc0 hl0
        have hF : Hid (mergeS out [] = sideP P u true) := sideP_of (s := true) fun x => by rw [hm x]; exact ⟨fun hx => hx.1, fun hx => ⟨hx, hl0 _⟩⟩
        have hol : out.length ≤ 524288 := by omega
        go_wp2_with fail
        with_reducible refine (Merge_calls _ _ _ _ _ _ out [] _ hO.row (Row.nil _ _ _) hol (by decide)).mono ?_
        rintro e w3 ⟨v, rfl, hv, b3⟩
        go_wp2
        go_ret
        exact ⟨v, rfl, by rw [← hF.out]; exact hv, below_call hB b3⟩
      · intro x y w1 cnt1 hx hy hlx hDx hrg1 hlt hg1 hs1 hen
        obtain ⟨hxP, hxu⟩ := hDm x y hx hy hDx
        have HXU := Lib.hid hxu
        clear hxu
        have hB1 : Below w.heap.size w w1 := ⟨hg1.os.trans hB.os, hg1.tape.trans hB.tape, hg1.output.trans hB.output, Nat.le_trans hB.size hg1.size, fun i hi => (hg1.block i (Nat.lt_of_lt_of_le hi hB.size) (fun e => by injection e with e; omega)).trans (hB.block i hi)⟩
        have hO1 := hO.kept hg1 (by rcases hq : (Value.slice A out.length cc).ownBlock with _ | q; exact .inl rfl; exact .inr (fun e => row_ne_iter hO hrg (by rw [hq]; exact e.symm)))
        have hB2 := below_alloc0 hB1 (.cells #[.string x, .string y] 56)
        have hO2 := hO1.alloc (.cells #[.string x, .string y] 56)
        have hrg2 := hrg1.alloc (.cells #[.string x, .string y] 56)
        have HZ : Hid ((w1.alloc (.cells #[.string x, .string y] 56)).heap.size = wr.heap.size + 1) := by show _ = _; rw [size_alloc, hs1]
        have hc1 : (w1.alloc (.cells #[.string x, .string y] 56)).cell? ⟨wr.heap.size, 0, none⟩ = some (.string x) := by
          have hnb := heap_alloc_new w1 (.cells #[.string x, .string y] 56)
          rw [← hs1]
          unfold World.cell?
          simp only
          rw [hnb]
          rfl
        go_wp2_with (at_builtin; refine Own.append (w0 := w) w.heap.size rfl (.tmp 24) (.tmp 29) 38 9 (.string ⟨#[]⟩) 1 16 rfl Try.underlying38 info_str rfl (by decide) _ out x [.string x] rfl (by rw [HZ.out]; rfl) rfl rfl (enS_one _) hO2 hB2 hB2.size (by omega) (by omega) ?_; intro v4 w4 hO4 hB4 hg4 hq4)
        have hrg4 := hrg2.kept hg4 (row_ne_low hO2 hgm) (row_ne_iter hO2 hrg2)
        refine ⟨⟨_, cnt1, out ++ [x], hrg4, hO4, fun z => ?_, fun kl hk => ?_, ?_, hB4⟩, ?_⟩
        · rw [List.mem_append, List.mem_singleton, hm z]
          constructor
          · rintro (⟨h1, h2⟩ | ez)
            · exact ⟨h1, by simp [h2]⟩
            · rw [ez]
              have e1 : prO true u x = (x, y) := by rw [← HXU.out]; rfl
              rw [e1]
              exact ⟨hxP, by simp [WideAt.sameKey_self (keyP_key x y)]⟩
          · rintro ⟨h1, h2⟩
            by_cases e : z = x
            · exact .inr e
            · left
              refine ⟨h1, ?_⟩
              rw [sameKey_ne (fun e2 => e ?_)] at h2
              · simpa using h2
              · have h3 := keyP_inj (hsz _ h1).1 (hsz _ h1).2 hx hy e2
                exact h3.1
        · rw [Bool.and_eq_true] at hk
          exact hlD kl hk.1
        · rw [List.length_append, List.length_singleton]
          omega
        · rw [hrg4.left_eq, hrg.left_eq]
          exact hlt
  · have hr := run_range_nilMap (P := Try.prog) w 51 56 4 Try.underlying51
    have hx := fun ty => run_next_nilMap (P := Try.prog) w ty 0 0 #[]
    have hF : Hid (mergeS [] [] = sideP P u true) := sideP_of (s := true) fun x => ⟨fun hx => (by cases hx), fun hx => absurd (prO_sd true u x).1 (hno _ hx)⟩
    go_enter Try.func30, Try.ntmps30
    go_wp2_with fail
    refine wp_loop_rounds 1 ?_
    rw [rounds_succ]
    go_wp2_with fail
    with_reducible refine (Merge_calls _ _ _ _ _ _ [] [] _ (Row.nil _ _ _) (Row.nil _ _ _) (by decide) (by decide)).mono ?_
    rintro e w3 ⟨v, rfl, hv, b3⟩
    go_wp2
    go_ret
    exact ⟨v, rfl, by rw [← hF.out]; exact hv, below_call (below_box _) b3⟩
theorem others_calls {w : World} {own : Whose} {a b : Nat} {c : Bool → Nat} {P : List Pr} {n : Nat} (h : IdxAt w own a b c P (fun _ => P) n) (u : ByteArray) (s : Bool) (hu : u.size ≤ maxLen) (hn : n ≤ 500000) (hsz : ∀ x ∈ P, x.1.size ≤ maxLen ∧ x.2.size ≤ maxLen) :
    Calls Try.prog 30 #[ptr a, .string u, .int .i64 (sdI s)] w fun e w' => ∃ v, e = .returned v ∧ Row enS 1 w' v (sideP P u s) ∧ Below w.heap.size w w' := by
  cases s
  · exact others_false h u hu hn hsz
  · exact others_true h u hu hn hsz
set_option maxHeartbeats 16000000 in
set_option maxRecDepth 100000 in
theorem watchers_calls {w : World} {own : Whose} {a b : Nat} {c : Bool → Nat} {P : List Pr} {n : Nat} (h : IdxAt w own a b c P (fun _ => P) n) (u : ByteArray) (hu : u.size ≤ maxLen) (hn : n ≤ 500000) (hsz : ∀ x ∈ P, x.1.size ≤ maxLen ∧ x.2.size ≤ maxLen) :
    Calls Try.prog 20 #[ptr a, .string u] w fun e w' => ∃ v, e = .returned v ∧ Row enS 1 w' v (sideP P u true) ∧ Below w.heap.size w w' := by
  go_enter Try.func20, Try.ntmps20
  go_wp2_with fail
  with_reducible refine (others_true h u hu hn hsz).mono ?_
  rintro e w1 ⟨v, rfl, hv, b⟩
  go_wp2
  go_ret
  exact ⟨v, rfl, hv, b⟩
set_option maxHeartbeats 16000000 in
set_option maxRecDepth 100000 in
theorem contacts_calls {w : World} {own : Whose} {a b : Nat} {c : Bool → Nat} {P : List Pr} {n : Nat} (h : IdxAt w own a b c P (fun _ => P) n) (u : ByteArray) (hu : u.size ≤ maxLen) (hn : n ≤ 500000) (hsz : ∀ x ∈ P, x.1.size ≤ maxLen ∧ x.2.size ≤ maxLen) :
    Calls Try.prog 22 #[ptr a, .string u] w fun e w' => ∃ v, e = .returned v ∧ Row enS 1 w' v (sideP P u false) ∧ Below w.heap.size w w' := by
  go_enter Try.func22, Try.ntmps22
  go_wp2_with fail
  with_reducible refine (others_false h u hu hn hsz).mono ?_
  rintro e w1 ⟨v, rfl, hv, b⟩
  go_wp2
  go_ret
  exact ⟨v, rfl, hv, b⟩
end Go.Proofs.Ytocdoddmaopdbaa
