/-
Layer 5: a change set in a table, by the document.
A value compared with another one.
Layer 5: the changes from a table to another one, by the document.
-/
import Derived.Test.YtcopiimflloooaaDigKN
import Derived.BigQuiet
import Derived.Test.YtcopiimflloooaaProg
import Derived.Test.YtcopiimflloooaaLib
import Derived.Test.YtcopiimflloooaaDigA
import Derived.Deep.RegionLaw
import Derived.Deep.AppendLies
set_option linter.unusedVariables false
set_option linter.unusedSimpArgs false
namespace Go.Proofs.Ytcopiimflloooaa
open Go.RowKit
open Sp
theorem quiet_l5 {P : Program} {f : FuncId} {args : Array Value} {w : World} {n : Nat} {v : Value}
    (h : Calls P f args (w.drewN n) fun e w' => e = .returned v ∧ w.drewN n = w') : Calls P f args (w.drewN n) fun e w'' => e = .returned v ∧ ∃ m, w'' = w.drewN m :=
  h.mono fun _ _ ⟨he, hm⟩ => ⟨he, n, hm.symm⟩
theorem quiet_al5 {P : Program} {f : FuncId} {args : Array Value} {w : World} {a n : Nat} {v : Value}
    (h : Calls P f args (w.drewN (a + n)) fun e w' => e = .returned v ∧ w.drewN (a + n) = w') :
    Calls P f args (w.drewN (a + n)) fun e w'' => e = .returned v ∧ ∃ m, w'' = w.drewN (a + m) :=
  h.mono fun _ _ ⟨he, hm⟩ => ⟨he, n, hm.symm⟩
theorem far5 {v4 v : Value} {H H' : Nat} (h : v4.ownBlock = v.ownBlock ∨ ∃ b, v4.ownBlock = some b ∧ H' ≤ b) (hv : v.ownBlock = some H) (hH : H ≤ H') : ∀ g, v4.ownBlock = some g → H ≤ g := by
  intro g hg
  rcases h with h | ⟨b, h, hb⟩
  · rw [h, hv] at hg
    exact Nat.le_of_eq (Option.some.inj hg)
  · rw [h] at hg
    have := Option.some.inj hg
    omega
theorem Own.at05 {α : Type} {enc : α → List Value} {k : Nat} {e : TypeId} {w : World} {base : Nat} {A : Option Addr} {n c : Nat} {xs : List α} (h : Own enc k e w base (.slice A n c) xs) (hp : 0 < xs.length) : ∃ b, A = some b := by
  rcases h.2 with ⟨_, h0⟩ | ⟨b, c', cur, he, hb, hc, _⟩
  · omega
  · injection he with e1
    exact ⟨_, e1⟩
set_option maxHeartbeats 32000000 in
set_option maxRecDepth 100000 in
theorem refSetT_calls (n c : Nat) (A : Option Addr) (l : List Sn) (q : ByteArray) (on : Bool) (x y z : Int) (t : ByteArray) (w : World) (hl : Row enSn 5 w (.slice A n c) l) (hn : n ≤ 1000) :
    Calls Try.prog 45 #[.slice A n c, .agg #[.string q, .bool on, .int .i64 x, .int .i64 y, .int .i64 z, .string t]] w fun e w' => ∃ v, e = .returned v ∧ Row enSn 5 w' v (setT l ⟨q, on, x, y, z, t⟩) ∧ Below w.heap.size w w' := by
  have EA := Lib.hid hl.len_eq
  have hbx := heap_alloc_new w (bxCh q on x y z t)
  have D := below_box (w := w) (bxCh q on x y z t)
  have hen : ∀ W : World, Own enSn 5 66 (W.alloc (.cells #[] 66)) W.heap.size (.slice (some ⟨W.heap.size, 0, none⟩) 0 0) [] := fun W => Own.lit enSn_len W [] #[] 0 rfl rfl (Nat.le_refl _) (by omega)
  have HEN := Lib.hid hen
  clear hen
  have HRE : Hid (∀ (W : World) (A' : Option Addr) (c' : Nat), c' ≤ 9223372036854775807 → Row enSn 5 W (.slice A' 0 c') []) := fun W A' c' h => Row.empty enSn 5 W A' c' h
  go_enter Try.func45, Try.ntmps45
  go_wp2
  go_loopw [5, 6] (fun vo vc wr => ∃ (i : Nat) (ys : List Sn), vc = .int .i64 i ∧ i ≤ n ∧ ys.length ≤ i ∧ Hid ((l.take i).filter (notC q) = ys) ∧ Own enSn 5 66 wr (w.alloc (bxCh q on x y z t)).heap.size vo ys ∧ Below (w.alloc (bxCh q on x y z t)).heap.size (w.alloc (bxCh q on x y z t)) wr) (fun _ vc _ => (n - intOf vc).toNat)
  case atStart => exact ⟨0, [], rfl, Nat.zero_le _, Nat.le_refl _, rfl, Own.nil _ _ _ _ _, Below.refl _ _⟩
  case round =>
    obtain ⟨i, ys, rfl, hi, hys, HT, hO, hB⟩ := hrel
    obtain ⟨k0, k1, k2, k3, k4, k5, kz⟩ := cellsCh q on x y z t (hcall hbx hB)
    by_cases hlt : i < n
    · have hil : i < l.length := by have := EA.out; omega
      obtain ⟨⟨a_, b_, c_, d_, e_⟩, he⟩ : ∃ e, l[i] = e := ⟨_, rfl⟩
      obtain ⟨ad, rfl, c0, c1, c2, c3, c4⟩ := rowSn (hl.below (below_call D hB)) i hil a_ b_ c_ d_ e_ he
      have HE := Lib.hid he
      clear he
      have x1 : (0 : Int) ≤ (i : Int) := by omega
      have x2 : (i : Int) < (n : Int) := by omega
      by_cases hq : a_ = q
      · have HT2 : Hid ((l.take (i + 1)).filter (notC q) = ys) := by
          show _ = _
          rw [List.take_succ_eq_append_getElem hil, HE.out, List.filter_append, HT.out]
          simp [notC, hq]
        replace hq := hq.symm
        subst hq
        go_wp2_with fail
        go_quiet (fail)
        have hB2 : Below (w.alloc (bxCh q on x y z t)).heap.size (w.alloc (bxCh q on x y z t)) (wr.drewN nq) := below_drewN hB _
        have hO2 : Own enSn 5 66 (wr.drewN nq) (w.alloc (bxCh q on x y z t)).heap.size _ ys := hO.drewN _
        go_wp2
        exact ⟨⟨i + 1, ys, by go_num, by omega, by omega, HT2, hO2, hB2⟩, by simp [intOf]; omega⟩
      · have HT2 : Hid ((l.take (i + 1)).filter (notC q) = ys ++ [⟨a_, b_, c_, d_, e_⟩]) := by
          show _ = _
          rw [List.take_succ_eq_append_getElem hil, HE.out, List.filter_append, HT.out]
          simp [notC, hq]
        have hne : ¬ a_ = q := hq
        have hne2 : (a_.toList == q.toList) = false := by simpa [toList_inj'] using hne
        have hne3 : ¬ a_.toList = q.toList := by simpa [toList_inj'] using hne
        clear hq
        go_wp2_with fail
        go_quiet (fail)
        have hB2 : Below (w.alloc (bxCh q on x y z t)).heap.size (w.alloc (bxCh q on x y z t)) (wr.drewN nq) := below_drewN hB _
        have hO2 : Own enSn 5 66 (wr.drewN nq) (w.alloc (bxCh q on x y z t)).heap.size _ ys := hO.drewN _
        go_wp2_with (at_builtin; refine Own.append (w0 := (w.alloc (bxCh q on x y z t))) (w.alloc (bxCh q on x y z t)).heap.size rfl (.tmp 24) (.tmp 29) 44 66 zvSn 5 56 rfl Try.underlying44 infoSn rfl (by decide) _ ys ⟨a_, b_, c_, d_, e_⟩ (enSn ⟨a_, b_, c_, d_, e_⟩) rfl rfl rfl rfl (enSn_one _) hO2 hB2 hB2.size (by omega) (by omega) ?_; intro v6 w6 hO6 hB6 _ _)
        exact ⟨⟨i + 1, ys ++ [⟨a_, b_, c_, d_, e_⟩], by go_num, by omega, by rw [List.length_append]; simp only [List.length_cons, List.length_nil]; omega, HT2, hO6, hB6⟩, by simp [intOf]; omega⟩
    · have hin : i = n := by omega
      have HR : Hid (restT l q = ys) := by
        show _ = _
        have := HT.out
        rwa [List.take_of_length_le (by have := EA.out; omega)] at this
      clear HT
      have hyl : ys.length ≤ 1000 := by omega
      cases on with
      | false =>
        have HF : Hid (setT l ⟨q, false, x, y, z, t⟩ = ys) := by
          show _ = _
          unfold setT
          rw [if_neg (by simp)]
          exact HR.out
        have hrow := hO.row
        clear hO
        go_wp2
        go_ret
        rw [HF.out]
        exact ⟨_, rfl, hrow, below_call D hB⟩
      | true =>
        have HF : Hid (setT l ⟨q, true, x, y, z, t⟩ = ys.take (atT ys q) ++ ⟨q, x, y, z, t⟩ :: ys.drop (atT ys q)) := by
          show _ = _
          unfold setT
          rw [if_pos rfl]
          simp only
          rw [show restT l q = ys from HR.out]
        clear HR hys
        obtain ⟨r, hr⟩ : ∃ r, ys = r := ⟨_, rfl⟩
        subst hr
        obtain ⟨A2, c2, rfl, hc2⟩ := hO.slice
        have r2 := hO.row
        have hcm : c2 ≤ 9223372036854775807 := by
          obtain ⟨A', c', he, h1, h2, _⟩ := r2
          injection he with e1 e2 e3
          subst e3
          simpa [maxLen] using h2
        have hat0 : 0 < ys.length → ∃ ad, A2 = some ad := fun h => hO.at05 h
        have HA := Lib.hid hat0
        clear hat0 hO
        have hs1 := hB.size
        have hB1 := hB
        obtain ⟨wb, hwb⟩ : ∃ wb, wr = wb := ⟨_, rfl⟩
        subst hwb
        go_wp2
        clear hlt hi hin
        go_loopw [7, 8] (fun va vk wr => ∃ (k : Nat) (p : Nat), vk = .int .i64 k ∧ va = .int .i64 p ∧ k ≤ ys.length ∧ p ≤ k ∧ Hid (atT (ys.take k) q = p) ∧ Row enSn 5 wr (.slice A2 ys.length c2) ys ∧ Below (w.alloc (bxCh q true x y z t)).heap.size (w.alloc (bxCh q true x y z t)) wr) (fun _ vk _ => (ys.length - intOf vk).toNat)
        case atStart => exact ⟨0, 0, rfl, rfl, Nat.zero_le _, Nat.le_refl _, rfl, r2, hB⟩
        case round =>
          clear r2 hB hB1 hs1 k0 k1 k2 k3 k4 k5 kz
          obtain ⟨k, p, rfl, rfl, hk, hp, HT, r2, hB⟩ := hrel
          obtain ⟨k0, k1, k2, k3, k4, k5, kz⟩ := cellsCh q true x y z t (hcall hbx hB)
          by_cases hlt : k < ys.length
          · obtain ⟨⟨a_, b_, c_, d_, e_⟩, he⟩ : ∃ e, ys[k] = e := ⟨_, rfl⟩
            obtain ⟨ad, rfl, c0, c1, c2', c3, c4⟩ := rowSn r2 k hlt a_ b_ c_ d_ e_ he
            obtain ⟨bl, hbl⟩ : ∃ b, less a_ q = b := ⟨_, rfl⟩
            have hat := atT_take ys k hlt _ he q
            simp only at hat
            rw [hbl, HT.out] at hat
            have HL := Lib.hid hbl
            have HAT := Lib.hid hat
            have x1 : (0 : Int) ≤ (k : Int) := by omega
            have x2 : (k : Int) < (ys.length : Int) := by omega
            clear hbl hat he HT
            go_wp2_with fail
            go_quiet ((go_at_call 29; first | exact quiet_l5 (refLess_is _ a_ q bl HL) | exact quiet_al5 (refLess_is _ a_ q bl HL)))
            have hB2 : Below (w.alloc (bxCh q true x y z t)).heap.size (w.alloc (bxCh q true x y z t)) (wr.drewN nq) := below_drewN hB _
            have r3 : Row enSn 5 (wr.drewN nq) (.slice (some ad) ys.length c2) ys := r2.drewN _
            clear hB r2
            cases bl with
            | true =>
              have HT2 : Hid (atT (ys.take (k + 1)) q = k + 1) := by show _ = _; rw [HAT.out]; rfl
              go_wp2
              exact ⟨⟨k + 1, k + 1, by go_num, by go_num, by omega, Nat.le_refl _, HT2, r3, hB2⟩, by simp [intOf]; omega⟩
            | false =>
              have HT2 : Hid (atT (ys.take (k + 1)) q = p) := by show _ = _; rw [HAT.out]; rfl
              go_wp2
              exact ⟨⟨k + 1, p, by go_num, rfl, by omega, by omega, HT2, r3, hB2⟩, by simp [intOf]; omega⟩
          · have hkl : k = ys.length := by omega
            have hat : atT ys q = p := by
              have := HT.out
              rwa [List.take_of_length_le (by omega)] at this
            have HF2 : Hid (setT l ⟨q, true, x, y, z, t⟩ = ys.take p ++ ⟨q, x, y, z, t⟩ :: ys.drop p) := by show _ = _; rw [HF.out, hat]
            clear HF HT hat
            subst hkl
            have HZ1 : Hid (ys.length ≤ 1000) := hyl
            have HTK := Lib.hid (r2.take enSn_len p (by omega))
            have B3K : Hid (Below wr.heap.size wr (wr.alloc (.cells #[] 66))) := below_box _
            by_cases h0 : ys.length = 0
            · have hye : ys = [] := List.length_eq_zero_iff.1 h0
              subst hye
              have hp0 : p = 0 := by simpa using hp
              subst hp0
              have O2 := (HEN.out wr).lower (base' := (w.alloc (bxCh q true x y z t)).heap.size) hB.size
              have B3 := hB.alloc hB.size (.cells #[] 66)
              go_wp2_with (first | (at_builtin; refine Own.appendRow (w0 := (w.alloc (bxCh q true x y z t))) (w.alloc (bxCh q true x y z t)).heap.size rfl (.tmp 51) (.tmp 54) 44 66 zvSn 5 56 rfl Try.underlying44 infoSn rfl (by decide) (.slice (some ⟨wr.heap.size, 0, none⟩) 0 0) (.slice A2 0 c2) [] [] rfl rfl enSn_one O2 (HTK.out.below B3K.out) B3 B3.size (by have := HZ1.out; simp only [List.length_append, List.length_nil, List.length_cons, List.length_take, List.length_drop]; omega) (by have := HZ1.out; simp only [List.length_append, List.length_nil, List.length_cons, List.length_take, List.length_drop]; omega) ?_; intro v4 w4 hO4 hB4 hG4 hW4; (obtain ⟨k0, k1, k2, k3, k4, k5, kz⟩ := cellsCh q true x y z t (hcall hbx hB4))) | (at_builtin; refine Own.append (w0 := (w.alloc (bxCh q true x y z t))) (w.alloc (bxCh q true x y z t)).heap.size rfl (.tmp 56) (.tmp 62) 44 66 zvSn 5 56 rfl Try.underlying44 infoSn rfl (by decide) v4 ([] ++ []) ⟨q, x, y, z, t⟩ [.string q, .int .i64 x, .int .i64 y, .int .i64 z, .string t] rfl rfl rfl rfl (enSn_one ⟨q, x, y, z, t⟩) hO4 hB4 hB4.size (by have := HZ1.out; simp only [List.length_append, List.length_nil, List.length_cons, List.length_take, List.length_drop]; omega) (by have := HZ1.out; simp only [List.length_append, List.length_nil, List.length_cons, List.length_take, List.length_drop]; omega) ?_; intro v5 w5 hO5 hB5 hG5 _) | (at_builtin; refine Own.appendRow (w0 := (w.alloc (bxCh q true x y z t))) (w.alloc (bxCh q true x y z t)).heap.size rfl (.tmp 64) (.tmp 67) 44 66 zvSn 5 56 rfl Try.underlying44 infoSn rfl (by decide) v5 _ ([] ++ [] ++ [⟨q, x, y, z, t⟩]) [] rfl rfl enSn_one hO5 (HRE.out _ _ _ (by omega)) hB5 hB5.size (by have := HZ1.out; simp only [List.length_append, List.length_nil, List.length_cons, List.length_take, List.length_drop]; omega) (by have := HZ1.out; simp only [List.length_append, List.length_nil, List.length_cons, List.length_take, List.length_drop]; omega) ?_; intro v6 w6 hO6 hB6 _ _))
              all_goals
                go_ret
                rw [HF2.out]
                refine ⟨_, rfl, ?_, below_call D hB6⟩
                have := hO6.row
                simpa using this
            · obtain ⟨ad, rfl⟩ := HA.out (by omega)
              by_cases hpc : c2 = p
              · subst hpc
                have hyl2 : ys.length = c2 := by omega
                have HDN : Hid (ys.drop c2 = []) := List.drop_eq_nil_of_le (by omega)
                have O2 := (HEN.out wr).lower (base' := (w.alloc (bxCh q true x y z t)).heap.size) hB.size
                have B3 := hB.alloc hB.size (.cells #[] 66)
                go_wp2_with (first | (at_builtin; refine Own.appendRow (w0 := (w.alloc (bxCh q true x y z t))) (w.alloc (bxCh q true x y z t)).heap.size rfl (.tmp 51) (.tmp 54) 44 66 zvSn 5 56 rfl Try.underlying44 infoSn rfl (by decide) (.slice (some ⟨wr.heap.size, 0, none⟩) 0 0) (.slice (some ad) c2 c2) [] (ys.take c2) rfl rfl enSn_one O2 (HTK.out.below B3K.out) B3 B3.size (by have := HZ1.out; simp only [List.length_append, List.length_nil, List.length_cons, List.length_take, List.length_drop]; omega) (by have := HZ1.out; simp only [List.length_append, List.length_nil, List.length_cons, List.length_take, List.length_drop]; omega) ?_; intro v4 w4 hO4 hB4 hG4 hW4; (obtain ⟨k0, k1, k2, k3, k4, k5, kz⟩ := cellsCh q true x y z t (hcall hbx hB4))) | (at_builtin; refine Own.append (w0 := (w.alloc (bxCh q true x y z t))) (w.alloc (bxCh q true x y z t)).heap.size rfl (.tmp 56) (.tmp 62) 44 66 zvSn 5 56 rfl Try.underlying44 infoSn rfl (by decide) v4 ([] ++ (ys.take c2)) ⟨q, x, y, z, t⟩ [.string q, .int .i64 x, .int .i64 y, .int .i64 z, .string t] rfl rfl rfl rfl (enSn_one ⟨q, x, y, z, t⟩) hO4 hB4 hB4.size (by have := HZ1.out; simp only [List.length_append, List.length_nil, List.length_cons, List.length_take, List.length_drop]; omega) (by have := HZ1.out; simp only [List.length_append, List.length_nil, List.length_cons, List.length_take, List.length_drop]; omega) ?_; intro v5 w5 hO5 hB5 hG5 _) | (at_builtin; refine Own.appendRow (w0 := (w.alloc (bxCh q true x y z t))) (w.alloc (bxCh q true x y z t)).heap.size rfl (.tmp 64) (.tmp 67) 44 66 zvSn 5 56 rfl Try.underlying44 infoSn rfl (by decide) v5 _ ([] ++ (ys.take c2) ++ [⟨q, x, y, z, t⟩]) [] rfl rfl enSn_one hO5 (HRE.out _ _ _ (by omega)) hB5 hB5.size (by have := HZ1.out; simp only [List.length_append, List.length_nil, List.length_cons, List.length_take, List.length_drop]; omega) (by have := HZ1.out; simp only [List.length_append, List.length_nil, List.length_cons, List.length_take, List.length_drop]; omega) ?_; intro v6 w6 hO6 hB6 _ _))
                all_goals
                  go_ret
                  rw [HF2.out, HDN.out]
                  refine ⟨_, rfl, ?_, below_call D hB6⟩
                  have := hO6.row
                  simpa using this
              · have hDk : Row enSn 5 wr (.slice (some (ad.add (p * 5))) (ys.length - p) (c2 - p)) (ys.drop p) := by
                  have := r2.drop enSn_len p (by omega)
                  rwa [if_neg (by omega)] at this
                have HDK := Lib.hid hDk
                have y1 : p ≤ ys.length := by omega
                have y2 : p ≤ c2 := by omega
                have y3 : ¬ (c2 = p) := by omega
                have y4 : (p : Int) ≤ (ys.length : Int) := by omega
                have y5 : (p : Int) ≤ (c2 : Int) := by omega
                have hblk : ad.block < wr.heap.size := by
                  obtain ⟨⟨a_, b_, c_, d_, e_⟩, he⟩ : ∃ e, ys[0]'(by omega) = e := ⟨_, rfl⟩
                  obtain ⟨c0, -⟩ := rowsSn r2 0 (by omega) a_ b_ c_ d_ e_ he
                  have := World.block_lt_of_cell? _ _ c0
                  rwa [add_block] at this
                have HSZ : Hid ((wr.alloc (.cells #[] 66)).heap.size = wr.heap.size + 1) := size_alloc _ _
                have HFAR : Hid (∀ (W W' : World) (row : Option Nat), Row enSn 5 W (.slice (some (ad.add (p * 5))) (ys.length - p) (c2 - p)) (ys.drop p) → W.grownBy W' row → (∀ g, row = some g → wr.heap.size ≤ g) → Row enSn 5 W' (.slice (some (ad.add (p * 5))) (ys.length - p) (c2 - p)) (ys.drop p)) := fun W W' row h hg hr => h.grown hg (fun g hgr A n c ad' he hA => by
                  injection he with e1
                  rw [hA] at e1
                  injection e1 with e1
                  have := hr g hgr
                  rw [← e1, add_block]
                  omega)
                clear hDk hblk
                have O2 := (HEN.out wr).lower (base' := (w.alloc (bxCh q true x y z t)).heap.size) hB.size
                have B3 := hB.alloc hB.size (.cells #[] 66)
                go_wp2_with (first | (at_builtin; refine Own.appendRow (w0 := (w.alloc (bxCh q true x y z t))) (w.alloc (bxCh q true x y z t)).heap.size rfl (.tmp 51) (.tmp 54) 44 66 zvSn 5 56 rfl Try.underlying44 infoSn rfl (by decide) (.slice (some ⟨wr.heap.size, 0, none⟩) 0 0) (.slice (some ad) p c2) [] (ys.take p) rfl rfl enSn_one O2 (HTK.out.below B3K.out) B3 B3.size (by have := HZ1.out; simp only [List.length_append, List.length_nil, List.length_cons, List.length_take, List.length_drop]; omega) (by have := HZ1.out; simp only [List.length_append, List.length_nil, List.length_cons, List.length_take, List.length_drop]; omega) ?_; intro v4 w4 hO4 hB4 hG4 hW4; (obtain ⟨k0, k1, k2, k3, k4, k5, kz⟩ := cellsCh q true x y z t (hcall hbx hB4)); (have d4 := HFAR.out _ _ _ (HDK.out.below B3K.out) hG4 (fun g hg => Nat.le_of_eq (Option.some.inj hg)))) | (at_builtin; refine Own.append (w0 := (w.alloc (bxCh q true x y z t))) (w.alloc (bxCh q true x y z t)).heap.size rfl (.tmp 56) (.tmp 62) 44 66 zvSn 5 56 rfl Try.underlying44 infoSn rfl (by decide) v4 ([] ++ (ys.take p)) ⟨q, x, y, z, t⟩ [.string q, .int .i64 x, .int .i64 y, .int .i64 z, .string t] rfl rfl rfl rfl (enSn_one ⟨q, x, y, z, t⟩) hO4 hB4 hB4.size (by have := HZ1.out; simp only [List.length_append, List.length_nil, List.length_cons, List.length_take, List.length_drop]; omega) (by have := HZ1.out; simp only [List.length_append, List.length_nil, List.length_cons, List.length_take, List.length_drop]; omega) ?_; intro v5 w5 hO5 hB5 hG5 _; (have d5 := HFAR.out _ _ _ d4 hG5 (far5 hW4 rfl (by rw [HSZ.out]; exact Nat.le_succ _)))) | (at_builtin; refine Own.appendRow (w0 := (w.alloc (bxCh q true x y z t))) (w.alloc (bxCh q true x y z t)).heap.size rfl (.tmp 64) (.tmp 67) 44 66 zvSn 5 56 rfl Try.underlying44 infoSn rfl (by decide) v5 (.slice (some (ad.add (p * 5))) (ys.length - p) (c2 - p)) ([] ++ (ys.take p) ++ [⟨q, x, y, z, t⟩]) (ys.drop p) rfl rfl enSn_one hO5 (d5) hB5 hB5.size (by have := HZ1.out; simp only [List.length_append, List.length_nil, List.length_cons, List.length_take, List.length_drop]; omega) (by have := HZ1.out; simp only [List.length_append, List.length_nil, List.length_cons, List.length_take, List.length_drop]; omega) ?_; intro v6 w6 hO6 hB6 _ _))
                all_goals
                  go_ret
                  rw [HF2.out]
                  refine ⟨_, rfl, ?_, below_call D hB6⟩
                  have := hO6.row
                  simpa using this
end Go.Proofs.Ytcopiimflloooaa
set_option linter.unusedVariables false
set_option linter.unusedSimpArgs false
namespace Go.Proofs.Ytcopiimflloooaa
open Go.RowKit
open Sp
set_option maxHeartbeats 8000000 in
set_option maxRecDepth 100000 in
theorem neqVl (b_ c_ d_ : Int) (e_ : ByteArray) (b_' c_' d_' : Int) (e_' : ByteArray) (W : World) :
    (binOp .neq 32 (.agg #[.int .i64 b_, .int .i64 c_, .int .i64 d_, .string e_]) (.agg #[.int .i64 b_', .int .i64 c_', .int .i64 d_', .string e_'])).run Try.prog W = .ok (.bool (!(b_ == b_' && (c_ == c_' && (d_ == d_' && (e_.toList == e_'.toList)))))) W := by
  cases h1 : b_ == b_'
  · simp [go_sem, h1]
  cases h2 : c_ == c_'
  · simp [go_sem, h1, h2]
  cases h3 : d_ == d_'
  · simp [go_sem, h1, h2, h3]
  cases h4 : e_.toList == e_'.toList <;> simp [go_sem, h1, h2, h3, h4]
set_option maxHeartbeats 8000000 in
set_option maxRecDepth 100000 in
theorem eqlVl (b_ c_ d_ : Int) (e_ : ByteArray) (b_' c_' d_' : Int) (e_' : ByteArray) (W : World) :
    (binOp .eql 32 (.agg #[.int .i64 b_, .int .i64 c_, .int .i64 d_, .string e_]) (.agg #[.int .i64 b_', .int .i64 c_', .int .i64 d_', .string e_'])).run Try.prog W = .ok (.bool (b_ == b_' && (c_ == c_' && (d_ == d_' && (e_.toList == e_'.toList))))) W := by
  cases h1 : b_ == b_'
  · simp [go_sem, h1]
  cases h2 : c_ == c_'
  · simp [go_sem, h1, h2]
  cases h3 : d_ == d_'
  · simp [go_sem, h1, h2, h3]
  cases h4 : e_.toList == e_'.toList <;> simp [go_sem, h1, h2, h3, h4]
theorem eqvVl (b_ c_ d_ : Int) (e_ : ByteArray) (b_' c_' d_' : Int) (e_' : ByteArray) : (b_ == b_' && (c_ == c_' && (d_ == d_' && (e_.toList == e_'.toList)))) = decide (((b_, c_, d_, e_) : Int × Int × Int × ByteArray) = (b_', c_', d_', e_')) := by
  rw [Bool.eq_iff_iff, decide_eq_true_eq]
  simp only [Bool.and_eq_true, beq_iff_eq, toList_inj', Prod.mk.injEq]
end Go.Proofs.Ytcopiimflloooaa
set_option linter.unusedVariables false
set_option linter.unusedSimpArgs false
namespace Go.Proofs.Ytcopiimflloooaa
open Go.RowKit
open Sp
theorem refGetT_is (n c : Nat) (A : Option Addr) (l : List Sn) (q : ByteArray) (w : World) (x y z : Int) (t : ByteArray) (b : Bool) (hl : Row enSn 5 w (.slice A n c) l) (h : Hid (getT l q = ((x, y, z, t), b))) :
    Calls Try.prog 43 #[.slice A n c, .string q] w fun e w' => e = .returned (.tuple #[.agg #[.int .i64 x, .int .i64 y, .int .i64 z, .string t], .bool b]) ∧ Below w.heap.size w w' := by
  have := refGetT_calls n c A l q w hl
  rw [h.out] at this
  exact this
/-- append of one element that lies in a block known whole, at a step of a region that draws. -/
theorem Own.appendStep {P : Program} {ops : Array Oper} {o : Oper} {a : Act} {K : Act → World → Prop} {Q : Exit → Act → World → Prop} {E : Prop} {α : Type} {enc : α → List Value} {w0 w : World} (base : Nat) (hgd : o.guard = none) (s x : Operand) (t e : TypeId) (z : Value) (k bytes : Nat)
    (ho : o.op = .call { callee := .builtin .append, args := #[s, x], argTypes := #[t, t] })
    (ht : P.underlying t = some (.slice e)) (hinfo : (P.info? e).map (fun i => (i.zero, i.size, i.bytes)) = some (some z, k, bytes)) (hz : z.cells.size = k) (hs0 : 0 < k)
    (v : Value) (xs : List α) (p : α) (cs : List Value) (hs : a.eval s = v) (g : Nat) (hx : a.eval x = .slice (some ⟨g, 0, none⟩) 1 1) (hg : w.heap[g]? = some (.cells cs.toArray e (0, 0))) (hp : enc p = cs) (hcs : cs.length = k) (h1 : ∀ u ∈ cs, u.oneCell' = true)
    (HO : Own enc k e w base v xs) (HB : Below base w0 w) (hbase : base ≤ w.heap.size) (hl : (xs.length + 1) * bytes ≤ 140737488355328) (hl2 : xs.length + 1 ≤ 140737488355328)
    (h : ∀ v1 w1, Own enc k e w1 base v1 (xs ++ [p]) → Below base w0 w1 → K (a.put o.dst v1) w1) :
    if Region.wanted o (yielded ops a.tmps) = true then Oper.wp P o a w K Q else E := by
  obtain ⟨i0, hi, hzz⟩ := Option.map_eq_some_iff.1 hinfo
  simp only [Prod.mk.injEq] at hzz
  obtain ⟨hz0, hz1, hz2⟩ := hzz
  refine step_append_lies w hgd s x t ho base e i0 z k bytes ht hi hz0 hz1 hz2 hz hs0 v xs.length _ hs HO ⟨g, 0, none⟩ 1 1 cs hx (by rw [hcs]; simp) (by simpa using World.news_of_block hg) h1 (by omega) (by simp only [maxLen]; omega) hl hbase _ rfl ?_
  intro g' cap w1 hown hgrow _ _
  refine h _ w1 ?_ (HB.grown hgrow hbase HO.base_le)
  unfold Own
  rw [List.flatMap_append, List.length_append]
  simpa [hp] using hown
set_option maxHeartbeats 16000000 in
set_option maxRecDepth 100000 in
theorem refChangesT_calls (n c n2 c2 : Nat) (A B : Option Addr) (l m : List Sn) (w : World) (hl : Row enSn 5 w (.slice A n c) l) (hm : Row enSn 5 w (.slice B n2 c2) m) (hn : n ≤ 1000) (hn2 : n2 ≤ 1000) :
    Calls Try.prog 48 #[.slice A n c, .slice B n2 c2] w fun e w' => ∃ v, e = .returned v ∧ Row enCh 6 w' v (changesT l m) ∧ Below w.heap.size w w' := by
  have EA := Lib.hid hl.len_eq
  have EB := Lib.hid hm.len_eq
  go_enter Try.func48, Try.ntmps48
  go_wp2_with fail
  with_reducible refine (refContactsT_calls n c A l _ hl (by omega)).mono ?_
  rintro e w1 ⟨v1, rfl, hO1, b1⟩
  go_wp2_with fail
  with_reducible refine (refContactsT_calls n2 c2 B m _ (hm.below b1) (by omega)).mono ?_
  rintro e w2 ⟨v2, rfl, hO2, b2⟩
  have r1 := hO1.row.below b2
  have r2 := hO2.row
  obtain ⟨A1, c1, rfl, _⟩ := hO1.slice
  obtain ⟨A2, c2', rfl, _⟩ := hO2.slice
  have D := below_call b1 b2
  rw [List.length_map] at r1 r2
  clear hO1 hO2 b1 b2
  go_wp2_with fail
  with_reducible refine (refMerge_calls _ c1 _ c2' A1 A2 (l.map Sn.c) (m.map Sn.c) _ r1 r2 (by have := EA.out; omega) (by have := EB.out; omega)).mono ?_
  rintro e w3 ⟨v3, rfl, r3, b3⟩
  replace D := below_call D b3
  clear r1 r2 b3
  obtain ⟨us, hus⟩ : ∃ us, namesT l m = us := ⟨_, rfl⟩
  rw [show mergeS (l.map Sn.c) (m.map Sn.c) = us from hus] at r3
  have hul : us.length ≤ 2000 := by
    rw [← hus]
    have h1 := mergeS_len (l.map Sn.c) (m.map Sn.c)
    rw [List.length_map, List.length_map] at h1
    have := EA.out
    have := EB.out
    unfold namesT
    omega
  have HU := Lib.hid hus
  clear hus
  obtain ⟨A3, c3, rfl, _⟩ := id r3
  go_wp2
  go_loopw [6, 7] (fun vo vk wr => ∃ (k : Nat) (ys : List Ch), vk = .int .i64 k ∧ k ≤ us.length ∧ ys.length ≤ k ∧ Hid ((us.take k).filterMap (chT l m) = ys) ∧ Own enCh 6 55 wr w3.heap.size vo ys ∧ Below w3.heap.size w3 wr) (fun _ vk _ => (us.length - intOf vk).toNat)
  case atStart => exact ⟨0, [], rfl, Nat.zero_le _, Nat.le_refl _, rfl, Own.nil _ _ _ _ _, Below.refl _ _⟩
  case round =>
    obtain ⟨k, ys, rfl, hk, hys, HT, hO, hB⟩ := hrel
    by_cases hlt : k < us.length
    · obtain ⟨ad, rfl, hc⟩ := (r3.below hB).get1 (f := Value.string) k hlt
      obtain ⟨u, hu⟩ : ∃ u, us[k] = u := ⟨_, rfl⟩
      rw [hu] at hc
      obtain ⟨⟨x, y, z, t⟩, b, hga⟩ : ∃ v b, getT l u = (v, b) := ⟨_, _, rfl⟩
      obtain ⟨⟨x', y', z', t'⟩, b', hgb⟩ : ∃ v b, getT m u = (v, b) := ⟨_, _, rfl⟩
      have HGA := Lib.hid hga
      have HGB := Lib.hid hgb
      have HUK := Lib.hid hu
      have x1 : (0 : Int) ≤ (k : Int) := by omega
      have x2 : (k : Int) < (us.length : Int) := by omega
      clear hga hgb hu
      go_wp2_with fail
      with_reducible refine (refGetT_is n c A l u _ x y z t b (hl.below (below_call D hB)) HGA).mono ?_
      rintro e w4 ⟨rfl, b4⟩
      replace hc := cell_below b4 hc
      replace hB := below_call hB b4
      replace hO := hO.below b4
      clear b4
      have hn1 := heap_alloc_new w4 (bxV x y z t)
      have hB1 := below_alloc0 hB (bxV x y z t)
      have hO1 := hO.alloc (bxV x y z t)
      have hc1 := cell_below (below_box (bxV x y z t)) hc
      go_wp2_with fail
      with_reducible refine (refGetT_is n2 c2 B m u _ x' y' z' t' b' (hm.below (below_call D hB1)) HGB).mono ?_
      rintro e w5 ⟨rfl, b5⟩
      replace hc := cell_below b5 hc1
      replace hn1 := hcall hn1 b5
      replace hB := below_call hB1 b5
      replace hO := hO1.below b5
      clear b5 hB1 hO1 hc1
      have hn2 := heap_alloc_new w5 (bxV x' y' z' t')
      replace hn1 := halloc hn1 (bxV x' y' z' t')
      have hB1 := below_alloc0 hB (bxV x' y' z' t')
      have hO1 := hO.alloc (bxV x' y' z' t')
      have hc1 := cell_below (below_box (bxV x' y' z' t')) hc
      obtain ⟨⟨p0, p1, p2, p3⟩, -, pg⟩ := vopen hn1
      obtain ⟨⟨q0, q1, q2, q3⟩, -, qg⟩ := vopen hn2
      have hcmp := neqVl x y z t x' y' z' t'
      rw [eqvVl] at hcmp
      obtain ⟨bc, hbc⟩ : ∃ bc, decide (((x, y, z, t) : Int × Int × Int × ByteArray) = (x', y', z', t')) = bc := ⟨_, rfl⟩
      rw [hbc] at hcmp
      have HCH : Hid (chT l m u = if (bc && (b == b')) then none else some ⟨u, b', x', y', z', t'⟩) := by
        show _ = _
        unfold chT
        rw [HGA.out, HGB.out, ← hbc]
        by_cases h : ((x, y, z, t) : Int × Int × Int × ByteArray) = (x', y', z', t')
        · rw [decide_eq_true h, h]
          cases b <;> cases b' <;> simp
        · rw [decide_eq_false h, if_neg (fun h' => h (Prod.mk.inj h').1)]
          rfl
      clear hbc hn1 hn2 hc hB hO
      have hsame : (bc && (b == b')) = true → Hid ((us.take (k + 1)).filterMap (chT l m) = ys) := fun h => by
        show _ = _
        rw [List.take_succ_eq_append_getElem hlt, List.filterMap_append, HT.out, HUK.out, List.filterMap_cons, HCH.out, h]
        simp
      have hdiff : (bc && (b == b')) = false → Hid ((us.take (k + 1)).filterMap (chT l m) = ys ++ [⟨u, b', x', y', z', t'⟩]) := fun h => by
        show _ = _
        rw [List.take_succ_eq_append_getElem hlt, List.filterMap_append, HT.out, HUK.out, List.filterMap_cons, HCH.out, h]
        simp
      have HG : Hid (∀ o : Obj, ((w5.alloc (bxV x' y' z' t')).alloc o).heap[w5.heap.size + 1]? = some o) := fun o => by
        have := heap_alloc_new (w5.alloc (bxV x' y' z' t')) o
        rwa [size_alloc] at this
      have HG2 : Hid (∀ o : Obj, ((w5.alloc (bxV x' y' z' t')).alloc o).drew.heap.size = (w5.alloc (bxV x' y' z' t')).heap.size + 1) := fun o => size_alloc _ _
      have HS := Lib.hid hsame
      have HD := Lib.hid hdiff
      clear hsame hdiff
      rcases bc with _ | _ <;> rcases b with _ | _ <;> rcases b' with _ | _
      all_goals
        go_wp2_with fail
        first
          | (have HT2 := HS.out rfl
             exact ⟨⟨k + 1, ys, by go_num, by omega, by omega, HT2, hO1, hB1⟩, by simp [intOf]; omega⟩)
          | (have HT2 := HD.out rfl
             go_region_law (refine Own.appendStep (w0 := w3) w3.heap.size rfl (.tmp 49) (.tmp 57) 60 55 zvCh 6 64 rfl Try.underlying60 infoCh rfl (by decide) _ ys ⟨u, _, x', y', z', t'⟩ (enCh ⟨u, _, x', y', z', t'⟩) (by simp [Act.eval, Act.put]) (w5.heap.size + 1) (by simp [Act.eval, Act.put]) (HG.out _) rfl rfl (enCh_one _) (hO1.alloc _) (below_alloc0 hB1 _).drew (Nat.le_trans hB1.size (Nat.le_of_lt (by rw [HG2.out]; exact Nat.lt_succ_self _))) (by omega) (by omega) ?_; intro v6 w6 hO6 hB6)
             all_goals go_wp2
             all_goals
               exact ⟨⟨k + 1, ys ++ [⟨u, _, x', y', z', t'⟩], by go_num, by omega, by rw [List.length_append]; simp only [List.length_cons, List.length_nil]; omega, HT2, hO6, hB6⟩, by simp [intOf]; omega⟩)
    · have hkl : k = us.length := by omega
      subst hkl
      have HF : Hid (changesT l m = ys) := by
        show _ = _
        have := HT.out
        rw [List.take_of_length_le (Nat.le_refl _)] at this
        unfold changesT
        rw [HU.out]; exact this
      have hrow := hO.row
      go_wp2
      go_ret
      rw [HF.out]
      exact ⟨_, rfl, hrow, below_call D hB⟩
end Go.Proofs.Ytcopiimflloooaa
