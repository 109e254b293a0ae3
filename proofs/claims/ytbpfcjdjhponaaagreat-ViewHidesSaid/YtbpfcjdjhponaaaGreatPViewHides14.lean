import Derived.Deep.QuietTactic
import Derived.BigQuiet
import Derived.Test.YtbpfcjdjhponaaaGreatPViewHides13
set_option linter.unusedVariables false
set_option linter.unusedSimpArgs false
namespace Go.Proofs.YtbpfcjdjhponaaaGreat
open Go.RowKit
open Sp
end Go.Proofs.YtbpfcjdjhponaaaGreat
namespace Go.Proofs.YtbpfcjdjhponaaaGreat
open Go.RowKit
open Sp
namespace Sp
def setG (x : En) : List En → Bool → List En
  | [], d => if d then [] else [x]
  | y :: l, d => if keyRo y = keyRo x then setG x l d else if !d && ltRo (keyRo x) (keyRo y) then x :: y :: setG x l true else y :: setG x l d
theorem setG_done (x : En) : ∀ l : List En, setG x l true = delK keyRo l (keyRo x)
  | [] => rfl
  | y :: l => by
    have ih := setG_done x l
    unfold setG
    by_cases h : keyRo y = keyRo x
    · rw [if_pos h, ih]; unfold delK; rw [List.filter_cons]; simp [h]
    · rw [if_neg h, ih]; unfold delK; rw [List.filter_cons]; simp [h]
theorem setG_not (x : En) : ∀ l : List En, setG x l false = (delK keyRo l (keyRo x)).takeWhile (fun y => !ltRo (keyRo x) (keyRo y)) ++ x :: (delK keyRo l (keyRo x)).dropWhile (fun y => !ltRo (keyRo x) (keyRo y))
  | [] => rfl
  | y :: l => by
    have ih := setG_not x l
    have ih2 := setG_done x l
    unfold setG
    by_cases h : keyRo y = keyRo x
    · have e : delK keyRo (y :: l) (keyRo x) = delK keyRo l (keyRo x) := by unfold delK; rw [List.filter_cons]; simp [h]
      rw [if_pos h, ih, e]
    · have e : delK keyRo (y :: l) (keyRo x) = y :: delK keyRo l (keyRo x) := by unfold delK; rw [List.filter_cons]; simp [h]
      rw [if_neg h, e, List.takeWhile_cons, List.dropWhile_cons, ih, ih2]
      cases ltRo (keyRo x) (keyRo y) <;> simp
theorem setG_ro (x : En) (l : List En) (keep : Bool) : setG x l (!keep) = setRo l x keep := by
  cases keep with
  | true => rw [Bool.not_true, setG_not]; unfold setRo; rw [if_pos rfl]
  | false => rw [Bool.not_false, setG_done, setRo_del]
end Sp
theorem refAheadR_is (x y : En) (r : Bool) (w : World) (h : Hid (ltRo (keyRo x) (keyRo y) = r)) :
    Calls Tryz.prog 81 #[vaEn x, vaEn y] w fun e w' => e = .returned (.bool r) ∧ Below w.heap.size w w' := by
  rw [← h.out]
  obtain ⟨a, b, c, d, e, f, g⟩ := x
  obtain ⟨a', b', c', d', e', f', g'⟩ := y
  exact refAheadR_calls a b c d e f g a' b' c' d' e' f' g' w
noncomputable def opssvad : Array Oper := Held.inBody 7 Tryz.f159.body
def ordsvad : List Nat := [0, 1, 2, 3, 4, 5, 6, 7, 8, 9]
set_option maxRecDepth 100000 in
theorem rgsvad : Held.Reg opssvad ordsvad 10 [0, 1, 2, 3, 4, 5, 6, 7, 8, 9] := ⟨by kernel_rfl, by kernel_rfl, by kernel_rfl⟩
noncomputable def opssvat : Array Oper := Held.inBody 7 Tryz.f159.body
def ordsvat : List Nat := [0, 1, 2, 3, 4, 5, 6, 7, 8, 9]
set_option maxRecDepth 100000 in
theorem rgsvat : Held.Reg opssvat ordsvat 10 [0, 1, 2, 3, 4, 5, 6, 7, 9] := ⟨by kernel_rfl, by kernel_rfl, by kernel_rfl⟩
noncomputable def opssvaf : Array Oper := Held.inBody 7 Tryz.f159.body
def ordsvaf : List Nat := [0, 1, 2, 3, 4, 5, 6, 7, 8, 9]
set_option maxRecDepth 100000 in
theorem rgsvaf : Held.Reg opssvaf ordsvaf 10 [0, 1, 2, 3, 4, 5, 6, 7, 9] := ⟨by kernel_rfl, by kernel_rfl, by kernel_rfl⟩
noncomputable def opssvbd : Array Oper := Held.inBody 7 Tryz.f159.body
def ordsvbd : List Nat := [0, 1, 2, 3, 4, 5, 6, 7, 8, 9]
set_option maxRecDepth 100000 in
theorem rgsvbd : Held.Reg opssvbd ordsvbd 10 [0, 1, 2, 3, 4, 5, 6, 7, 8, 9] := ⟨by kernel_rfl, by kernel_rfl, by kernel_rfl⟩
noncomputable def opssvbt : Array Oper := Held.inBody 7 Tryz.f159.body
def ordsvbt : List Nat := [0, 1, 2, 3, 4, 5, 6, 7, 8, 9]
set_option maxRecDepth 100000 in
theorem rgsvbt : Held.Reg opssvbt ordsvbt 10 [0, 1, 2, 3, 4, 5, 6, 7, 9] := ⟨by kernel_rfl, by kernel_rfl, by kernel_rfl⟩
noncomputable def opssvbf : Array Oper := Held.inBody 7 Tryz.f159.body
def ordsvbf : List Nat := [0, 1, 2, 3, 4, 5, 6, 7, 8, 9]
set_option maxRecDepth 100000 in
theorem rgsvbf : Held.Reg opssvbf ordsvbf 10 [0, 1, 2, 3, 4, 5, 6, 7, 9] := ⟨by kernel_rfl, by kernel_rfl, by kernel_rfl⟩
set_option maxHeartbeats 16000000 in
set_option maxRecDepth 100000 in
theorem refSet8_calls (n c : Nat) (A : Option Addr) (l : List En) (a b : ByteArray) (c1 d e f g keep : Bool) (w : World) (hl : Row enEn 7 w (.slice A n c) l) (hn : n ≤ 100000) :
    Calls Tryz.prog 159 #[.slice A n c, .agg #[.string a, .string b, .bool c1, .bool d, .bool e, .bool f, .bool g], .bool keep] w fun x w' => ∃ v, x = .returned v ∧ Own enEn 7 105 w' w.heap.size v (setRo l ⟨a, b, ⟨c1, d, e, f, g⟩⟩ keep) ∧ Below w.heap.size w w' := by
  have EA := Lib.hid hl.len_eq
  have hX0 := heap_alloc_new w (bxEn a b c1 d e f g)
  have hBX := below_box (w := w) (bxEn a b c1 d e f g)
  have hl0 := hl.below hBX
  have HZ : Hid ((w.alloc (bxEn a b c1 d e f g)).heap.size = w.heap.size + 1) := size_alloc _ _
  go_enter Tryz.func159, Tryz.ntmps159
  go_wp2
  go_loopw [7, 8, 9] (fun vo vd vc wr => ∃ (i : Nat) (dn : Bool) (ys : List En), vd = .bool dn ∧ vc = .int .i64 i ∧ i ≤ n ∧ ys.length ≤ 2 * i ∧ Hid (ys ++ setG ⟨a, b, ⟨c1, d, e, f, g⟩⟩ (l.drop i) dn = setRo l ⟨a, b, ⟨c1, d, e, f, g⟩⟩ keep) ∧ Own enEn 7 105 wr (w.alloc (bxEn a b c1 d e f g)).heap.size vo ys ∧ Below (w.alloc (bxEn a b c1 d e f g)).heap.size (w.alloc (bxEn a b c1 d e f g)) wr) (fun _ _ vc _ => (n - intOf vc).toNat)
  case atStart => exact ⟨0, !keep, [], rfl, rfl, Nat.zero_le _, Nat.le_refl _, setG_ro _ _ _, Own.nil _ _ _ _ _, Below.refl _ _⟩
  case round =>
    obtain ⟨i, dn, ys, rfl, rfl, hi, hys, HT, hO, hB⟩ := hrel
    have hX1 := hcall hX0 hB
    obtain ⟨k0, k1, k2, k3, k4, k5, k6, kz⟩ := cellsEn a b c1 d e f g hX1
    by_cases hlt : i < n
    · have hil : i < l.length := by have := EA.out; omega
      obtain ⟨⟨a_, b_, c_, d_, e_, f_, g_⟩, he⟩ : ∃ e, l[i] = e := ⟨_, rfl⟩
      obtain ⟨ad, rfl, c0, c1_, c2, c3, c4, c5, c6⟩ := rowEn (hl0.below hB) i hil a_ b_ c_ d_ e_ f_ g_ he
      have HT0 := HT.out
      rw [List.drop_eq_getElem_cons hil, he] at HT0
      unfold setG at HT0
      by_cases hq : a_ = a ∧ b_ = b
      · have hkk : keyRo (⟨a_, b_, ⟨c_, d_, e_, f_, g_⟩⟩ : En) = keyRo ⟨a, b, ⟨c1, d, e, f, g⟩⟩ := by obtain ⟨q1, q2⟩ := hq; subst q1 q2; rfl
        rw [if_pos hkk] at HT0
        have HT2 := Lib.hid HT0
        obtain ⟨q1, q2⟩ := hq
        have hs1 : a_.toList = a.toList := by rw [q1]
        have hs2 : b_.toList = b.toList := by rw [q2]
        have hs3 : (a_.toList == a.toList) = true := by rw [q1]; exact beq_self_eq_true _
        have hs4 : (b_.toList == b.toList) = true := by rw [q2]; exact beq_self_eq_true _
        clear he HT HT0 hkk q1 q2
        go_wp2_with fail
        go_quiet (fail)
        replace hB : Below (w.alloc (bxEn a b c1 d e f g)).heap.size (w.alloc (bxEn a b c1 d e f g)) (wr.drewN nq) := below_drewN hB _
        replace hO : Own enEn 7 105 (wr.drewN nq) (w.alloc (bxEn a b c1 d e f g)).heap.size _ ys := hO.drewN _
        go_wp2
        exact ⟨⟨i + 1, dn, ys, rfl, by go_num, by omega, by omega, HT2, hO, hB⟩, by simp [intOf]; omega⟩
      · have hkk : ¬ keyRo (⟨a_, b_, ⟨c_, d_, e_, f_, g_⟩⟩ : En) = keyRo ⟨a, b, ⟨c1, d, e, f, g⟩⟩ := fun e => hq ⟨congrArg Prod.fst e, congrArg Prod.snd e⟩
        rw [if_neg hkk] at HT0
        have hs : (a_.toList == a.toList && b_.toList == b.toList) = false := by
          rw [Bool.eq_false_iff]; intro h; rw [Bool.and_eq_true, beq_iff_eq, beq_iff_eq, toList_inj', toList_inj'] at h; exact hq h
        by_cases q1 : a_ = a
        · have q2 : ¬ b_ = b := fun e => hq ⟨q1, e⟩
          have hs1 : a_.toList = a.toList := by rw [q1]
          have hs3 : (a_.toList == a.toList) = true := by rw [q1]; exact beq_self_eq_true _
          have hs2 : ¬ b_.toList = b.toList := by simpa [toList_inj'] using q2
          have hs4 : (b_.toList == b.toList) = false := by simpa [toList_inj'] using q2
          clear q1 q2 hs
          go_wp2_with fail
          go_quiet (fail)
          replace hB : Below (w.alloc (bxEn a b c1 d e f g)).heap.size (w.alloc (bxEn a b c1 d e f g)) (wr.drewN nq) := below_drewN hB _
          replace hO : Own enEn 7 105 (wr.drewN nq) (w.alloc (bxEn a b c1 d e f g)).heap.size _ ys := hO.drewN _
          clear k0 k1 k2 k3 k4 k5 k6 kz c0 c1_ c2 c3 c4 c5 c6
          replace hX1 := hcall hX0 hB
          obtain ⟨k0, k1, k2, k3, k4, k5, k6, kz⟩ := cellsEn a b c1 d e f g hX1
          obtain ⟨c0, c1_, c2, c3, c4, c5, c6⟩ := rowsEn (hl0.below hB) i hil a_ b_ c_ d_ e_ f_ g_ he
          cases dn with
          | true =>
            have HT2 : Hid ((ys ++ [⟨a_, b_, ⟨c_, d_, e_, f_, g_⟩⟩]) ++ setG ⟨a, b, ⟨c1, d, e, f, g⟩⟩ (l.drop (i + 1)) true = setRo l ⟨a, b, ⟨c1, d, e, f, g⟩⟩ keep) := by
              show _ = _
              rw [← HT0]
              simp
            have HE := Lib.hid he
            clear HT HT0 hkk hq he
            clear kz hX1
            replace hO : Own _ _ _ (wr.drewN nq).drew _ _ _ := hO
            replace hB : Below _ _ (wr.drewN nq).drew := hB.drew
            go_wp2_with fail
            refine Held.start (ops := opssvad) (S := fun w' => w'.cell? ⟨w.heap.size, 0, none⟩ = some (.string a) ∧ w'.cell? ⟨w.heap.size, 1, none⟩ = some (.string b) ∧ w'.cell? ⟨w.heap.size, 2, none⟩ = some (.bool c1) ∧ w'.cell? ⟨w.heap.size, 3, none⟩ = some (.bool d) ∧ w'.cell? ⟨w.heap.size, 4, none⟩ = some (.bool e) ∧ w'.cell? ⟨w.heap.size, 5, none⟩ = some (.bool f) ∧ w'.cell? ⟨w.heap.size, 6, none⟩ = some (.bool g) ∧ w'.cell? (ad.add (i * 7)) = some (.string a_) ∧ w'.cell? ⟨(ad.add (i * 7)).block, (ad.add (i * 7)).off + 1, none⟩ = some (.string b_) ∧ w'.cell? ⟨(ad.add (i * 7)).block, (ad.add (i * 7)).off + 2, none⟩ = some (.bool c_) ∧ w'.cell? ⟨(ad.add (i * 7)).block, (ad.add (i * 7)).off + 3, none⟩ = some (.bool d_) ∧ w'.cell? ⟨(ad.add (i * 7)).block, (ad.add (i * 7)).off + 4, none⟩ = some (.bool e_) ∧ w'.cell? ⟨(ad.add (i * 7)).block, (ad.add (i * 7)).off + 5, none⟩ = some (.bool f_) ∧ w'.cell? ⟨(ad.add (i * 7)).block, (ad.add (i * 7)).off + 6, none⟩ = some (.bool g_)) ordsvad 10 (by kernel_rfl) rgsvad.siz (by kernel_rfl) ⟨k0, k1, k2, k3, k4, k5, k6, c0, c1_, c2, c3, c4, c5, c6⟩ (fun hHeld => ?_)
            iterate 3
              refine Held.tw rgsvad ?_
              try simp only [Act.put, zA, zB, zC, zD, zE, zF]
            iterate 6
              refine Held.tu rgsvad ?_
              try simp only [Act.put, zA, zB, zC, zD, zE, zF]
            iterate 1
              refine Held.tw rgsvad ?_
              try simp only [Act.put, zA, zB, zC, zD, zE, zF]
            refine wpAnyH_done (by kernel_rfl) ?_ _
            clear k0 k1 k2 k3 k4 k5 k6 c0 c1_ c2 c3 c4 c5 c6
            replace hB : Below (w.alloc (bxEn a b c1 d e f g)).heap.size (w.alloc (bxEn a b c1 d e f g)) (wr.drewN (nq + 1)) := hB
            replace hO : Own enEn 7 105 (wr.drewN (nq + 1)) (w.alloc (bxEn a b c1 d e f g)).heap.size _ ys := hO
            obtain ⟨c0, c1_, c2, c3, c4, c5, c6⟩ := rowsEn (hl0.below hB) i hil a_ b_ c_ d_ e_ f_ g_ HE.out
            go_wp2_with (at_builtin; refine Own.append (w0 := (w.alloc (bxEn a b c1 d e f g))) (w.alloc (bxEn a b c1 d e f g)).heap.size rfl (.tmp 50) (.tmp 55) 22 105 zvEn 7 40 rfl Tryz.underlying22 infoEn rfl (by decide) _ (ys) ⟨a_, b_, ⟨c_, d_, e_, f_, g_⟩⟩ (enEn ⟨a_, b_, ⟨c_, d_, e_, f_, g_⟩⟩) rfl rfl rfl rfl (enEn_one _) hO hB hB.size (by (try simp only [List.length_append, List.length_cons, List.length_nil]); omega) (by (try simp only [List.length_append, List.length_cons, List.length_nil]); omega) ?_; intro v2 w2 hO2 hB2 _ _)
            exact ⟨⟨i + 1, true, ys ++ [⟨a_, b_, ⟨c_, d_, e_, f_, g_⟩⟩], rfl, by go_num, by omega, by rw [List.length_append]; simp only [List.length_cons, List.length_nil]; omega, HT2, hO2, hB2⟩, by simp [intOf]; omega⟩
          | false =>
            obtain ⟨r, hr⟩ : ∃ r, ltRo (keyRo (⟨a, b, ⟨c1, d, e, f, g⟩⟩ : En)) (keyRo ⟨a_, b_, ⟨c_, d_, e_, f_, g_⟩⟩) = r := ⟨_, rfl⟩
            have HR := Lib.hid hr
            rw [hr] at HT0
            have HE := Lib.hid he
            clear hr he
            cases r with
            | true =>
              have HT2 : Hid (((ys ++ [⟨a, b, ⟨c1, d, e, f, g⟩⟩]) ++ [⟨a_, b_, ⟨c_, d_, e_, f_, g_⟩⟩]) ++ setG ⟨a, b, ⟨c1, d, e, f, g⟩⟩ (l.drop (i + 1)) true = setRo l ⟨a, b, ⟨c1, d, e, f, g⟩⟩ keep) := by
                show _ = _
                rw [← HT0]
                simp
              clear HT HT0 hkk hq
              clear kz hX1
              replace hO : Own _ _ _ (wr.drewN nq).drew _ _ _ := hO
              replace hB : Below _ _ (wr.drewN nq).drew := hB.drew
              go_wp2_with fail
              refine Held.start (ops := opssvat) (S := fun w' => w'.cell? ⟨w.heap.size, 0, none⟩ = some (.string a) ∧ w'.cell? ⟨w.heap.size, 1, none⟩ = some (.string b) ∧ w'.cell? ⟨w.heap.size, 2, none⟩ = some (.bool c1) ∧ w'.cell? ⟨w.heap.size, 3, none⟩ = some (.bool d) ∧ w'.cell? ⟨w.heap.size, 4, none⟩ = some (.bool e) ∧ w'.cell? ⟨w.heap.size, 5, none⟩ = some (.bool f) ∧ w'.cell? ⟨w.heap.size, 6, none⟩ = some (.bool g) ∧ w'.cell? (ad.add (i * 7)) = some (.string a_) ∧ w'.cell? ⟨(ad.add (i * 7)).block, (ad.add (i * 7)).off + 1, none⟩ = some (.string b_) ∧ w'.cell? ⟨(ad.add (i * 7)).block, (ad.add (i * 7)).off + 2, none⟩ = some (.bool c_) ∧ w'.cell? ⟨(ad.add (i * 7)).block, (ad.add (i * 7)).off + 3, none⟩ = some (.bool d_) ∧ w'.cell? ⟨(ad.add (i * 7)).block, (ad.add (i * 7)).off + 4, none⟩ = some (.bool e_) ∧ w'.cell? ⟨(ad.add (i * 7)).block, (ad.add (i * 7)).off + 5, none⟩ = some (.bool f_) ∧ w'.cell? ⟨(ad.add (i * 7)).block, (ad.add (i * 7)).off + 6, none⟩ = some (.bool g_)) ordsvat 10 (by kernel_rfl) rgsvat.siz (by kernel_rfl) ⟨k0, k1, k2, k3, k4, k5, k6, c0, c1_, c2, c3, c4, c5, c6⟩ (fun hHeld => ?_)
              iterate 8
                refine Held.tw rgsvat ?_
                try simp only [Act.put, zA, zB, zC, zD, zE, zF]
              refine Held.only (k := 8) (i := 8) (by kernel_rfl) (by kernel_rfl) rfl (by kernel_rfl) (fun K hK => ?_)
              go_simp
              go_at_call 81
              with_reducible refine (refAheadR_is ⟨a, b, ⟨c1, d, e, f, g⟩⟩ ⟨a_, b_, ⟨c_, d_, e_, f_, g_⟩⟩ true _ HR).mono ?_
              rintro e w4 ⟨rfl, hbx⟩
              replace k0 := cell_below hbx k0
              replace k1 := cell_below hbx k1
              replace k2 := cell_below hbx k2
              replace k3 := cell_below hbx k3
              replace k4 := cell_below hbx k4
              replace k5 := cell_below hbx k5
              replace k6 := cell_below hbx k6
              replace c0 := cell_below hbx c0
              replace c1_ := cell_below hbx c1_
              replace c2 := cell_below hbx c2
              replace c3 := cell_below hbx c3
              replace c4 := cell_below hbx c4
              replace c5 := cell_below hbx c5
              replace c6 := cell_below hbx c6
              replace hO := hO.below hbx
              replace hB := below_call hB hbx
              refine hK.out _ _ (by (try dsimp only); (exact ⟨k0, k1, k2, k3, k4, k5, k6, c0, c1_, c2, c3, c4, c5, c6⟩)) (fun hHeld => ?_)
              clear hK K
              try simp only [Act.put, zA, zB, zC, zD, zE, zF]
              iterate 1
                refine Held.tw rgsvat ?_
                try simp only [Act.put, zA, zB, zC, zD, zE, zF]
              refine wpAnyH_done (by kernel_rfl) ?_ _
              clear k0 k1 k2 k3 k4 k5 k6 c0 c1_ c2 c3 c4 c5 c6
              have hX1 := hcall hX0 hB
              obtain ⟨k0, k1, k2, k3, k4, k5, k6, kz⟩ := cellsEn a b c1 d e f g hX1
              obtain ⟨c0, c1_, c2, c3, c4, c5, c6⟩ := rowsEn (hl0.below hB) i hil a_ b_ c_ d_ e_ f_ g_ HE.out
              go_wp2_with (first | (at_builtin; refine Own.append (w0 := (w.alloc (bxEn a b c1 d e f g))) (w.alloc (bxEn a b c1 d e f g)).heap.size rfl (.tmp 46) (.tmp 48) 22 105 zvEn 7 40 rfl Tryz.underlying22 infoEn rfl (by decide) _ (ys) ⟨a, b, ⟨c1, d, e, f, g⟩⟩ (enEn ⟨a, b, ⟨c1, d, e, f, g⟩⟩) rfl rfl rfl rfl (enEn_one _) hO hB hB.size (by (try simp only [List.length_append, List.length_cons, List.length_nil]); omega) (by (try simp only [List.length_append, List.length_cons, List.length_nil]); omega) ?_; intro v2 w2 hO2 hB2 _ _; obtain ⟨m0, m1, m2, m3, m4, m5, m6⟩ := rowsEn (hl0.below hB2) i hil a_ b_ c_ d_ e_ f_ g_ HE.out) | (at_builtin; refine Own.append (w0 := (w.alloc (bxEn a b c1 d e f g))) (w.alloc (bxEn a b c1 d e f g)).heap.size rfl (.tmp 50) (.tmp 55) 22 105 zvEn 7 40 rfl Tryz.underlying22 infoEn rfl (by decide) _ (ys ++ [⟨a, b, ⟨c1, d, e, f, g⟩⟩]) ⟨a_, b_, ⟨c_, d_, e_, f_, g_⟩⟩ (enEn ⟨a_, b_, ⟨c_, d_, e_, f_, g_⟩⟩) rfl rfl rfl rfl (enEn_one _) hO2 hB2 hB2.size (by (try simp only [List.length_append, List.length_cons, List.length_nil]); omega) (by (try simp only [List.length_append, List.length_cons, List.length_nil]); omega) ?_; intro v3 w3 hO3 hB3 _ _))
              exact ⟨⟨i + 1, true, (ys ++ [⟨a, b, ⟨c1, d, e, f, g⟩⟩]) ++ [⟨a_, b_, ⟨c_, d_, e_, f_, g_⟩⟩], rfl, by go_num, by omega, by rw [List.length_append, List.length_append]; simp only [List.length_cons, List.length_nil]; omega, HT2, hO3, hB3⟩, by simp [intOf]; omega⟩
            | false =>
              have HT2 : Hid ((ys ++ [⟨a_, b_, ⟨c_, d_, e_, f_, g_⟩⟩]) ++ setG ⟨a, b, ⟨c1, d, e, f, g⟩⟩ (l.drop (i + 1)) false = setRo l ⟨a, b, ⟨c1, d, e, f, g⟩⟩ keep) := by
                show _ = _
                rw [← HT0]
                simp
              clear HT HT0 hkk hq
              clear kz hX1
              replace hO : Own _ _ _ (wr.drewN nq).drew _ _ _ := hO
              replace hB : Below _ _ (wr.drewN nq).drew := hB.drew
              go_wp2_with fail
              refine Held.start (ops := opssvaf) (S := fun w' => w'.cell? ⟨w.heap.size, 0, none⟩ = some (.string a) ∧ w'.cell? ⟨w.heap.size, 1, none⟩ = some (.string b) ∧ w'.cell? ⟨w.heap.size, 2, none⟩ = some (.bool c1) ∧ w'.cell? ⟨w.heap.size, 3, none⟩ = some (.bool d) ∧ w'.cell? ⟨w.heap.size, 4, none⟩ = some (.bool e) ∧ w'.cell? ⟨w.heap.size, 5, none⟩ = some (.bool f) ∧ w'.cell? ⟨w.heap.size, 6, none⟩ = some (.bool g) ∧ w'.cell? (ad.add (i * 7)) = some (.string a_) ∧ w'.cell? ⟨(ad.add (i * 7)).block, (ad.add (i * 7)).off + 1, none⟩ = some (.string b_) ∧ w'.cell? ⟨(ad.add (i * 7)).block, (ad.add (i * 7)).off + 2, none⟩ = some (.bool c_) ∧ w'.cell? ⟨(ad.add (i * 7)).block, (ad.add (i * 7)).off + 3, none⟩ = some (.bool d_) ∧ w'.cell? ⟨(ad.add (i * 7)).block, (ad.add (i * 7)).off + 4, none⟩ = some (.bool e_) ∧ w'.cell? ⟨(ad.add (i * 7)).block, (ad.add (i * 7)).off + 5, none⟩ = some (.bool f_) ∧ w'.cell? ⟨(ad.add (i * 7)).block, (ad.add (i * 7)).off + 6, none⟩ = some (.bool g_)) ordsvaf 10 (by kernel_rfl) rgsvaf.siz (by kernel_rfl) ⟨k0, k1, k2, k3, k4, k5, k6, c0, c1_, c2, c3, c4, c5, c6⟩ (fun hHeld => ?_)
              iterate 8
                refine Held.tw rgsvaf ?_
                try simp only [Act.put, zA, zB, zC, zD, zE, zF]
              refine Held.only (k := 8) (i := 8) (by kernel_rfl) (by kernel_rfl) rfl (by kernel_rfl) (fun K hK => ?_)
              go_simp
              go_at_call 81
              with_reducible refine (refAheadR_is ⟨a, b, ⟨c1, d, e, f, g⟩⟩ ⟨a_, b_, ⟨c_, d_, e_, f_, g_⟩⟩ false _ HR).mono ?_
              rintro e w4 ⟨rfl, hbx⟩
              replace k0 := cell_below hbx k0
              replace k1 := cell_below hbx k1
              replace k2 := cell_below hbx k2
              replace k3 := cell_below hbx k3
              replace k4 := cell_below hbx k4
              replace k5 := cell_below hbx k5
              replace k6 := cell_below hbx k6
              replace c0 := cell_below hbx c0
              replace c1_ := cell_below hbx c1_
              replace c2 := cell_below hbx c2
              replace c3 := cell_below hbx c3
              replace c4 := cell_below hbx c4
              replace c5 := cell_below hbx c5
              replace c6 := cell_below hbx c6
              replace hO := hO.below hbx
              replace hB := below_call hB hbx
              refine hK.out _ _ (by (try dsimp only); (exact ⟨k0, k1, k2, k3, k4, k5, k6, c0, c1_, c2, c3, c4, c5, c6⟩)) (fun hHeld => ?_)
              clear hK K
              try simp only [Act.put, zA, zB, zC, zD, zE, zF]
              iterate 1
                refine Held.tw rgsvaf ?_
                try simp only [Act.put, zA, zB, zC, zD, zE, zF]
              refine wpAnyH_done (by kernel_rfl) ?_ _
              clear k0 k1 k2 k3 k4 k5 k6 c0 c1_ c2 c3 c4 c5 c6
              have hX1 := hcall hX0 hB
              obtain ⟨k0, k1, k2, k3, k4, k5, k6, kz⟩ := cellsEn a b c1 d e f g hX1
              obtain ⟨c0, c1_, c2, c3, c4, c5, c6⟩ := rowsEn (hl0.below hB) i hil a_ b_ c_ d_ e_ f_ g_ HE.out
              go_wp2_with (at_builtin; refine Own.append (w0 := (w.alloc (bxEn a b c1 d e f g))) (w.alloc (bxEn a b c1 d e f g)).heap.size rfl (.tmp 50) (.tmp 55) 22 105 zvEn 7 40 rfl Tryz.underlying22 infoEn rfl (by decide) _ (ys) ⟨a_, b_, ⟨c_, d_, e_, f_, g_⟩⟩ (enEn ⟨a_, b_, ⟨c_, d_, e_, f_, g_⟩⟩) rfl rfl rfl rfl (enEn_one _) hO hB hB.size (by (try simp only [List.length_append, List.length_cons, List.length_nil]); omega) (by (try simp only [List.length_append, List.length_cons, List.length_nil]); omega) ?_; intro v2 w2 hO2 hB2 _ _)
              exact ⟨⟨i + 1, false, ys ++ [⟨a_, b_, ⟨c_, d_, e_, f_, g_⟩⟩], rfl, by go_num, by omega, by rw [List.length_append]; simp only [List.length_cons, List.length_nil]; omega, HT2, hO2, hB2⟩, by simp [intOf]; omega⟩
        · have hs1 : ¬ a_.toList = a.toList := by simpa [toList_inj'] using q1
          have hs3 : (a_.toList == a.toList) = false := by simpa [toList_inj'] using q1
          clear q1 hs
          go_wp2_with fail
          go_quiet (fail)
          replace hB : Below (w.alloc (bxEn a b c1 d e f g)).heap.size (w.alloc (bxEn a b c1 d e f g)) (wr.drewN nq) := below_drewN hB _
          replace hO : Own enEn 7 105 (wr.drewN nq) (w.alloc (bxEn a b c1 d e f g)).heap.size _ ys := hO.drewN _
          clear k0 k1 k2 k3 k4 k5 k6 kz c0 c1_ c2 c3 c4 c5 c6
          replace hX1 := hcall hX0 hB
          obtain ⟨k0, k1, k2, k3, k4, k5, k6, kz⟩ := cellsEn a b c1 d e f g hX1
          obtain ⟨c0, c1_, c2, c3, c4, c5, c6⟩ := rowsEn (hl0.below hB) i hil a_ b_ c_ d_ e_ f_ g_ he
          cases dn with
          | true =>
            have HT2 : Hid ((ys ++ [⟨a_, b_, ⟨c_, d_, e_, f_, g_⟩⟩]) ++ setG ⟨a, b, ⟨c1, d, e, f, g⟩⟩ (l.drop (i + 1)) true = setRo l ⟨a, b, ⟨c1, d, e, f, g⟩⟩ keep) := by
              show _ = _
              rw [← HT0]
              simp
            have HE := Lib.hid he
            clear HT HT0 hkk hq he
            clear kz hX1
            replace hO : Own _ _ _ (wr.drewN nq).drew _ _ _ := hO
            replace hB : Below _ _ (wr.drewN nq).drew := hB.drew
            go_wp2_with fail
            refine Held.start (ops := opssvbd) (S := fun w' => w'.cell? ⟨w.heap.size, 0, none⟩ = some (.string a) ∧ w'.cell? ⟨w.heap.size, 1, none⟩ = some (.string b) ∧ w'.cell? ⟨w.heap.size, 2, none⟩ = some (.bool c1) ∧ w'.cell? ⟨w.heap.size, 3, none⟩ = some (.bool d) ∧ w'.cell? ⟨w.heap.size, 4, none⟩ = some (.bool e) ∧ w'.cell? ⟨w.heap.size, 5, none⟩ = some (.bool f) ∧ w'.cell? ⟨w.heap.size, 6, none⟩ = some (.bool g) ∧ w'.cell? (ad.add (i * 7)) = some (.string a_) ∧ w'.cell? ⟨(ad.add (i * 7)).block, (ad.add (i * 7)).off + 1, none⟩ = some (.string b_) ∧ w'.cell? ⟨(ad.add (i * 7)).block, (ad.add (i * 7)).off + 2, none⟩ = some (.bool c_) ∧ w'.cell? ⟨(ad.add (i * 7)).block, (ad.add (i * 7)).off + 3, none⟩ = some (.bool d_) ∧ w'.cell? ⟨(ad.add (i * 7)).block, (ad.add (i * 7)).off + 4, none⟩ = some (.bool e_) ∧ w'.cell? ⟨(ad.add (i * 7)).block, (ad.add (i * 7)).off + 5, none⟩ = some (.bool f_) ∧ w'.cell? ⟨(ad.add (i * 7)).block, (ad.add (i * 7)).off + 6, none⟩ = some (.bool g_)) ordsvbd 10 (by kernel_rfl) rgsvbd.siz (by kernel_rfl) ⟨k0, k1, k2, k3, k4, k5, k6, c0, c1_, c2, c3, c4, c5, c6⟩ (fun hHeld => ?_)
            iterate 3
              refine Held.tw rgsvbd ?_
              try simp only [Act.put, zA, zB, zC, zD, zE, zF]
            iterate 6
              refine Held.tu rgsvbd ?_
              try simp only [Act.put, zA, zB, zC, zD, zE, zF]
            iterate 1
              refine Held.tw rgsvbd ?_
              try simp only [Act.put, zA, zB, zC, zD, zE, zF]
            refine wpAnyH_done (by kernel_rfl) ?_ _
            clear k0 k1 k2 k3 k4 k5 k6 c0 c1_ c2 c3 c4 c5 c6
            replace hB : Below (w.alloc (bxEn a b c1 d e f g)).heap.size (w.alloc (bxEn a b c1 d e f g)) (wr.drewN (nq + 1)) := hB
            replace hO : Own enEn 7 105 (wr.drewN (nq + 1)) (w.alloc (bxEn a b c1 d e f g)).heap.size _ ys := hO
            obtain ⟨c0, c1_, c2, c3, c4, c5, c6⟩ := rowsEn (hl0.below hB) i hil a_ b_ c_ d_ e_ f_ g_ HE.out
            go_wp2_with (at_builtin; refine Own.append (w0 := (w.alloc (bxEn a b c1 d e f g))) (w.alloc (bxEn a b c1 d e f g)).heap.size rfl (.tmp 50) (.tmp 55) 22 105 zvEn 7 40 rfl Tryz.underlying22 infoEn rfl (by decide) _ (ys) ⟨a_, b_, ⟨c_, d_, e_, f_, g_⟩⟩ (enEn ⟨a_, b_, ⟨c_, d_, e_, f_, g_⟩⟩) rfl rfl rfl rfl (enEn_one _) hO hB hB.size (by (try simp only [List.length_append, List.length_cons, List.length_nil]); omega) (by (try simp only [List.length_append, List.length_cons, List.length_nil]); omega) ?_; intro v2 w2 hO2 hB2 _ _)
            exact ⟨⟨i + 1, true, ys ++ [⟨a_, b_, ⟨c_, d_, e_, f_, g_⟩⟩], rfl, by go_num, by omega, by rw [List.length_append]; simp only [List.length_cons, List.length_nil]; omega, HT2, hO2, hB2⟩, by simp [intOf]; omega⟩
          | false =>
            obtain ⟨r, hr⟩ : ∃ r, ltRo (keyRo (⟨a, b, ⟨c1, d, e, f, g⟩⟩ : En)) (keyRo ⟨a_, b_, ⟨c_, d_, e_, f_, g_⟩⟩) = r := ⟨_, rfl⟩
            have HR := Lib.hid hr
            rw [hr] at HT0
            have HE := Lib.hid he
            clear hr he
            cases r with
            | true =>
              have HT2 : Hid (((ys ++ [⟨a, b, ⟨c1, d, e, f, g⟩⟩]) ++ [⟨a_, b_, ⟨c_, d_, e_, f_, g_⟩⟩]) ++ setG ⟨a, b, ⟨c1, d, e, f, g⟩⟩ (l.drop (i + 1)) true = setRo l ⟨a, b, ⟨c1, d, e, f, g⟩⟩ keep) := by
                show _ = _
                rw [← HT0]
                simp
              clear HT HT0 hkk hq
              clear kz hX1
              replace hO : Own _ _ _ (wr.drewN nq).drew _ _ _ := hO
              replace hB : Below _ _ (wr.drewN nq).drew := hB.drew
              go_wp2_with fail
              refine Held.start (ops := opssvbt) (S := fun w' => w'.cell? ⟨w.heap.size, 0, none⟩ = some (.string a) ∧ w'.cell? ⟨w.heap.size, 1, none⟩ = some (.string b) ∧ w'.cell? ⟨w.heap.size, 2, none⟩ = some (.bool c1) ∧ w'.cell? ⟨w.heap.size, 3, none⟩ = some (.bool d) ∧ w'.cell? ⟨w.heap.size, 4, none⟩ = some (.bool e) ∧ w'.cell? ⟨w.heap.size, 5, none⟩ = some (.bool f) ∧ w'.cell? ⟨w.heap.size, 6, none⟩ = some (.bool g) ∧ w'.cell? (ad.add (i * 7)) = some (.string a_) ∧ w'.cell? ⟨(ad.add (i * 7)).block, (ad.add (i * 7)).off + 1, none⟩ = some (.string b_) ∧ w'.cell? ⟨(ad.add (i * 7)).block, (ad.add (i * 7)).off + 2, none⟩ = some (.bool c_) ∧ w'.cell? ⟨(ad.add (i * 7)).block, (ad.add (i * 7)).off + 3, none⟩ = some (.bool d_) ∧ w'.cell? ⟨(ad.add (i * 7)).block, (ad.add (i * 7)).off + 4, none⟩ = some (.bool e_) ∧ w'.cell? ⟨(ad.add (i * 7)).block, (ad.add (i * 7)).off + 5, none⟩ = some (.bool f_) ∧ w'.cell? ⟨(ad.add (i * 7)).block, (ad.add (i * 7)).off + 6, none⟩ = some (.bool g_)) ordsvbt 10 (by kernel_rfl) rgsvbt.siz (by kernel_rfl) ⟨k0, k1, k2, k3, k4, k5, k6, c0, c1_, c2, c3, c4, c5, c6⟩ (fun hHeld => ?_)
              iterate 8
                refine Held.tw rgsvbt ?_
                try simp only [Act.put, zA, zB, zC, zD, zE, zF]
              refine Held.only (k := 8) (i := 8) (by kernel_rfl) (by kernel_rfl) rfl (by kernel_rfl) (fun K hK => ?_)
              go_simp
              go_at_call 81
              with_reducible refine (refAheadR_is ⟨a, b, ⟨c1, d, e, f, g⟩⟩ ⟨a_, b_, ⟨c_, d_, e_, f_, g_⟩⟩ true _ HR).mono ?_
              rintro e w4 ⟨rfl, hbx⟩
              replace k0 := cell_below hbx k0
              replace k1 := cell_below hbx k1
              replace k2 := cell_below hbx k2
              replace k3 := cell_below hbx k3
              replace k4 := cell_below hbx k4
              replace k5 := cell_below hbx k5
              replace k6 := cell_below hbx k6
              replace c0 := cell_below hbx c0
              replace c1_ := cell_below hbx c1_
              replace c2 := cell_below hbx c2
              replace c3 := cell_below hbx c3
              replace c4 := cell_below hbx c4
              replace c5 := cell_below hbx c5
              replace c6 := cell_below hbx c6
              replace hO := hO.below hbx
              replace hB := below_call hB hbx
              refine hK.out _ _ (by (try dsimp only); (exact ⟨k0, k1, k2, k3, k4, k5, k6, c0, c1_, c2, c3, c4, c5, c6⟩)) (fun hHeld => ?_)
              clear hK K
              try simp only [Act.put, zA, zB, zC, zD, zE, zF]
              iterate 1
                refine Held.tw rgsvbt ?_
                try simp only [Act.put, zA, zB, zC, zD, zE, zF]
              refine wpAnyH_done (by kernel_rfl) ?_ _
              clear k0 k1 k2 k3 k4 k5 k6 c0 c1_ c2 c3 c4 c5 c6
              have hX1 := hcall hX0 hB
              obtain ⟨k0, k1, k2, k3, k4, k5, k6, kz⟩ := cellsEn a b c1 d e f g hX1
              obtain ⟨c0, c1_, c2, c3, c4, c5, c6⟩ := rowsEn (hl0.below hB) i hil a_ b_ c_ d_ e_ f_ g_ HE.out
              go_wp2_with (first | (at_builtin; refine Own.append (w0 := (w.alloc (bxEn a b c1 d e f g))) (w.alloc (bxEn a b c1 d e f g)).heap.size rfl (.tmp 46) (.tmp 48) 22 105 zvEn 7 40 rfl Tryz.underlying22 infoEn rfl (by decide) _ (ys) ⟨a, b, ⟨c1, d, e, f, g⟩⟩ (enEn ⟨a, b, ⟨c1, d, e, f, g⟩⟩) rfl rfl rfl rfl (enEn_one _) hO hB hB.size (by (try simp only [List.length_append, List.length_cons, List.length_nil]); omega) (by (try simp only [List.length_append, List.length_cons, List.length_nil]); omega) ?_; intro v2 w2 hO2 hB2 _ _; obtain ⟨m0, m1, m2, m3, m4, m5, m6⟩ := rowsEn (hl0.below hB2) i hil a_ b_ c_ d_ e_ f_ g_ HE.out) | (at_builtin; refine Own.append (w0 := (w.alloc (bxEn a b c1 d e f g))) (w.alloc (bxEn a b c1 d e f g)).heap.size rfl (.tmp 50) (.tmp 55) 22 105 zvEn 7 40 rfl Tryz.underlying22 infoEn rfl (by decide) _ (ys ++ [⟨a, b, ⟨c1, d, e, f, g⟩⟩]) ⟨a_, b_, ⟨c_, d_, e_, f_, g_⟩⟩ (enEn ⟨a_, b_, ⟨c_, d_, e_, f_, g_⟩⟩) rfl rfl rfl rfl (enEn_one _) hO2 hB2 hB2.size (by (try simp only [List.length_append, List.length_cons, List.length_nil]); omega) (by (try simp only [List.length_append, List.length_cons, List.length_nil]); omega) ?_; intro v3 w3 hO3 hB3 _ _))
              exact ⟨⟨i + 1, true, (ys ++ [⟨a, b, ⟨c1, d, e, f, g⟩⟩]) ++ [⟨a_, b_, ⟨c_, d_, e_, f_, g_⟩⟩], rfl, by go_num, by omega, by rw [List.length_append, List.length_append]; simp only [List.length_cons, List.length_nil]; omega, HT2, hO3, hB3⟩, by simp [intOf]; omega⟩
            | false =>
              have HT2 : Hid ((ys ++ [⟨a_, b_, ⟨c_, d_, e_, f_, g_⟩⟩]) ++ setG ⟨a, b, ⟨c1, d, e, f, g⟩⟩ (l.drop (i + 1)) false = setRo l ⟨a, b, ⟨c1, d, e, f, g⟩⟩ keep) := by
                show _ = _
                rw [← HT0]
                simp
              clear HT HT0 hkk hq
              clear kz hX1
              replace hO : Own _ _ _ (wr.drewN nq).drew _ _ _ := hO
              replace hB : Below _ _ (wr.drewN nq).drew := hB.drew
              go_wp2_with fail
              refine Held.start (ops := opssvbf) (S := fun w' => w'.cell? ⟨w.heap.size, 0, none⟩ = some (.string a) ∧ w'.cell? ⟨w.heap.size, 1, none⟩ = some (.string b) ∧ w'.cell? ⟨w.heap.size, 2, none⟩ = some (.bool c1) ∧ w'.cell? ⟨w.heap.size, 3, none⟩ = some (.bool d) ∧ w'.cell? ⟨w.heap.size, 4, none⟩ = some (.bool e) ∧ w'.cell? ⟨w.heap.size, 5, none⟩ = some (.bool f) ∧ w'.cell? ⟨w.heap.size, 6, none⟩ = some (.bool g) ∧ w'.cell? (ad.add (i * 7)) = some (.string a_) ∧ w'.cell? ⟨(ad.add (i * 7)).block, (ad.add (i * 7)).off + 1, none⟩ = some (.string b_) ∧ w'.cell? ⟨(ad.add (i * 7)).block, (ad.add (i * 7)).off + 2, none⟩ = some (.bool c_) ∧ w'.cell? ⟨(ad.add (i * 7)).block, (ad.add (i * 7)).off + 3, none⟩ = some (.bool d_) ∧ w'.cell? ⟨(ad.add (i * 7)).block, (ad.add (i * 7)).off + 4, none⟩ = some (.bool e_) ∧ w'.cell? ⟨(ad.add (i * 7)).block, (ad.add (i * 7)).off + 5, none⟩ = some (.bool f_) ∧ w'.cell? ⟨(ad.add (i * 7)).block, (ad.add (i * 7)).off + 6, none⟩ = some (.bool g_)) ordsvbf 10 (by kernel_rfl) rgsvbf.siz (by kernel_rfl) ⟨k0, k1, k2, k3, k4, k5, k6, c0, c1_, c2, c3, c4, c5, c6⟩ (fun hHeld => ?_)
              iterate 8
                refine Held.tw rgsvbf ?_
                try simp only [Act.put, zA, zB, zC, zD, zE, zF]
              refine Held.only (k := 8) (i := 8) (by kernel_rfl) (by kernel_rfl) rfl (by kernel_rfl) (fun K hK => ?_)
              go_simp
              go_at_call 81
              with_reducible refine (refAheadR_is ⟨a, b, ⟨c1, d, e, f, g⟩⟩ ⟨a_, b_, ⟨c_, d_, e_, f_, g_⟩⟩ false _ HR).mono ?_
              rintro e w4 ⟨rfl, hbx⟩
              replace k0 := cell_below hbx k0
              replace k1 := cell_below hbx k1
              replace k2 := cell_below hbx k2
              replace k3 := cell_below hbx k3
              replace k4 := cell_below hbx k4
              replace k5 := cell_below hbx k5
              replace k6 := cell_below hbx k6
              replace c0 := cell_below hbx c0
              replace c1_ := cell_below hbx c1_
              replace c2 := cell_below hbx c2
              replace c3 := cell_below hbx c3
              replace c4 := cell_below hbx c4
              replace c5 := cell_below hbx c5
              replace c6 := cell_below hbx c6
              replace hO := hO.below hbx
              replace hB := below_call hB hbx
              refine hK.out _ _ (by (try dsimp only); (exact ⟨k0, k1, k2, k3, k4, k5, k6, c0, c1_, c2, c3, c4, c5, c6⟩)) (fun hHeld => ?_)
              clear hK K
              try simp only [Act.put, zA, zB, zC, zD, zE, zF]
              iterate 1
                refine Held.tw rgsvbf ?_
                try simp only [Act.put, zA, zB, zC, zD, zE, zF]
              refine wpAnyH_done (by kernel_rfl) ?_ _
              clear k0 k1 k2 k3 k4 k5 k6 c0 c1_ c2 c3 c4 c5 c6
              have hX1 := hcall hX0 hB
              obtain ⟨k0, k1, k2, k3, k4, k5, k6, kz⟩ := cellsEn a b c1 d e f g hX1
              obtain ⟨c0, c1_, c2, c3, c4, c5, c6⟩ := rowsEn (hl0.below hB) i hil a_ b_ c_ d_ e_ f_ g_ HE.out
              go_wp2_with (at_builtin; refine Own.append (w0 := (w.alloc (bxEn a b c1 d e f g))) (w.alloc (bxEn a b c1 d e f g)).heap.size rfl (.tmp 50) (.tmp 55) 22 105 zvEn 7 40 rfl Tryz.underlying22 infoEn rfl (by decide) _ (ys) ⟨a_, b_, ⟨c_, d_, e_, f_, g_⟩⟩ (enEn ⟨a_, b_, ⟨c_, d_, e_, f_, g_⟩⟩) rfl rfl rfl rfl (enEn_one _) hO hB hB.size (by (try simp only [List.length_append, List.length_cons, List.length_nil]); omega) (by (try simp only [List.length_append, List.length_cons, List.length_nil]); omega) ?_; intro v2 w2 hO2 hB2 _ _)
              exact ⟨⟨i + 1, false, ys ++ [⟨a_, b_, ⟨c_, d_, e_, f_, g_⟩⟩], rfl, by go_num, by omega, by rw [List.length_append]; simp only [List.length_cons, List.length_nil]; omega, HT2, hO2, hB2⟩, by simp [intOf]; omega⟩
    · have hin : i = n := by omega
      have HT0 := HT.out
      rw [List.drop_of_length_le (by have := EA.out; omega)] at HT0
      unfold setG at HT0
      clear HT
      cases dn with
      | true =>
        have HF : Hid (setRo l ⟨a, b, ⟨c1, d, e, f, g⟩⟩ keep = ys) := by show _ = _; rw [← HT0]; simp
        clear HT0
        go_wp2
        go_ret
        rw [HF.out]
        exact ⟨_, rfl, hO.lower (by rw [HZ.out]; omega), below_call hBX hB⟩
      | false =>
        have HF : Hid (setRo l ⟨a, b, ⟨c1, d, e, f, g⟩⟩ keep = ys ++ [⟨a, b, ⟨c1, d, e, f, g⟩⟩]) := by show _ = _; rw [← HT0]; simp
        clear HT0
        go_wp2_with (at_builtin; refine Own.append (w0 := (w.alloc (bxEn a b c1 d e f g))) (w.alloc (bxEn a b c1 d e f g)).heap.size rfl (.tmp 59) (.tmp 61) 22 105 zvEn 7 40 rfl Tryz.underlying22 infoEn rfl (by decide) _ (ys) ⟨a, b, ⟨c1, d, e, f, g⟩⟩ (enEn ⟨a, b, ⟨c1, d, e, f, g⟩⟩) rfl rfl rfl rfl (enEn_one _) hO hB hB.size (by (try simp only [List.length_append, List.length_cons, List.length_nil]); omega) (by (try simp only [List.length_append, List.length_cons, List.length_nil]); omega) ?_; intro v2 w2 hO2 hB2 _ _)
        go_ret
        rw [HF.out]
        exact ⟨_, rfl, hO2.lower (by rw [HZ.out]; omega), below_call hBX hB2⟩
theorem refSet8_is (n c : Nat) (A : Option Addr) (l : List En) (a b : ByteArray) (c1 d e f g keep : Bool) (r : List En) (w : World) (hl : Row enEn 7 w (.slice A n c) l) (hn : n ≤ 100000) (h : Hid (setRo l ⟨a, b, ⟨c1, d, e, f, g⟩⟩ keep = r)) :
    Calls Tryz.prog 159 #[.slice A n c, .agg #[.string a, .string b, .bool c1, .bool d, .bool e, .bool f, .bool g], .bool keep] w fun x w' => ∃ v, x = .returned v ∧ Row enEn 7 w' v r ∧ (∀ g, v.ownBlock = some g → w.heap.size ≤ g) ∧ Below w.heap.size w w' :=
  (refSet8_calls n c A l a b c1 d e f g keep w hl hn).mono fun x w' ⟨v, h1, h2, h3⟩ => ⟨v, h1, by rw [← h.out]; exact h2.row, fun g hg => h2.base_le g hg, h3⟩
end Go.Proofs.YtbpfcjdjhponaaaGreat
namespace Go.Proofs.YtbpfcjdjhponaaaGreat
open Go.RowKit
open Sp
theorem setRo_len (l : List En) (x : En) (keep : Bool) : (setRo l x keep).length ≤ l.length + 1 := by
  have h1 : (delK keyRo l (keyRo x)).length ≤ l.length := List.length_filter_le _ _
  unfold setRo
  split
  · have h2 := congrArg List.length (List.takeWhile_append_dropWhile (p := fun y => !ltRo (keyRo x) (keyRo y)) (l := delK keyRo l (keyRo x)))
    rw [List.length_append] at h2
    rw [List.length_append, List.length_cons]
    omega
  · omega
theorem refIsB_is (w : World) (s : ByteArray) (b : Bool) (h : Hid (isName s = b)) (hs : s.size ≤ 140737488351232) :
    Calls Tryz.prog 80 #[.string s] w fun e w' => e = .returned (.bool b) ∧ Below w.heap.size w w' :=
  (refIs_is w s b h hs).mono fun e w' ⟨h1, h2⟩ => ⟨h1, by rw [← h2]; exact Below.refl _ _⟩
theorem refOfLen8 (n c : Nat) (A : Option Addr) (l : List En) (q : ByteArray) (w : World) (hl : Row enEn 7 w (.slice A n c) l) (hn : n ≤ 100000) (m : Nat) (h : Hid ((ofRo l q).length = m)) :
    Calls Tryz.prog 68 #[.slice A n c, .string q] w fun e w' => (∃ A' c', e = .returned (.slice A' m c')) ∧ Below w.heap.size w w' :=
  (refOfRo_calls n c A l q w hl hn).mono fun e w' ⟨v, he, ho, hb⟩ => by
    obtain ⟨A', c', hv, _⟩ := ho.slice
    refine ⟨⟨A', c', ?_⟩, hb⟩
    rw [he, hv, ← h.out]
    rfl
set_option maxHeartbeats 32000000 in
set_option maxRecDepth 100000 in
theorem refDoRo_calls (n c : Nat) (A : Option Addr) (l : List En) (k : Int) (u o : ByteArray) (w : World) (hl : Row enEn 7 w (.slice A n c) l) (hz : SzRo l) (hn : n ≤ 900) (hu : u.size ≤ 140737488351232) (ho : o.size ≤ 140737488351232) :
    Calls Tryz.prog 112 #[.slice A n c, .int .i64 k, .string u, .string o] w fun e w' => ∃ vl, e = .returned (.tuple #[vl, .int .i64 (doRo l k u o).2]) ∧ Row enEn 7 w' vl (doRo l k u o).1 ∧ Below w.heap.size w w' ∧ (vl = .slice A n c ∨ ∀ g, vl.ownBlock = some g → w.heap.size ≤ g) := by
  have EA := Lib.hid hl.len_eq
  have D := Below.refl w.heap.size w
  obtain ⟨r, er0, hr⟩ : ∃ r e, doRo l k u o = (r, e) := ⟨_, _, rfl⟩
  rw [hr]
  unfold doRo at hr
  have HR := Lib.hid hr
  clear hr
  obtain ⟨m, hm⟩ : ∃ m, mayRo l = m := ⟨_, rfl⟩
  have HM := Lib.hid hm
  have HMC := re_ (refMayRo_calls n c A l w hl hz (by omega)) (ret_bool HM.out)
  clear hm
  cases m with
  | false =>
    have HF : Hid (r = l ∧ er0 = 1) := by
      have := HR.out
      rw [if_pos (by unfold okDo; rw [HM.out]; rfl)] at this
      injection this with h1 h2
      exact ⟨h1.symm, h2.symm⟩
    go_enter Tryz.func112, Tryz.ntmps112
    go_wp2_with fail
    with_reducible refine (HMC).mono ?_
    rintro e w1 ⟨rfl, b1⟩
    replace D := below_call D b1
    clear b1
    go_wp2
    go_ret2
    rw [HF.out.1, HF.out.2]
    exact ⟨_, rfl, hl.below D, D, .inl rfl⟩
  | true =>
  obtain ⟨b, hb⟩ : ∃ b, isName u = b := ⟨_, rfl⟩
  have HNu := Lib.hid hb
  clear hb
  cases b with
  | false =>
    have HF : Hid (r = l ∧ er0 = 1) := by
      have := HR.out
      rw [if_pos (by unfold okDo; rw [HM.out, HNu.out]; rfl)] at this
      injection this with h1 h2
      exact ⟨h1.symm, h2.symm⟩
    go_enter Tryz.func112, Tryz.ntmps112
    go_wp2_with fail
    with_reducible refine (HMC).mono ?_
    rintro e w1 ⟨rfl, b1⟩
    replace D := below_call D b1
    clear b1
    go_wp2_with fail
    with_reducible refine (refIsB_is _ u _ HNu hu).mono ?_
    rintro e w2 ⟨rfl, b2⟩
    replace D := below_call D b2
    clear b2
    go_wp2
    go_ret2
    rw [HF.out.1, HF.out.2]
    exact ⟨_, rfl, hl.below D, D, .inl rfl⟩
  | true =>
  obtain ⟨b, hb⟩ : ∃ b, isName o = b := ⟨_, rfl⟩
  have HNo := Lib.hid hb
  clear hb
  cases b with
  | false =>
    have HF : Hid (r = l ∧ er0 = 1) := by
      have := HR.out
      rw [if_pos (by unfold okDo; rw [HM.out, HNu.out, HNo.out]; rfl)] at this
      injection this with h1 h2
      exact ⟨h1.symm, h2.symm⟩
    go_enter Tryz.func112, Tryz.ntmps112
    go_wp2_with fail
    with_reducible refine (HMC).mono ?_
    rintro e w1 ⟨rfl, b1⟩
    replace D := below_call D b1
    clear b1
    go_wp2_with fail
    with_reducible refine (refIsB_is _ u _ HNu hu).mono ?_
    rintro e w2 ⟨rfl, b2⟩
    replace D := below_call D b2
    clear b2
    go_wp2_with fail
    with_reducible refine (refIsB_is _ o _ HNo ho).mono ?_
    rintro e w3 ⟨rfl, b3⟩
    replace D := below_call D b3
    clear b3
    go_wp2
    go_ret2
    rw [HF.out.1, HF.out.2]
    exact ⟨_, rfl, hl.below D, D, .inl rfl⟩
  | true =>
  by_cases huo : u = o
  · have e1 : (u.toList == o.toList) = true := by rw [huo]; exact beq_self_eq_true _
    have HF : Hid (r = l ∧ er0 = 1) := by
      have := HR.out
      rw [if_pos (by unfold okDo; rw [HM.out, HNu.out, HNo.out, decide_eq_true huo]; rfl)] at this
      injection this with h1 h2
      exact ⟨h1.symm, h2.symm⟩
    clear huo
    go_enter Tryz.func112, Tryz.ntmps112
    go_wp2_with fail
    with_reducible refine (HMC).mono ?_
    rintro e w1 ⟨rfl, b1⟩
    replace D := below_call D b1
    clear b1
    go_wp2_with fail
    with_reducible refine (refIsB_is _ u _ HNu hu).mono ?_
    rintro e w2 ⟨rfl, b2⟩
    replace D := below_call D b2
    clear b2
    go_wp2_with fail
    with_reducible refine (refIsB_is _ o _ HNo ho).mono ?_
    rintro e w3 ⟨rfl, b3⟩
    replace D := below_call D b3
    clear b3
    go_wp2
    go_ret2
    rw [HF.out.1, HF.out.2]
    exact ⟨_, rfl, hl.below D, D, .inl rfl⟩
  have e1 : (u.toList == o.toList) = false := by simpa [toList_inj'] using huo
  by_cases hk1 : k < 1
  · have g1 : decide (k < 1) = true := decide_eq_true hk1
    have HF : Hid (r = l ∧ er0 = 1) := by
      have := HR.out
      rw [if_pos (by unfold okDo; rw [HM.out, HNu.out, HNo.out, decide_eq_false huo, decide_eq_false (by omega : ¬ 1 ≤ k)]; rfl)] at this
      injection this with h1 h2
      exact ⟨h1.symm, h2.symm⟩
    clear huo
    go_enter Tryz.func112, Tryz.ntmps112
    go_wp2_with fail
    with_reducible refine (HMC).mono ?_
    rintro e w1 ⟨rfl, b1⟩
    replace D := below_call D b1
    clear b1
    go_wp2_with fail
    with_reducible refine (refIsB_is _ u _ HNu hu).mono ?_
    rintro e w2 ⟨rfl, b2⟩
    replace D := below_call D b2
    clear b2
    go_wp2_with fail
    with_reducible refine (refIsB_is _ o _ HNo ho).mono ?_
    rintro e w3 ⟨rfl, b3⟩
    replace D := below_call D b3
    clear b3
    go_wp2
    go_ret2
    rw [HF.out.1, HF.out.2]
    exact ⟨_, rfl, hl.below D, D, .inl rfl⟩
  have g1 : decide (k < 1) = false := decide_eq_false hk1
  by_cases hk6 : 6 < k
  · have g2 : decide (6 < k) = true := decide_eq_true hk6
    have HF : Hid (r = l ∧ er0 = 1) := by
      have := HR.out
      rw [if_pos (by unfold okDo; rw [HM.out, HNu.out, HNo.out, decide_eq_false huo, decide_eq_true (by omega : 1 ≤ k), decide_eq_false (by omega : ¬ k ≤ 6)]; rfl)] at this
      injection this with h1 h2
      exact ⟨h1.symm, h2.symm⟩
    clear huo
    go_enter Tryz.func112, Tryz.ntmps112
    go_wp2_with fail
    with_reducible refine (HMC).mono ?_
    rintro e w1 ⟨rfl, b1⟩
    replace D := below_call D b1
    clear b1
    go_wp2_with fail
    with_reducible refine (refIsB_is _ u _ HNu hu).mono ?_
    rintro e w2 ⟨rfl, b2⟩
    replace D := below_call D b2
    clear b2
    go_wp2_with fail
    with_reducible refine (refIsB_is _ o _ HNo ho).mono ?_
    rintro e w3 ⟨rfl, b3⟩
    replace D := below_call D b3
    clear b3
    go_wp2
    go_ret2
    rw [HF.out.1, HF.out.2]
    exact ⟨_, rfl, hl.below D, D, .inl rfl⟩
  have g2 : decide (6 < k) = false := decide_eq_false hk6
  have hok : ¬ okDo l k u o = false := by
    unfold okDo
    rw [HM.out, HNu.out, HNo.out, decide_eq_false huo, decide_eq_true (by omega : 1 ≤ k), decide_eq_true (by omega : k ≤ 6)]
    decide
  obtain ⟨⟨c1, c2, c3, c4, c5⟩, hg1⟩ : ∃ x, getRo l u o = x := ⟨_, rfl⟩
  obtain ⟨⟨d1, d2, d3, d4, d5⟩, hg2⟩ : ∃ x, getRo l o u = x := ⟨_, rfl⟩
  obtain ⟨⟨m1, m2, m3, m4, m5⟩, ⟨o1, o2, o3, o4, o5⟩, er, hact⟩ : ∃ x y z, actI (getRo l u o) (getRo l o u) k = (x, y, z) := ⟨_, _, _, rfl⟩
  have hr := HR.out
  rw [if_neg hok, hact] at hr
  simp only at hr
  rw [hg1, hg2] at hact
  have HG1 := Lib.hid (show ∀ W : World, Row enEn 7 W (.slice A n c) l → Calls Tryz.prog 82 #[.slice A n c, .string u, .string o] W fun e w' => e = .returned (agI c1 c2 c3 c4 c5) ∧ Below W.heap.size W w' from fun W h => by
    have := refGetRo_calls n c A l u o W h
    rwa [hg1] at this)
  have HG2 := Lib.hid (show ∀ W : World, Row enEn 7 W (.slice A n c) l → Calls Tryz.prog 82 #[.slice A n c, .string o, .string u] W fun e w' => e = .returned (agI d1 d2 d3 d4 d5) ∧ Below W.heap.size W w' from fun W h => by
    have := refGetRo_calls n c A l o u W h
    rwa [hg2] at this)
  have HACT := Lib.hid (show ∀ W : World, Calls Tryz.prog 158 #[agI c1 c2 c3 c4 c5, agI d1 d2 d3 d4 d5, .int .i64 k] W fun e w' => e = .returned (.tuple #[agI m1 m2 m3 m4 m5, agI o1 o2 o3 o4 o5, .int .i64 er]) ∧ Below W.heap.size W w' from fun W => by
    have := refAct_calls c1 c2 c3 c4 c5 d1 d2 d3 d4 d5 k W
    rwa [hact] at this)
  have HOR := Lib.hid (mayRo_ord HM.out)
  clear huo hok hg1 hg2 hact
  by_cases her : er = 0
  case neg =>
    have HF : Hid (r = l ∧ er0 = er) := by
      rw [if_pos her] at hr
      injection hr with h1 h2
      exact ⟨h1.symm, h2.symm⟩
    have he2 : (er == 0) = false := by simpa using her
    clear hr her
    go_enter Tryz.func112, Tryz.ntmps112
    go_wp2_with fail
    with_reducible refine (HMC).mono ?_
    rintro e w1 ⟨rfl, b1⟩
    replace D := below_call D b1
    clear b1
    go_wp2_with fail
    with_reducible refine (refIsB_is _ u _ HNu hu).mono ?_
    rintro e w2 ⟨rfl, b2⟩
    replace D := below_call D b2
    clear b2
    go_wp2_with fail
    with_reducible refine (refIsB_is _ o _ HNo ho).mono ?_
    rintro e w3 ⟨rfl, b3⟩
    replace D := below_call D b3
    clear b3
    go_wp2_with fail
    with_reducible refine (HG1.out _ (hl.below D)).mono ?_
    rintro e w4 ⟨rfl, b4⟩
    replace D := below_call D b4
    clear b4
    go_wp2_with fail
    with_reducible refine (HG2.out _ (hl.below D)).mono ?_
    rintro e w5 ⟨rfl, b5⟩
    replace D := below_call D b5
    clear b5
    go_wp2_with fail
    with_reducible refine (HACT.out _).mono ?_
    rintro e w6 ⟨rfl, b6⟩
    replace D := below_call D b6
    clear b6
    replace D := below_alloc0 D (bxIt m1 m2 m3 m4 m5)
    replace D := below_alloc0 D (bxIt o1 o2 o3 o4 o5)
    go_wp2
    go_ret2
    rw [HF.out.1, HF.out.2]
    exact ⟨_, rfl, hl.below D, D, .inl rfl⟩
  subst her
  rw [if_neg (by decide)] at hr
  obtain ⟨is, his⟩ : ∃ b, hasRo l u o = b := ⟨_, rfl⟩
  obtain ⟨x1, hx1⟩ : ∃ m, (ofRo l u).length = m := ⟨_, rfl⟩
  obtain ⟨x2, hx2⟩ : ∃ m, (ofRo l o).length = m := ⟨_, rfl⟩
  have hfull : fullRo l u o = (!is && (decide (16 ≤ x1) || decide (16 ≤ x2))) := by unfold fullRo; rw [his, hx1, hx2]
  rw [hfull] at hr
  have HX1 := Lib.hid hx1
  have HX2 := Lib.hid hx2
  have HIS := Lib.hid his
  clear his hx1 hx2 hfull
  obtain ⟨keep, hkeep⟩ : ∃ b, (!(emptyI ⟨m1, m2, m3, m4, m5⟩ && emptyI ⟨o1, o2, o3, o4, o5⟩)) = b := ⟨_, rfl⟩
  rw [hkeep] at hr
  have HK := Lib.hid hkeep
  clear hkeep
  cases is with
  | true =>
    simp only [Bool.not_true, Bool.false_and] at hr
    go_enter Tryz.func112, Tryz.ntmps112
    go_wp2_with fail
    with_reducible refine (HMC).mono ?_
    rintro e w1 ⟨rfl, b1⟩
    replace D := below_call D b1
    clear b1
    go_wp2_with fail
    with_reducible refine (refIsB_is _ u _ HNu hu).mono ?_
    rintro e w2 ⟨rfl, b2⟩
    replace D := below_call D b2
    clear b2
    go_wp2_with fail
    with_reducible refine (refIsB_is _ o _ HNo ho).mono ?_
    rintro e w3 ⟨rfl, b3⟩
    replace D := below_call D b3
    clear b3
    go_wp2_with fail
    with_reducible refine (HG1.out _ (hl.below D)).mono ?_
    rintro e w4 ⟨rfl, b4⟩
    replace D := below_call D b4
    clear b4
    go_wp2_with fail
    with_reducible refine (HG2.out _ (hl.below D)).mono ?_
    rintro e w5 ⟨rfl, b5⟩
    replace D := below_call D b5
    clear b5
    go_wp2_with fail
    with_reducible refine (HACT.out _).mono ?_
    rintro e w6 ⟨rfl, b6⟩
    replace D := below_call D b6
    clear b6
    have ha := heap_alloc_new w6 (bxIt m1 m2 m3 m4 m5)
    replace D := below_alloc0 D (bxIt m1 m2 m3 m4 m5)
    have hb := heap_alloc_new (w6.alloc (bxIt m1 m2 m3 m4 m5)) (bxIt o1 o2 o3 o4 o5)
    replace ha := halloc ha (bxIt o1 o2 o3 o4 o5)
    replace D := below_alloc0 D (bxIt o1 o2 o3 o4 o5)
    rw [size_alloc] at hb
    go_wp2_with fail
    with_reducible refine (re_ (hasRo_calls n c A l u o _ (hl.below D)) (ret_bool HIS.out)).mono ?_
    rintro e w7 ⟨rfl, b7⟩
    replace ha := hcall ha b7
    replace hb := hcall hb b7
    replace D := below_call D b7
    clear b7
    cases h1 : emptyI ⟨m1, m2, m3, m4, m5⟩ with
    | false =>
      obtain ⟨⟨k0, k1, k2, k3, k4⟩, -, kz⟩ := iopen ha
      obtain ⟨⟨j0, j1, j2, j3, j4⟩, -, jz⟩ := iopen hb
      have HE1 := Lib.hid h1
      go_wp2_with fail
      with_reducible refine (re_ (refEmptyI_calls m1 m2 m3 m4 m5 _) (ret_bool HE1.out)).mono ?_
      rintro e w8 ⟨rfl, b8⟩
      replace ha := hcall ha b8
      replace hb := hcall hb b8
      replace D := below_call D b8
      clear b8 k0 k1 k2 k3 k4 kz j0 j1 j2 j3 j4 jz
      rw [if_neg (by simp)] at hr
      have hk : keep = true := by rw [← HK.out]; simp [h1]
      rw [hk] at hr
      injection hr with q1 q2
      obtain ⟨ra, hra⟩ : ∃ ra, setRo l ⟨u, o, ⟨m1, m2, m3, m4, m5⟩⟩ true = ra := ⟨_, rfl⟩
      have hrl : ra.length ≤ 1000 := by
        rw [← hra]
        have := setRo_len l ⟨u, o, ⟨m1, m2, m3, m4, m5⟩⟩ true
        have := EA.out
        omega
      obtain ⟨na, hna⟩ : ∃ m, ra.length = m := ⟨_, rfl⟩
      rw [hra] at q1
      have HA := Lib.hid hra
      have HB := Lib.hid q1
      have HN := Lib.hid hna
      have HE := Lib.hid q2
      have hnl : na ≤ 100000 := by omega
      clear hra hna hk q1 q2 h1 hrl
      obtain ⟨⟨k0, k1, k2, k3, k4⟩, -, kz⟩ := iopen ha
      obtain ⟨⟨j0, j1, j2, j3, j4⟩, -, jz⟩ := iopen hb
      go_wp2_with fail
      with_reducible refine (refSet8_is n c A l u o m1 m2 m3 m4 m5 true ra _ (hl.below D) (by omega) HA).mono ?_
      rintro e w9 ⟨v1, rfl, rr, _, b9⟩
      replace ha := hcall ha b9
      replace hb := hcall hb b9
      replace D := below_call D b9
      clear b9 k0 k1 k2 k3 k4 kz j0 j1 j2 j3 j4 jz
      obtain ⟨Aa, ca, rfl⟩ := Row.form8 rr na HN.out
      obtain ⟨⟨k0, k1, k2, k3, k4⟩, -, kz⟩ := iopen ha
      obtain ⟨⟨j0, j1, j2, j3, j4⟩, -, jz⟩ := iopen hb
      go_wp2_with fail
      with_reducible refine (refSet8_is na ca Aa ra o u o1 o2 o3 o4 o5 true r _ rr hnl HB).mono ?_
      have hfz := D.size
      rintro e w10 ⟨v2, rfl, rf, hff, b10⟩
      replace ha := hcall ha b10
      replace hb := hcall hb b10
      replace rr := rr.below b10
      replace D := below_call D b10
      clear b10 k0 k1 k2 k3 k4 kz j0 j1 j2 j3 j4 jz
      go_wp2
      go_ret2
      rw [← HE.out]
      exact ⟨_, rfl, rf, D, .inr fun g hg => Nat.le_trans hfz (hff g hg)⟩
    | true =>
      cases h2 : emptyI ⟨o1, o2, o3, o4, o5⟩ with
      | false =>
        obtain ⟨⟨k0, k1, k2, k3, k4⟩, -, kz⟩ := iopen ha
        obtain ⟨⟨j0, j1, j2, j3, j4⟩, -, jz⟩ := iopen hb
        have HE1 := Lib.hid h1
        go_wp2_with fail
        with_reducible refine (re_ (refEmptyI_calls m1 m2 m3 m4 m5 _) (ret_bool HE1.out)).mono ?_
        rintro e w8 ⟨rfl, b8⟩
        replace ha := hcall ha b8
        replace hb := hcall hb b8
        replace D := below_call D b8
        clear b8 k0 k1 k2 k3 k4 kz j0 j1 j2 j3 j4 jz
        obtain ⟨⟨k0, k1, k2, k3, k4⟩, -, kz⟩ := iopen ha
        obtain ⟨⟨j0, j1, j2, j3, j4⟩, -, jz⟩ := iopen hb
        have HE2 := Lib.hid h2
        go_wp2_with fail
        with_reducible refine (re_ (refEmptyI_calls o1 o2 o3 o4 o5 _) (ret_bool HE2.out)).mono ?_
        rintro e w9 ⟨rfl, b9⟩
        replace ha := hcall ha b9
        replace hb := hcall hb b9
        replace D := below_call D b9
        clear b9 k0 k1 k2 k3 k4 kz j0 j1 j2 j3 j4 jz
        rw [if_neg (by simp)] at hr
        have hk : keep = true := by rw [← HK.out]; simp [h1, h2]
        rw [hk] at hr
        injection hr with q1 q2
        obtain ⟨ra, hra⟩ : ∃ ra, setRo l ⟨u, o, ⟨m1, m2, m3, m4, m5⟩⟩ true = ra := ⟨_, rfl⟩
        have hrl : ra.length ≤ 1000 := by
          rw [← hra]
          have := setRo_len l ⟨u, o, ⟨m1, m2, m3, m4, m5⟩⟩ true
          have := EA.out
          omega
        obtain ⟨na, hna⟩ : ∃ m, ra.length = m := ⟨_, rfl⟩
        rw [hra] at q1
        have HA := Lib.hid hra
        have HB := Lib.hid q1
        have HN := Lib.hid hna
        have HE := Lib.hid q2
        have hnl : na ≤ 100000 := by omega
        clear hra hna hk q1 q2 h1 hrl
        obtain ⟨⟨k0, k1, k2, k3, k4⟩, -, kz⟩ := iopen ha
        obtain ⟨⟨j0, j1, j2, j3, j4⟩, -, jz⟩ := iopen hb
        go_wp2_with fail
        with_reducible refine (refSet8_is n c A l u o m1 m2 m3 m4 m5 true ra _ (hl.below D) (by omega) HA).mono ?_
        rintro e w10 ⟨v1, rfl, rr, _, b10⟩
        replace ha := hcall ha b10
        replace hb := hcall hb b10
        replace D := below_call D b10
        clear b10 k0 k1 k2 k3 k4 kz j0 j1 j2 j3 j4 jz
        obtain ⟨Aa, ca, rfl⟩ := Row.form8 rr na HN.out
        obtain ⟨⟨k0, k1, k2, k3, k4⟩, -, kz⟩ := iopen ha
        obtain ⟨⟨j0, j1, j2, j3, j4⟩, -, jz⟩ := iopen hb
        go_wp2_with fail
        with_reducible refine (refSet8_is na ca Aa ra o u o1 o2 o3 o4 o5 true r _ rr hnl HB).mono ?_
        have hfz := D.size
        rintro e w11 ⟨v2, rfl, rf, hff, b11⟩
        replace ha := hcall ha b11
        replace hb := hcall hb b11
        replace rr := rr.below b11
        replace D := below_call D b11
        clear b11 k0 k1 k2 k3 k4 kz j0 j1 j2 j3 j4 jz
        go_wp2
        go_ret2
        rw [← HE.out]
        exact ⟨_, rfl, rf, D, .inr fun g hg => Nat.le_trans hfz (hff g hg)⟩
      | true =>
        obtain ⟨⟨k0, k1, k2, k3, k4⟩, -, kz⟩ := iopen ha
        obtain ⟨⟨j0, j1, j2, j3, j4⟩, -, jz⟩ := iopen hb
        have HE1 := Lib.hid h1
        go_wp2_with fail
        with_reducible refine (re_ (refEmptyI_calls m1 m2 m3 m4 m5 _) (ret_bool HE1.out)).mono ?_
        rintro e w8 ⟨rfl, b8⟩
        replace ha := hcall ha b8
        replace hb := hcall hb b8
        replace D := below_call D b8
        clear b8 k0 k1 k2 k3 k4 kz j0 j1 j2 j3 j4 jz
        obtain ⟨⟨k0, k1, k2, k3, k4⟩, -, kz⟩ := iopen ha
        obtain ⟨⟨j0, j1, j2, j3, j4⟩, -, jz⟩ := iopen hb
        have HE2 := Lib.hid h2
        go_wp2_with fail
        with_reducible refine (re_ (refEmptyI_calls o1 o2 o3 o4 o5 _) (ret_bool HE2.out)).mono ?_
        rintro e w9 ⟨rfl, b9⟩
        replace ha := hcall ha b9
        replace hb := hcall hb b9
        replace D := below_call D b9
        clear b9 k0 k1 k2 k3 k4 kz j0 j1 j2 j3 j4 jz
        rw [if_neg (by simp)] at hr
        have hk : keep = false := by rw [← HK.out]; simp [h1, h2]
        rw [hk] at hr
        injection hr with q1 q2
        obtain ⟨ra, hra⟩ : ∃ ra, setRo l ⟨u, o, ⟨m1, m2, m3, m4, m5⟩⟩ false = ra := ⟨_, rfl⟩
        have hrl : ra.length ≤ 1000 := by
          rw [← hra]
          have := setRo_len l ⟨u, o, ⟨m1, m2, m3, m4, m5⟩⟩ false
          have := EA.out
          omega
        obtain ⟨na, hna⟩ : ∃ m, ra.length = m := ⟨_, rfl⟩
        rw [hra] at q1
        have HA := Lib.hid hra
        have HB := Lib.hid q1
        have HN := Lib.hid hna
        have HE := Lib.hid q2
        have hnl : na ≤ 100000 := by omega
        clear hra hna hk q1 q2 h1 hrl
        obtain ⟨⟨k0, k1, k2, k3, k4⟩, -, kz⟩ := iopen ha
        obtain ⟨⟨j0, j1, j2, j3, j4⟩, -, jz⟩ := iopen hb
        go_wp2_with fail
        with_reducible refine (refSet8_is n c A l u o m1 m2 m3 m4 m5 false ra _ (hl.below D) (by omega) HA).mono ?_
        rintro e w10 ⟨v1, rfl, rr, _, b10⟩
        replace ha := hcall ha b10
        replace hb := hcall hb b10
        replace D := below_call D b10
        clear b10 k0 k1 k2 k3 k4 kz j0 j1 j2 j3 j4 jz
        obtain ⟨Aa, ca, rfl⟩ := Row.form8 rr na HN.out
        obtain ⟨⟨k0, k1, k2, k3, k4⟩, -, kz⟩ := iopen ha
        obtain ⟨⟨j0, j1, j2, j3, j4⟩, -, jz⟩ := iopen hb
        go_wp2_with fail
        with_reducible refine (refSet8_is na ca Aa ra o u o1 o2 o3 o4 o5 false r _ rr hnl HB).mono ?_
        have hfz := D.size
        rintro e w11 ⟨v2, rfl, rf, hff, b11⟩
        replace ha := hcall ha b11
        replace hb := hcall hb b11
        replace rr := rr.below b11
        replace D := below_call D b11
        clear b11 k0 k1 k2 k3 k4 kz j0 j1 j2 j3 j4 jz
        go_wp2
        go_ret2
        rw [← HE.out]
        exact ⟨_, rfl, rf, D, .inr fun g hg => Nat.le_trans hfz (hff g hg)⟩
  | false =>
  by_cases h16 : 16 ≤ x1
  · have g3 : decide ((16 : Int) ≤ (x1 : Int)) = true := decide_eq_true (by omega)
    have g4 : decide (16 ≤ x1) = true := decide_eq_true h16
    rw [g4] at hr
    have HF : Hid (r = l ∧ er0 = 5) := by
      injection hr with h1 h2
      exact ⟨h1.symm, h2.symm⟩
    clear hr
    go_enter Tryz.func112, Tryz.ntmps112
    go_wp2_with fail
    with_reducible refine (HMC).mono ?_
    rintro e w1 ⟨rfl, b1⟩
    replace D := below_call D b1
    clear b1
    go_wp2_with fail
    with_reducible refine (refIsB_is _ u _ HNu hu).mono ?_
    rintro e w2 ⟨rfl, b2⟩
    replace D := below_call D b2
    clear b2
    go_wp2_with fail
    with_reducible refine (refIsB_is _ o _ HNo ho).mono ?_
    rintro e w3 ⟨rfl, b3⟩
    replace D := below_call D b3
    clear b3
    go_wp2_with fail
    with_reducible refine (HG1.out _ (hl.below D)).mono ?_
    rintro e w4 ⟨rfl, b4⟩
    replace D := below_call D b4
    clear b4
    go_wp2_with fail
    with_reducible refine (HG2.out _ (hl.below D)).mono ?_
    rintro e w5 ⟨rfl, b5⟩
    replace D := below_call D b5
    clear b5
    go_wp2_with fail
    with_reducible refine (HACT.out _).mono ?_
    rintro e w6 ⟨rfl, b6⟩
    replace D := below_call D b6
    clear b6
    have ha := heap_alloc_new w6 (bxIt m1 m2 m3 m4 m5)
    replace D := below_alloc0 D (bxIt m1 m2 m3 m4 m5)
    have hb := heap_alloc_new (w6.alloc (bxIt m1 m2 m3 m4 m5)) (bxIt o1 o2 o3 o4 o5)
    replace ha := halloc ha (bxIt o1 o2 o3 o4 o5)
    replace D := below_alloc0 D (bxIt o1 o2 o3 o4 o5)
    rw [size_alloc] at hb
    go_wp2_with fail
    with_reducible refine (re_ (hasRo_calls n c A l u o _ (hl.below D)) (ret_bool HIS.out)).mono ?_
    rintro e w7 ⟨rfl, b7⟩
    replace ha := hcall ha b7
    replace hb := hcall hb b7
    replace D := below_call D b7
    clear b7
    go_wp2_with fail
    with_reducible refine (refOfLen8 n c A l u _ (hl.below D) (by omega) x1 HX1).mono ?_
    rintro e w8 ⟨⟨_, _, rfl⟩, b8⟩
    replace ha := hcall ha b8
    replace hb := hcall hb b8
    replace D := below_call D b8
    clear b8
    go_wp2
    go_ret2
    rw [HF.out.1, HF.out.2]
    exact ⟨_, rfl, hl.below D, D, .inl rfl⟩
  have g3 : decide ((16 : Int) ≤ (x1 : Int)) = false := decide_eq_false (by omega)
  have g4 : decide (16 ≤ x1) = false := decide_eq_false h16
  by_cases h17 : 16 ≤ x2
  · have g5 : decide ((16 : Int) ≤ (x2 : Int)) = true := decide_eq_true (by omega)
    have g6 : decide (16 ≤ x2) = true := decide_eq_true h17
    rw [g4, g6] at hr
    have HF : Hid (r = l ∧ er0 = 5) := by
      injection hr with h1 h2
      exact ⟨h1.symm, h2.symm⟩
    clear hr
    go_enter Tryz.func112, Tryz.ntmps112
    go_wp2_with fail
    with_reducible refine (HMC).mono ?_
    rintro e w1 ⟨rfl, b1⟩
    replace D := below_call D b1
    clear b1
    go_wp2_with fail
    with_reducible refine (refIsB_is _ u _ HNu hu).mono ?_
    rintro e w2 ⟨rfl, b2⟩
    replace D := below_call D b2
    clear b2
    go_wp2_with fail
    with_reducible refine (refIsB_is _ o _ HNo ho).mono ?_
    rintro e w3 ⟨rfl, b3⟩
    replace D := below_call D b3
    clear b3
    go_wp2_with fail
    with_reducible refine (HG1.out _ (hl.below D)).mono ?_
    rintro e w4 ⟨rfl, b4⟩
    replace D := below_call D b4
    clear b4
    go_wp2_with fail
    with_reducible refine (HG2.out _ (hl.below D)).mono ?_
    rintro e w5 ⟨rfl, b5⟩
    replace D := below_call D b5
    clear b5
    go_wp2_with fail
    with_reducible refine (HACT.out _).mono ?_
    rintro e w6 ⟨rfl, b6⟩
    replace D := below_call D b6
    clear b6
    have ha := heap_alloc_new w6 (bxIt m1 m2 m3 m4 m5)
    replace D := below_alloc0 D (bxIt m1 m2 m3 m4 m5)
    have hb := heap_alloc_new (w6.alloc (bxIt m1 m2 m3 m4 m5)) (bxIt o1 o2 o3 o4 o5)
    replace ha := halloc ha (bxIt o1 o2 o3 o4 o5)
    replace D := below_alloc0 D (bxIt o1 o2 o3 o4 o5)
    rw [size_alloc] at hb
    go_wp2_with fail
    with_reducible refine (re_ (hasRo_calls n c A l u o _ (hl.below D)) (ret_bool HIS.out)).mono ?_
    rintro e w7 ⟨rfl, b7⟩
    replace ha := hcall ha b7
    replace hb := hcall hb b7
    replace D := below_call D b7
    clear b7
    go_wp2_with fail
    with_reducible refine (refOfLen8 n c A l u _ (hl.below D) (by omega) x1 HX1).mono ?_
    rintro e w8 ⟨⟨_, _, rfl⟩, b8⟩
    replace ha := hcall ha b8
    replace hb := hcall hb b8
    replace D := below_call D b8
    clear b8
    go_wp2_with fail
    with_reducible refine (refOfLen8 n c A l o _ (hl.below D) (by omega) x2 HX2).mono ?_
    rintro e w9 ⟨⟨_, _, rfl⟩, b9⟩
    replace ha := hcall ha b9
    replace hb := hcall hb b9
    replace D := below_call D b9
    clear b9
    go_wp2
    go_ret2
    rw [HF.out.1, HF.out.2]
    exact ⟨_, rfl, hl.below D, D, .inl rfl⟩
  have g5 : decide ((16 : Int) ≤ (x2 : Int)) = false := decide_eq_false (by omega)
  have g6 : decide (16 ≤ x2) = false := decide_eq_false h17
  rw [g4, g6] at hr
  simp only [Bool.or_false, Bool.and_false] at hr
  go_enter Tryz.func112, Tryz.ntmps112
  go_wp2_with fail
  with_reducible refine (HMC).mono ?_
  rintro e w1 ⟨rfl, b1⟩
  replace D := below_call D b1
  clear b1
  go_wp2_with fail
  with_reducible refine (refIsB_is _ u _ HNu hu).mono ?_
  rintro e w2 ⟨rfl, b2⟩
  replace D := below_call D b2
  clear b2
  go_wp2_with fail
  with_reducible refine (refIsB_is _ o _ HNo ho).mono ?_
  rintro e w3 ⟨rfl, b3⟩
  replace D := below_call D b3
  clear b3
  go_wp2_with fail
  with_reducible refine (HG1.out _ (hl.below D)).mono ?_
  rintro e w4 ⟨rfl, b4⟩
  replace D := below_call D b4
  clear b4
  go_wp2_with fail
  with_reducible refine (HG2.out _ (hl.below D)).mono ?_
  rintro e w5 ⟨rfl, b5⟩
  replace D := below_call D b5
  clear b5
  go_wp2_with fail
  with_reducible refine (HACT.out _).mono ?_
  rintro e w6 ⟨rfl, b6⟩
  replace D := below_call D b6
  clear b6
  have ha := heap_alloc_new w6 (bxIt m1 m2 m3 m4 m5)
  replace D := below_alloc0 D (bxIt m1 m2 m3 m4 m5)
  have hb := heap_alloc_new (w6.alloc (bxIt m1 m2 m3 m4 m5)) (bxIt o1 o2 o3 o4 o5)
  replace ha := halloc ha (bxIt o1 o2 o3 o4 o5)
  replace D := below_alloc0 D (bxIt o1 o2 o3 o4 o5)
  rw [size_alloc] at hb
  go_wp2_with fail
  with_reducible refine (re_ (hasRo_calls n c A l u o _ (hl.below D)) (ret_bool HIS.out)).mono ?_
  rintro e w7 ⟨rfl, b7⟩
  replace ha := hcall ha b7
  replace hb := hcall hb b7
  replace D := below_call D b7
  clear b7
  go_wp2_with fail
  with_reducible refine (refOfLen8 n c A l u _ (hl.below D) (by omega) x1 HX1).mono ?_
  rintro e w8 ⟨⟨_, _, rfl⟩, b8⟩
  replace ha := hcall ha b8
  replace hb := hcall hb b8
  replace D := below_call D b8
  clear b8
  go_wp2_with fail
  with_reducible refine (refOfLen8 n c A l o _ (hl.below D) (by omega) x2 HX2).mono ?_
  rintro e w9 ⟨⟨_, _, rfl⟩, b9⟩
  replace ha := hcall ha b9
  replace hb := hcall hb b9
  replace D := below_call D b9
  clear b9
  cases h1 : emptyI ⟨m1, m2, m3, m4, m5⟩ with
  | false =>
    obtain ⟨⟨k0, k1, k2, k3, k4⟩, -, kz⟩ := iopen ha
    obtain ⟨⟨j0, j1, j2, j3, j4⟩, -, jz⟩ := iopen hb
    have HE1 := Lib.hid h1
    go_wp2_with fail
    with_reducible refine (re_ (refEmptyI_calls m1 m2 m3 m4 m5 _) (ret_bool HE1.out)).mono ?_
    rintro e w10 ⟨rfl, b10⟩
    replace ha := hcall ha b10
    replace hb := hcall hb b10
    replace D := below_call D b10
    clear b10 k0 k1 k2 k3 k4 kz j0 j1 j2 j3 j4 jz
    rw [if_neg (by simp)] at hr
    have hk : keep = true := by rw [← HK.out]; simp [h1]
    rw [hk] at hr
    injection hr with q1 q2
    obtain ⟨ra, hra⟩ : ∃ ra, setRo l ⟨u, o, ⟨m1, m2, m3, m4, m5⟩⟩ true = ra := ⟨_, rfl⟩
    have hrl : ra.length ≤ 1000 := by
      rw [← hra]
      have := setRo_len l ⟨u, o, ⟨m1, m2, m3, m4, m5⟩⟩ true
      have := EA.out
      omega
    obtain ⟨na, hna⟩ : ∃ m, ra.length = m := ⟨_, rfl⟩
    rw [hra] at q1
    have HA := Lib.hid hra
    have HB := Lib.hid q1
    have HN := Lib.hid hna
    have HE := Lib.hid q2
    have hnl : na ≤ 100000 := by omega
    clear hra hna hk q1 q2 h1 hrl
    obtain ⟨⟨k0, k1, k2, k3, k4⟩, -, kz⟩ := iopen ha
    obtain ⟨⟨j0, j1, j2, j3, j4⟩, -, jz⟩ := iopen hb
    go_wp2_with fail
    with_reducible refine (refSet8_is n c A l u o m1 m2 m3 m4 m5 true ra _ (hl.below D) (by omega) HA).mono ?_
    rintro e w11 ⟨v1, rfl, rr, _, b11⟩
    replace ha := hcall ha b11
    replace hb := hcall hb b11
    replace D := below_call D b11
    clear b11 k0 k1 k2 k3 k4 kz j0 j1 j2 j3 j4 jz
    obtain ⟨Aa, ca, rfl⟩ := Row.form8 rr na HN.out
    obtain ⟨⟨k0, k1, k2, k3, k4⟩, -, kz⟩ := iopen ha
    obtain ⟨⟨j0, j1, j2, j3, j4⟩, -, jz⟩ := iopen hb
    go_wp2_with fail
    with_reducible refine (refSet8_is na ca Aa ra o u o1 o2 o3 o4 o5 true r _ rr hnl HB).mono ?_
    have hfz := D.size
    rintro e w12 ⟨v2, rfl, rf, hff, b12⟩
    replace ha := hcall ha b12
    replace hb := hcall hb b12
    replace rr := rr.below b12
    replace D := below_call D b12
    clear b12 k0 k1 k2 k3 k4 kz j0 j1 j2 j3 j4 jz
    go_wp2
    go_ret2
    rw [← HE.out]
    exact ⟨_, rfl, rf, D, .inr fun g hg => Nat.le_trans hfz (hff g hg)⟩
  | true =>
    cases h2 : emptyI ⟨o1, o2, o3, o4, o5⟩ with
    | false =>
      obtain ⟨⟨k0, k1, k2, k3, k4⟩, -, kz⟩ := iopen ha
      obtain ⟨⟨j0, j1, j2, j3, j4⟩, -, jz⟩ := iopen hb
      have HE1 := Lib.hid h1
      go_wp2_with fail
      with_reducible refine (re_ (refEmptyI_calls m1 m2 m3 m4 m5 _) (ret_bool HE1.out)).mono ?_
      rintro e w10 ⟨rfl, b10⟩
      replace ha := hcall ha b10
      replace hb := hcall hb b10
      replace D := below_call D b10
      clear b10 k0 k1 k2 k3 k4 kz j0 j1 j2 j3 j4 jz
      obtain ⟨⟨k0, k1, k2, k3, k4⟩, -, kz⟩ := iopen ha
      obtain ⟨⟨j0, j1, j2, j3, j4⟩, -, jz⟩ := iopen hb
      have HE2 := Lib.hid h2
      go_wp2_with fail
      with_reducible refine (re_ (refEmptyI_calls o1 o2 o3 o4 o5 _) (ret_bool HE2.out)).mono ?_
      rintro e w11 ⟨rfl, b11⟩
      replace ha := hcall ha b11
      replace hb := hcall hb b11
      replace D := below_call D b11
      clear b11 k0 k1 k2 k3 k4 kz j0 j1 j2 j3 j4 jz
      rw [if_neg (by simp)] at hr
      have hk : keep = true := by rw [← HK.out]; simp [h1, h2]
      rw [hk] at hr
      injection hr with q1 q2
      obtain ⟨ra, hra⟩ : ∃ ra, setRo l ⟨u, o, ⟨m1, m2, m3, m4, m5⟩⟩ true = ra := ⟨_, rfl⟩
      have hrl : ra.length ≤ 1000 := by
        rw [← hra]
        have := setRo_len l ⟨u, o, ⟨m1, m2, m3, m4, m5⟩⟩ true
        have := EA.out
        omega
      obtain ⟨na, hna⟩ : ∃ m, ra.length = m := ⟨_, rfl⟩
      rw [hra] at q1
      have HA := Lib.hid hra
      have HB := Lib.hid q1
      have HN := Lib.hid hna
      have HE := Lib.hid q2
      have hnl : na ≤ 100000 := by omega
      clear hra hna hk q1 q2 h1 hrl
      obtain ⟨⟨k0, k1, k2, k3, k4⟩, -, kz⟩ := iopen ha
      obtain ⟨⟨j0, j1, j2, j3, j4⟩, -, jz⟩ := iopen hb
      go_wp2_with fail
      with_reducible refine (refSet8_is n c A l u o m1 m2 m3 m4 m5 true ra _ (hl.below D) (by omega) HA).mono ?_
      rintro e w12 ⟨v1, rfl, rr, _, b12⟩
      replace ha := hcall ha b12
      replace hb := hcall hb b12
      replace D := below_call D b12
      clear b12 k0 k1 k2 k3 k4 kz j0 j1 j2 j3 j4 jz
      obtain ⟨Aa, ca, rfl⟩ := Row.form8 rr na HN.out
      obtain ⟨⟨k0, k1, k2, k3, k4⟩, -, kz⟩ := iopen ha
      obtain ⟨⟨j0, j1, j2, j3, j4⟩, -, jz⟩ := iopen hb
      go_wp2_with fail
      with_reducible refine (refSet8_is na ca Aa ra o u o1 o2 o3 o4 o5 true r _ rr hnl HB).mono ?_
      have hfz := D.size
      rintro e w13 ⟨v2, rfl, rf, hff, b13⟩
      replace ha := hcall ha b13
      replace hb := hcall hb b13
      replace rr := rr.below b13
      replace D := below_call D b13
      clear b13 k0 k1 k2 k3 k4 kz j0 j1 j2 j3 j4 jz
      go_wp2
      go_ret2
      rw [← HE.out]
      exact ⟨_, rfl, rf, D, .inr fun g hg => Nat.le_trans hfz (hff g hg)⟩
    | true =>
      obtain ⟨⟨k0, k1, k2, k3, k4⟩, -, kz⟩ := iopen ha
      obtain ⟨⟨j0, j1, j2, j3, j4⟩, -, jz⟩ := iopen hb
      have HE1 := Lib.hid h1
      go_wp2_with fail
      with_reducible refine (re_ (refEmptyI_calls m1 m2 m3 m4 m5 _) (ret_bool HE1.out)).mono ?_
      rintro e w10 ⟨rfl, b10⟩
      replace ha := hcall ha b10
      replace hb := hcall hb b10
      replace D := below_call D b10
      clear b10 k0 k1 k2 k3 k4 kz j0 j1 j2 j3 j4 jz
      obtain ⟨⟨k0, k1, k2, k3, k4⟩, -, kz⟩ := iopen ha
      obtain ⟨⟨j0, j1, j2, j3, j4⟩, -, jz⟩ := iopen hb
      have HE2 := Lib.hid h2
      go_wp2_with fail
      with_reducible refine (re_ (refEmptyI_calls o1 o2 o3 o4 o5 _) (ret_bool HE2.out)).mono ?_
      rintro e w11 ⟨rfl, b11⟩
      replace ha := hcall ha b11
      replace hb := hcall hb b11
      replace D := below_call D b11
      clear b11 k0 k1 k2 k3 k4 kz j0 j1 j2 j3 j4 jz
      rw [if_neg (by simp)] at hr
      have hk : keep = false := by rw [← HK.out]; simp [h1, h2]
      rw [hk] at hr
      injection hr with q1 q2
      obtain ⟨ra, hra⟩ : ∃ ra, setRo l ⟨u, o, ⟨m1, m2, m3, m4, m5⟩⟩ false = ra := ⟨_, rfl⟩
      have hrl : ra.length ≤ 1000 := by
        rw [← hra]
        have := setRo_len l ⟨u, o, ⟨m1, m2, m3, m4, m5⟩⟩ false
        have := EA.out
        omega
      obtain ⟨na, hna⟩ : ∃ m, ra.length = m := ⟨_, rfl⟩
      rw [hra] at q1
      have HA := Lib.hid hra
      have HB := Lib.hid q1
      have HN := Lib.hid hna
      have HE := Lib.hid q2
      have hnl : na ≤ 100000 := by omega
      clear hra hna hk q1 q2 h1 hrl
      obtain ⟨⟨k0, k1, k2, k3, k4⟩, -, kz⟩ := iopen ha
      obtain ⟨⟨j0, j1, j2, j3, j4⟩, -, jz⟩ := iopen hb
      go_wp2_with fail
      with_reducible refine (refSet8_is n c A l u o m1 m2 m3 m4 m5 false ra _ (hl.below D) (by omega) HA).mono ?_
      rintro e w12 ⟨v1, rfl, rr, _, b12⟩
      replace ha := hcall ha b12
      replace hb := hcall hb b12
      replace D := below_call D b12
      clear b12 k0 k1 k2 k3 k4 kz j0 j1 j2 j3 j4 jz
      obtain ⟨Aa, ca, rfl⟩ := Row.form8 rr na HN.out
      obtain ⟨⟨k0, k1, k2, k3, k4⟩, -, kz⟩ := iopen ha
      obtain ⟨⟨j0, j1, j2, j3, j4⟩, -, jz⟩ := iopen hb
      go_wp2_with fail
      with_reducible refine (refSet8_is na ca Aa ra o u o1 o2 o3 o4 o5 false r _ rr hnl HB).mono ?_
      have hfz := D.size
      rintro e w13 ⟨v2, rfl, rf, hff, b13⟩
      replace ha := hcall ha b13
      replace hb := hcall hb b13
      replace rr := rr.below b13
      replace D := below_call D b13
      clear b13 k0 k1 k2 k3 k4 kz j0 j1 j2 j3 j4 jz
      go_wp2
      go_ret2
      rw [← HE.out]
      exact ⟨_, rfl, rf, D, .inr fun g hg => Nat.le_trans hfz (hff g hg)⟩
theorem refDo8F_is (n c : Nat) (A : Option Addr) (l : List En) (w : World) (hl : Row enEn 7 w (.slice A n c) l) (k : Int) (u o : ByteArray) (r : List En) (er : Int) (hz : SzRo l) (hn : n ≤ 900) (hu : u.size ≤ 140737488351232) (ho : o.size ≤ 140737488351232) (h : Hid (doRo l k u o = (r, er))) :
    Calls Tryz.prog 112 #[.slice A n c, .int .i64 k, .string u, .string o] w fun e w' => ∃ v, e = .returned (.tuple #[v, .int .i64 er]) ∧ Row enEn 7 w' v r ∧ Below w.heap.size w w' ∧ (v = .slice A n c ∨ ∀ g, v.ownBlock = some g → w.heap.size ≤ g) := by
  have := refDoRo_calls n c A l k u o w hl hz hn hu ho
  rwa [h.out] at this
end Go.Proofs.YtbpfcjdjhponaaaGreat
