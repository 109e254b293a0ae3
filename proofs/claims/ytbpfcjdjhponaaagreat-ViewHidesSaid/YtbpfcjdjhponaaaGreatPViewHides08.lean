import Derived.Test.YtbpfcjdjhponaaaGreatPViewHides07
set_option linter.unusedVariables false
set_option linter.unusedSimpArgs false
namespace Go.Proofs.YtbpfcjdjhponaaaGreat
open Go.RowKit
open Sp
namespace Sp
theorem insRo_len (l : List En) (x : En) : (insRo l x).length = l.length + 1 := by
  unfold insRo
  cases h : aheadRo l x with
  | some i =>
    unfold aheadRo at h
    rw [List.findIdx?_eq_some_iff_getElem] at h
    obtain ⟨h1, _⟩ := h
    simp only [List.length_append, List.length_cons, List.length_take, List.length_drop]
    omega
  | none => simp
theorem putP_len (l : List En) (x : En) : (putP l x).length ≤ l.length + 1 := by
  unfold putP
  cases h : l.findIdx? (fun s => decide (keyRo s = (x.o, x.c))) with
  | some i => simp
  | none => simp only; rw [insRo_len]; exact Nat.le_refl _
end Sp
namespace Sp
def stgRo (l : List En) (x y : En) : Nat → List En
  | 0 => l
  | 1 => putP l x
  | _ => putP (putP l x) y
theorem stgRo_len (l : List En) (x y : En) (i : Nat) : (stgRo l x y i).length ≤ l.length + 2 := by
  have h1 := putP_len l x
  have h2 := putP_len (putP l x) y
  unfold stgRo
  split <;> omega
end Sp
theorem place_has (l : List En) (u v : ByteArray) : decide (0 ≤ idxI (placeRo l u v)) = hasRo l u v := by
  cases h : placeRo l u v with
  | some i =>
    obtain ⟨hi, hk, hb⟩ := place_some h
    rw [(getRo_at l u v i hi hb hk).2]
    unfold idxI
    simp
  | none => rw [(getRo_no l u v (place_none h)).2]; rfl
theorem twoDel (l : List En) (u v : ByteArray) (x y : En) (hx : keyRo x = (u, v)) (hy : keyRo y = (v, u)) : l.filter (noTwo u v) = setRo (setRo l x false) y false := by
  rw [setRo_del, setRo_del, hx, hy]
  unfold delK
  rw [List.filter_filter]
  congr 1
  funext s
  unfold noTwo isTwo
  cases decide (keyRo s = (u, v)) <;> cases decide (keyRo s = (v, u)) <;> rfl
theorem twoPut {l : List En} (h : OrdRo l) (x y : En) : putP (putP l x) y = setRo (setRo l x true) y true := by
  rw [putP_put h, putP_put (putK_ord ltRo_ord h x), setRo_put h, setRo_put (putK_ord ltRo_ord h x)]
theorem OfLen (n c : Nat) (A : Option Addr) (l : List En) (q : ByteArray) (w : World) (hl : Row enEn 7 w (.slice A n c) l) (hn : n ≤ 100000) (m : Nat) (h : Hid ((ofRo l q).length = m)) :
    Calls Tryz.prog 98 #[.slice A n c, .string q] w fun e w' => (∃ A' c', e = .returned (.slice A' m c')) ∧ Below w.heap.size w w' :=
  (OfRo_calls n c A l q w hl hn).mono fun e w' ⟨v, he, ho, hb⟩ => by
    obtain ⟨A', c', hv, _⟩ := ho.slice
    refine ⟨⟨A', c', ?_⟩, hb⟩
    rw [he, hv, ← h.out]
    rfl
set_option maxHeartbeats 32000000 in
set_option maxRecDepth 100000 in
theorem DoRo_calls (n c : Nat) (A : Option Addr) (l : List En) (k : Int) (u o : ByteArray) (w : World) (hl : Row enEn 7 w (.slice A n c) l) (hz : SzRo l) (hn : n ≤ 900) (hu : u.size ≤ 140737488351232) (ho : o.size ≤ 140737488351232) :
    Calls Tryz.prog 56 #[.slice A n c, .int .i64 k, .string u, .string o] w fun e w' => ∃ vl, e = .returned (.tuple #[vl, .int .i64 (doRo l k u o).2]) ∧ Row enEn 7 w' vl (doRo l k u o).1 ∧ Below w.heap.size w w' ∧ (vl = .slice A n c ∨ ∀ g, vl.ownBlock = some g → w.heap.size ≤ g) := by
  have EA := Lib.hid hl.len_eq
  have D := Below.refl w.heap.size w
  obtain ⟨r, er0, hr⟩ : ∃ r e, doRo l k u o = (r, e) := ⟨_, _, rfl⟩
  rw [hr]
  unfold doRo at hr
  have HR := Lib.hid hr
  clear hr
  obtain ⟨m, hm⟩ : ∃ m, mayRo l = m := ⟨_, rfl⟩
  have HM := Lib.hid hm
  have HMC := re_ (MayRo_calls n c A l w hl hz (by omega)) (ret_bool HM.out)
  clear hm
  cases m with
  | false =>
    have HF : Hid (r = l ∧ er0 = 1) := by
      have := HR.out
      rw [if_pos (by unfold okDo; rw [HM.out]; rfl)] at this
      injection this with h1 h2
      exact ⟨h1.symm, h2.symm⟩
    go_enter Tryz.func56, Tryz.ntmps56
    go_wp2_with fail
    with_reducible refine (HMC).mono ?_
    rintro e w1 ⟨rfl, b1⟩
    replace D := below_call D b1
    clear b1
    go_wp2
    go_ret2
    rw [HF.out.1, HF.out.2]
    exact ⟨_, rfl, hl.below D, D, .inl rfl⟩
  | true =>
  obtain ⟨b, hb⟩ : ∃ b, isName u = b := ⟨_, rfl⟩
  have HNu := Lib.hid hb
  clear hb
  cases b with
  | false =>
    have HF : Hid (r = l ∧ er0 = 1) := by
      have := HR.out
      rw [if_pos (by unfold okDo; rw [HM.out, HNu.out]; rfl)] at this
      injection this with h1 h2
      exact ⟨h1.symm, h2.symm⟩
    go_enter Tryz.func56, Tryz.ntmps56
    go_wp2_with fail
    with_reducible refine (HMC).mono ?_
    rintro e w1 ⟨rfl, b1⟩
    replace D := below_call D b1
    clear b1
    go_wp2_with fail
    with_reducible refine (Is_is _ u _ HNu hu).mono ?_
    rintro e w2 ⟨rfl, b2⟩
    replace D := below_call D b2
    clear b2
    go_wp2
    go_ret2
    rw [HF.out.1, HF.out.2]
    exact ⟨_, rfl, hl.below D, D, .inl rfl⟩
  | true =>
  obtain ⟨b, hb⟩ : ∃ b, isName o = b := ⟨_, rfl⟩
  have HNo := Lib.hid hb
  clear hb
  cases b with
  | false =>
    have HF : Hid (r = l ∧ er0 = 1) := by
      have := HR.out
      rw [if_pos (by unfold okDo; rw [HM.out, HNu.out, HNo.out]; rfl)] at this
      injection this with h1 h2
      exact ⟨h1.symm, h2.symm⟩
    go_enter Tryz.func56, Tryz.ntmps56
    go_wp2_with fail
    with_reducible refine (HMC).mono ?_
    rintro e w1 ⟨rfl, b1⟩
    replace D := below_call D b1
    clear b1
    go_wp2_with fail
    with_reducible refine (Is_is _ u _ HNu hu).mono ?_
    rintro e w2 ⟨rfl, b2⟩
    replace D := below_call D b2
    clear b2
    go_wp2_with fail
    with_reducible refine (Is_is _ o _ HNo ho).mono ?_
    rintro e w3 ⟨rfl, b3⟩
    replace D := below_call D b3
    clear b3
    go_wp2
    go_ret2
    rw [HF.out.1, HF.out.2]
    exact ⟨_, rfl, hl.below D, D, .inl rfl⟩
  | true =>
  by_cases huo : u = o
  · have e1 : (u.toList == o.toList) = true := by rw [huo]; exact beq_self_eq_true _
    have HF : Hid (r = l ∧ er0 = 1) := by
      have := HR.out
      rw [if_pos (by unfold okDo; rw [HM.out, HNu.out, HNo.out, decide_eq_true huo]; rfl)] at this
      injection this with h1 h2
      exact ⟨h1.symm, h2.symm⟩
    clear huo
    go_enter Tryz.func56, Tryz.ntmps56
    go_wp2_with fail
    with_reducible refine (HMC).mono ?_
    rintro e w1 ⟨rfl, b1⟩
    replace D := below_call D b1
    clear b1
    go_wp2_with fail
    with_reducible refine (Is_is _ u _ HNu hu).mono ?_
    rintro e w2 ⟨rfl, b2⟩
    replace D := below_call D b2
    clear b2
    go_wp2_with fail
    with_reducible refine (Is_is _ o _ HNo ho).mono ?_
    rintro e w3 ⟨rfl, b3⟩
    replace D := below_call D b3
    clear b3
    go_wp2
    go_ret2
    rw [HF.out.1, HF.out.2]
    exact ⟨_, rfl, hl.below D, D, .inl rfl⟩
  have e1 : (u.toList == o.toList) = false := by simpa [toList_inj'] using huo
  by_cases hk1 : k < 1
  · have g1 : decide (k < 1) = true := decide_eq_true hk1
    have HF : Hid (r = l ∧ er0 = 1) := by
      have := HR.out
      rw [if_pos (by unfold okDo; rw [HM.out, HNu.out, HNo.out, decide_eq_false huo, decide_eq_false (by omega : ¬ 1 ≤ k)]; rfl)] at this
      injection this with h1 h2
      exact ⟨h1.symm, h2.symm⟩
    clear huo
    go_enter Tryz.func56, Tryz.ntmps56
    go_wp2_with fail
    with_reducible refine (HMC).mono ?_
    rintro e w1 ⟨rfl, b1⟩
    replace D := below_call D b1
    clear b1
    go_wp2_with fail
    with_reducible refine (Is_is _ u _ HNu hu).mono ?_
    rintro e w2 ⟨rfl, b2⟩
    replace D := below_call D b2
    clear b2
    go_wp2_with fail
    with_reducible refine (Is_is _ o _ HNo ho).mono ?_
    rintro e w3 ⟨rfl, b3⟩
    replace D := below_call D b3
    clear b3
    go_wp2
    go_ret2
    rw [HF.out.1, HF.out.2]
    exact ⟨_, rfl, hl.below D, D, .inl rfl⟩
  have g1 : decide (k < 1) = false := decide_eq_false hk1
  by_cases hk6 : 6 < k
  · have g2 : decide (6 < k) = true := decide_eq_true hk6
    have HF : Hid (r = l ∧ er0 = 1) := by
      have := HR.out
      rw [if_pos (by unfold okDo; rw [HM.out, HNu.out, HNo.out, decide_eq_false huo, decide_eq_true (by omega : 1 ≤ k), decide_eq_false (by omega : ¬ k ≤ 6)]; rfl)] at this
      injection this with h1 h2
      exact ⟨h1.symm, h2.symm⟩
    clear huo
    go_enter Tryz.func56, Tryz.ntmps56
    go_wp2_with fail
    with_reducible refine (HMC).mono ?_
    rintro e w1 ⟨rfl, b1⟩
    replace D := below_call D b1
    clear b1
    go_wp2_with fail
    with_reducible refine (Is_is _ u _ HNu hu).mono ?_
    rintro e w2 ⟨rfl, b2⟩
    replace D := below_call D b2
    clear b2
    go_wp2_with fail
    with_reducible refine (Is_is _ o _ HNo ho).mono ?_
    rintro e w3 ⟨rfl, b3⟩
    replace D := below_call D b3
    clear b3
    go_wp2
    go_ret2
    rw [HF.out.1, HF.out.2]
    exact ⟨_, rfl, hl.below D, D, .inl rfl⟩
  have g2 : decide (6 < k) = false := decide_eq_false hk6
  have hok : ¬ okDo l k u o = false := by
    unfold okDo
    rw [HM.out, HNu.out, HNo.out, decide_eq_false huo, decide_eq_true (by omega : 1 ≤ k), decide_eq_true (by omega : k ≤ 6)]
    decide
  obtain ⟨⟨c1, c2, c3, c4, c5⟩, hg1⟩ : ∃ x, getRo l u o = x := ⟨_, rfl⟩
  obtain ⟨⟨d1, d2, d3, d4, d5⟩, hg2⟩ : ∃ x, getRo l o u = x := ⟨_, rfl⟩
  obtain ⟨⟨m1, m2, m3, m4, m5⟩, ⟨o1, o2, o3, o4, o5⟩, er, hact⟩ : ∃ x y z, actI (getRo l u o) (getRo l o u) k = (x, y, z) := ⟨_, _, _, rfl⟩
  have hr := HR.out
  rw [if_neg hok, hact] at hr
  simp only at hr
  rw [hg1, hg2] at hact
  have HG1 := Lib.hid (show ∀ W : World, Row enEn 7 W (.slice A n c) l → Calls Tryz.prog 78 #[.slice A n c, .string u, .string o] W fun e w' => e = .returned (agI c1 c2 c3 c4 c5) ∧ Below W.heap.size W w' from fun W h => by
    have := GetRo_calls n c A l u o W h
    rwa [hg1] at this)
  have HG2 := Lib.hid (show ∀ W : World, Row enEn 7 W (.slice A n c) l → Calls Tryz.prog 78 #[.slice A n c, .string o, .string u] W fun e w' => e = .returned (agI d1 d2 d3 d4 d5) ∧ Below W.heap.size W w' from fun W h => by
    have := GetRo_calls n c A l o u W h
    rwa [hg2] at this)
  have HACT := Lib.hid (show ∀ W : World, Calls Tryz.prog 96 #[agI c1 c2 c3 c4 c5, agI d1 d2 d3 d4 d5, .int .i64 k] W fun e w' => e = .returned (.tuple #[agI m1 m2 m3 m4 m5, agI o1 o2 o3 o4 o5, .int .i64 er]) ∧ Below W.heap.size W w' from fun W => by
    have := ActI_calls c1 c2 c3 c4 c5 d1 d2 d3 d4 d5 k (by omega) (by omega) W
    rwa [hact] at this)
  have HOR := Lib.hid (mayRo_ord HM.out)
  clear huo hok hg1 hg2 hact
  by_cases her : er = 0
  case neg =>
    have HF : Hid (r = l ∧ er0 = er) := by
      rw [if_pos her] at hr
      injection hr with h1 h2
      exact ⟨h1.symm, h2.symm⟩
    have he2 : (er == 0) = false := by simpa using her
    clear hr her
    go_enter Tryz.func56, Tryz.ntmps56
    go_wp2_with fail
    with_reducible refine (HMC).mono ?_
    rintro e w1 ⟨rfl, b1⟩
    replace D := below_call D b1
    clear b1
    go_wp2_with fail
    with_reducible refine (Is_is _ u _ HNu hu).mono ?_
    rintro e w2 ⟨rfl, b2⟩
    replace D := below_call D b2
    clear b2
    go_wp2_with fail
    with_reducible refine (Is_is _ o _ HNo ho).mono ?_
    rintro e w3 ⟨rfl, b3⟩
    replace D := below_call D b3
    clear b3
    go_wp2_with fail
    with_reducible refine (HG1.out _ (hl.below D)).mono ?_
    rintro e w4 ⟨rfl, b4⟩
    replace D := below_call D b4
    clear b4
    go_wp2_with fail
    with_reducible refine (HG2.out _ (hl.below D)).mono ?_
    rintro e w5 ⟨rfl, b5⟩
    replace D := below_call D b5
    clear b5
    go_wp2_with fail
    with_reducible refine (HACT.out _).mono ?_
    rintro e w6 ⟨rfl, b6⟩
    replace D := below_call D b6
    clear b6
    replace D := below_alloc0 D (bxIt m1 m2 m3 m4 m5)
    replace D := below_alloc0 D (bxIt o1 o2 o3 o4 o5)
    go_wp2
    go_ret2
    rw [HF.out.1, HF.out.2]
    exact ⟨_, rfl, hl.below D, D, .inl rfl⟩
  subst her
  rw [if_neg (by decide)] at hr
  obtain ⟨is, his⟩ : ∃ b, hasRo l u o = b := ⟨_, rfl⟩
  obtain ⟨x1, hx1⟩ : ∃ m, (ofRo l u).length = m := ⟨_, rfl⟩
  obtain ⟨x2, hx2⟩ : ∃ m, (ofRo l o).length = m := ⟨_, rfl⟩
  obtain ⟨iv, hiv⟩ : ∃ i, maxI (idxI (placeRo l u o)) = i := ⟨_, rfl⟩
  have HFD := Lib.hid (show ∀ (W : World), Row enEn 7 W (.slice A n c) l → Calls Tryz.prog 97 #[.slice A n c, agKr u o] W fun e w' => e = .returned (.tuple #[.int .i64 iv, .bool is]) ∧ Below W.heap.size W w' from fun W h => by
    have := findRo_calls n c A l u o W h
    rwa [hiv, place_has, his] at this)
  have hfull : fullRo l u o = (!is && (decide (16 ≤ x1) || decide (16 ≤ x2))) := by unfold fullRo; rw [his, hx1, hx2]
  rw [hfull] at hr
  have HX1 := Lib.hid hx1
  have HX2 := Lib.hid hx2
  clear his hx1 hx2 hiv hfull
  obtain ⟨keep, hkeep⟩ : ∃ b, (!(emptyI ⟨m1, m2, m3, m4, m5⟩ && emptyI ⟨o1, o2, o3, o4, o5⟩)) = b := ⟨_, rfl⟩
  rw [hkeep] at hr
  have HK := Lib.hid hkeep
  clear hkeep
  cases is with
  | true =>
    simp only [Bool.not_true, Bool.false_and] at hr
    go_enter Tryz.func56, Tryz.ntmps56
    go_wp2_with fail
    with_reducible refine (HMC).mono ?_
    rintro e w1 ⟨rfl, b1⟩
    replace D := below_call D b1
    clear b1
    go_wp2_with fail
    with_reducible refine (Is_is _ u _ HNu hu).mono ?_
    rintro e w2 ⟨rfl, b2⟩
    replace D := below_call D b2
    clear b2
    go_wp2_with fail
    with_reducible refine (Is_is _ o _ HNo ho).mono ?_
    rintro e w3 ⟨rfl, b3⟩
    replace D := below_call D b3
    clear b3
    go_wp2_with fail
    with_reducible refine (HG1.out _ (hl.below D)).mono ?_
    rintro e w4 ⟨rfl, b4⟩
    replace D := below_call D b4
    clear b4
    go_wp2_with fail
    with_reducible refine (HG2.out _ (hl.below D)).mono ?_
    rintro e w5 ⟨rfl, b5⟩
    replace D := below_call D b5
    clear b5
    go_wp2_with fail
    with_reducible refine (HACT.out _).mono ?_
    rintro e w6 ⟨rfl, b6⟩
    replace D := below_call D b6
    clear b6
    have ha := heap_alloc_new w6 (bxIt m1 m2 m3 m4 m5)
    replace D := below_alloc0 D (bxIt m1 m2 m3 m4 m5)
    have hb := heap_alloc_new (w6.alloc (bxIt m1 m2 m3 m4 m5)) (bxIt o1 o2 o3 o4 o5)
    replace ha := halloc ha (bxIt o1 o2 o3 o4 o5)
    replace D := below_alloc0 D (bxIt o1 o2 o3 o4 o5)
    rw [size_alloc] at hb
    go_wp2_with fail
    with_reducible refine (HFD.out _ (hl.below D)).mono ?_
    rintro e w7 ⟨rfl, b7⟩
    replace ha := hcall ha b7
    replace hb := hcall hb b7
    replace D := below_call D b7
    clear b7
    obtain ⟨⟨k0, k1, k2, k3, k4⟩, -, kz⟩ := iopen ha
    obtain ⟨⟨j0, j1, j2, j3, j4⟩, -, jz⟩ := iopen hb
    have hh := heap_alloc_new w7 (.cells #[.string u, .string o, .bool m1, .bool m2, .bool m3, .bool m4, .bool m5, .string o, .string u, .bool o1, .bool o2, .bool o3, .bool o4, .bool o5] 105)
    replace ha := halloc ha (.cells #[.string u, .string o, .bool m1, .bool m2, .bool m3, .bool m4, .bool m5, .string o, .string u, .bool o1, .bool o2, .bool o3, .bool o4, .bool o5] 105)
    replace hb := halloc hb (.cells #[.string u, .string o, .bool m1, .bool m2, .bool m3, .bool m4, .bool m5, .string o, .string u, .bool o1, .bool o2, .bool o3, .bool o4, .bool o5] 105)
    replace D := below_alloc0 D (.cells #[.string u, .string o, .bool m1, .bool m2, .bool m3, .bool m4, .bool m5, .string o, .string u, .bool o1, .bool o2, .bool o3, .bool o4, .bool o5] 105)
    have hg := heap_alloc_new (w7.alloc (.cells #[.string u, .string o, .bool m1, .bool m2, .bool m3, .bool m4, .bool m5, .string o, .string u, .bool o1, .bool o2, .bool o3, .bool o4, .bool o5] 105)) (.cells #[.slice (some ⟨w7.heap.size, 0, none⟩) 2 2] 22)
    replace ha := halloc ha (.cells #[.slice (some ⟨w7.heap.size, 0, none⟩) 2 2] 22)
    replace hb := halloc hb (.cells #[.slice (some ⟨w7.heap.size, 0, none⟩) 2 2] 22)
    replace hh := halloc hh (.cells #[.slice (some ⟨w7.heap.size, 0, none⟩) 2 2] 22)
    replace D := below_alloc0 D (.cells #[.slice (some ⟨w7.heap.size, 0, none⟩) 2 2] 22)
    rw [size_alloc] at hg
    have HBS : Hid (((w7.alloc (.cells #[.string u, .string o, .bool m1, .bool m2, .bool m3, .bool m4, .bool m5, .string o, .string u, .bool o1, .bool o2, .bool o3, .bool o4, .bool o5] 105)).alloc (.cells #[.slice (some ⟨w7.heap.size, 0, none⟩) 2 2] 22)).heap.size = w7.heap.size + 1 + 1) := by show _ = _; rw [size_alloc, size_alloc]
    have D2 := D
    have HH0 := Lib.hid hh
    have HG0 := Lib.hid hg
    go_wp2_with fail
    with_reducible refine (cloneEn_calls n c A l _ (hl.below D) (by omega)).mono ?_
    rintro e w8 ⟨v8, rfl, hO, b8⟩
    have hC := b8
    replace ha := hcall ha b8
    replace hb := hcall hb b8
    replace hh := hcall hh b8
    replace hg := hcall hg b8
    replace D := below_call D b8
    clear b8 k0 k1 k2 k3 k4 kz j0 j1 j2 j3 j4 jz
    obtain ⟨Ao, co, rfl, _⟩ := hO.slice
    cases h1 : emptyI ⟨m1, m2, m3, m4, m5⟩ with
    | false =>
      obtain ⟨⟨k0, k1, k2, k3, k4⟩, -, kz⟩ := iopen ha
      obtain ⟨⟨j0, j1, j2, j3, j4⟩, -, jz⟩ := iopen hb
      have HE1 := Lib.hid h1
      go_wp2_with fail
      with_reducible refine (re_ (EmptyI_calls m1 m2 m3 m4 m5 _) (ret_bool HE1.out)).mono ?_
      rintro e w9 ⟨rfl, b9⟩
      replace ha := hcall ha b9
      replace hb := hcall hb b9
      replace hh := hcall hh b9
      replace hg := hcall hg b9
      replace hO := hO.below b9
      replace hC := below_call hC b9
      replace D := below_call D b9
      clear b9 k0 k1 k2 k3 k4 kz j0 j1 j2 j3 j4 jz
      have HF : Hid (r = stgRo l ⟨u, o, m1, m2, m3, m4, m5⟩ ⟨o, u, o1, o2, o3, o4, o5⟩ 2 ∧ er0 = 0) := by
        rw [if_neg (by simp)] at hr
        have hk : keep = true := by rw [← HK.out]; simp [h1]
        rw [hk] at hr
        injection hr with q1 q2
        exact ⟨by rw [← q1]; exact (twoPut HOR.out _ _).symm, q2.symm⟩
      have gz : w9.cell? ⟨w7.heap.size + 1, 0, none⟩ = some (.slice (some ⟨w7.heap.size, 0, none⟩) 2 2) := by simp [World.cell?, hg]
      clear hr ha hb hg hh
      go_wp2
      go_loopw [16, 111] (fun v16 v111 wr => ∃ (i : Nat) (xs : List En), v111 = .int .i64 i ∧ i ≤ 2 ∧ Hid (xs = stgRo l ⟨u, o, m1, m2, m3, m4, m5⟩ ⟨o, u, o1, o2, o3, o4, o5⟩ i) ∧ Own enEn 7 105 wr ((w7.alloc (.cells #[.string u, .string o, .bool m1, .bool m2, .bool m3, .bool m4, .bool m5, .string o, .string u, .bool o1, .bool o2, .bool o3, .bool o4, .bool o5] 105)).alloc (.cells #[.slice (some ⟨w7.heap.size, 0, none⟩) 2 2] 22)).heap.size v16 xs ∧ Below ((w7.alloc (.cells #[.string u, .string o, .bool m1, .bool m2, .bool m3, .bool m4, .bool m5, .string o, .string u, .bool o1, .bool o2, .bool o3, .bool o4, .bool o5] 105)).alloc (.cells #[.slice (some ⟨w7.heap.size, 0, none⟩) 2 2] 22)).heap.size ((w7.alloc (.cells #[.string u, .string o, .bool m1, .bool m2, .bool m3, .bool m4, .bool m5, .string o, .string u, .bool o1, .bool o2, .bool o3, .bool o4, .bool o5] 105)).alloc (.cells #[.slice (some ⟨w7.heap.size, 0, none⟩) 2 2] 22)) wr) (fun _ v111 _ => (2 - intOf v111).toNat)
      case atStart => exact ⟨0, l, rfl, by omega, rfl, hO, hC⟩
      case round =>
        clear gz hO hC
        obtain ⟨i, xs, rfl, hi, HX, hO, hC⟩ := hrel
        have hxl : xs.length ≤ 1000 := by rw [HX.out]; have := stgRo_len l ⟨u, o, m1, m2, m3, m4, m5⟩ ⟨o, u, o1, o2, o3, o4, o5⟩ i; have := EA.out; omega
        obtain ⟨Ax, cx, rfl, _⟩ := hO.slice
        have hh := (hC.block w7.heap.size (by rw [HBS.out]; omega)).trans HH0.out
        obtain rfl | rfl | rfl : i = 0 ∨ i = 1 ∨ i = 2 := by omega
        · have t0 : wr.cell? ⟨w7.heap.size, 0, none⟩ = some (.string u) := by simp [World.cell?, hh]
          have t1 : wr.cell? ⟨w7.heap.size, 1, none⟩ = some (.string o) := by simp [World.cell?, hh]
          have t2 : wr.cell? ⟨w7.heap.size, 2, none⟩ = some (.bool m1) := by simp [World.cell?, hh]
          have t3 : wr.cell? ⟨w7.heap.size, 3, none⟩ = some (.bool m2) := by simp [World.cell?, hh]
          have t4 : wr.cell? ⟨w7.heap.size, 4, none⟩ = some (.bool m3) := by simp [World.cell?, hh]
          have t5 : wr.cell? ⟨w7.heap.size, 5, none⟩ = some (.bool m4) := by simp [World.cell?, hh]
          have t6 : wr.cell? ⟨w7.heap.size, 6, none⟩ = some (.bool m5) := by simp [World.cell?, hh]
          have hO1 := hO.alloc (bxEn u o m1 m2 m3 m4 m5)
          have hC1 := below_alloc0 hC (bxEn u o m1 m2 m3 m4 m5)
          obtain ⟨y0, y1, y2, y3, y4, y5, y6, yz⟩ := cellsEn u o m1 m2 m3 m4 m5 (heap_alloc_new wr (bxEn u o m1 m2 m3 m4 m5))
          have HX2 : Hid (putP xs ⟨u, o, m1, m2, m3, m4, m5⟩ = stgRo l ⟨u, o, m1, m2, m3, m4, m5⟩ ⟨o, u, o1, o2, o3, o4, o5⟩ (0 + 1)) := by show _ = _; rw [HX.out]; rfl
          clear hO hC hh
          go_wp2_with fail
          with_reducible refine (putRo_calls ((w7.alloc (.cells #[.string u, .string o, .bool m1, .bool m2, .bool m3, .bool m4, .bool m5, .string o, .string u, .bool o1, .bool o2, .bool o3, .bool o4, .bool o5] 105)).alloc (.cells #[.slice (some ⟨w7.heap.size, 0, none⟩) 2 2] 22)).heap.size xs.length cx Ax xs u o m1 m2 m3 m4 m5 ((w7.alloc (.cells #[.string u, .string o, .bool m1, .bool m2, .bool m3, .bool m4, .bool m5, .string o, .string u, .bool o1, .bool o2, .bool o3, .bool o4, .bool o5] 105)).alloc (.cells #[.slice (some ⟨w7.heap.size, 0, none⟩) 2 2] 22)) _ hO1 hC1 (Nat.le_refl _) hxl).mono ?_
          rintro e wz ⟨vz, rfl, hO2, hC2⟩
          go_wp2
          exact ⟨⟨1, putP xs ⟨u, o, m1, m2, m3, m4, m5⟩, by first | rfl | go_num, by omega, HX2, hO2, hC2⟩, by simp [intOf]⟩
        · have t0 : wr.cell? ⟨w7.heap.size, 7, none⟩ = some (.string o) := by simp [World.cell?, hh]
          have t1 : wr.cell? ⟨w7.heap.size, 8, none⟩ = some (.string u) := by simp [World.cell?, hh]
          have t2 : wr.cell? ⟨w7.heap.size, 9, none⟩ = some (.bool o1) := by simp [World.cell?, hh]
          have t3 : wr.cell? ⟨w7.heap.size, 10, none⟩ = some (.bool o2) := by simp [World.cell?, hh]
          have t4 : wr.cell? ⟨w7.heap.size, 11, none⟩ = some (.bool o3) := by simp [World.cell?, hh]
          have t5 : wr.cell? ⟨w7.heap.size, 12, none⟩ = some (.bool o4) := by simp [World.cell?, hh]
          have t6 : wr.cell? ⟨w7.heap.size, 13, none⟩ = some (.bool o5) := by simp [World.cell?, hh]
          have hO1 := hO.alloc (bxEn o u o1 o2 o3 o4 o5)
          have hC1 := below_alloc0 hC (bxEn o u o1 o2 o3 o4 o5)
          obtain ⟨y0, y1, y2, y3, y4, y5, y6, yz⟩ := cellsEn o u o1 o2 o3 o4 o5 (heap_alloc_new wr (bxEn o u o1 o2 o3 o4 o5))
          have HX2 : Hid (putP xs ⟨o, u, o1, o2, o3, o4, o5⟩ = stgRo l ⟨u, o, m1, m2, m3, m4, m5⟩ ⟨o, u, o1, o2, o3, o4, o5⟩ (1 + 1)) := by show _ = _; rw [HX.out]; rfl
          clear hO hC hh
          go_wp2_with fail
          with_reducible refine (putRo_calls ((w7.alloc (.cells #[.string u, .string o, .bool m1, .bool m2, .bool m3, .bool m4, .bool m5, .string o, .string u, .bool o1, .bool o2, .bool o3, .bool o4, .bool o5] 105)).alloc (.cells #[.slice (some ⟨w7.heap.size, 0, none⟩) 2 2] 22)).heap.size xs.length cx Ax xs o u o1 o2 o3 o4 o5 ((w7.alloc (.cells #[.string u, .string o, .bool m1, .bool m2, .bool m3, .bool m4, .bool m5, .string o, .string u, .bool o1, .bool o2, .bool o3, .bool o4, .bool o5] 105)).alloc (.cells #[.slice (some ⟨w7.heap.size, 0, none⟩) 2 2] 22)) _ hO1 hC1 (Nat.le_refl _) hxl).mono ?_
          rintro e wz ⟨vz, rfl, hO2, hC2⟩
          go_wp2
          exact ⟨⟨2, putP xs ⟨o, u, o1, o2, o3, o4, o5⟩, by first | rfl | go_num, by omega, HX2, hO2, hC2⟩, by simp [intOf]⟩
        · have hrow := hO.row
          have HX3 := HX.out
          go_wp2
          go_ret2
          rw [HF.out.1, HF.out.2, ← HX3]
          exact ⟨_, rfl, hrow, below_call D2 hC, .inr fun g hg => Nat.le_trans D2.size (hO.base_le g hg)⟩
    | true =>
      cases h2 : emptyI ⟨o1, o2, o3, o4, o5⟩ with
      | false =>
        obtain ⟨⟨k0, k1, k2, k3, k4⟩, -, kz⟩ := iopen ha
        obtain ⟨⟨j0, j1, j2, j3, j4⟩, -, jz⟩ := iopen hb
        have HE1 := Lib.hid h1
        go_wp2_with fail
        with_reducible refine (re_ (EmptyI_calls m1 m2 m3 m4 m5 _) (ret_bool HE1.out)).mono ?_
        rintro e w9 ⟨rfl, b9⟩
        replace ha := hcall ha b9
        replace hb := hcall hb b9
        replace hh := hcall hh b9
        replace hg := hcall hg b9
        replace hO := hO.below b9
        replace hC := below_call hC b9
        replace D := below_call D b9
        clear b9 k0 k1 k2 k3 k4 kz j0 j1 j2 j3 j4 jz
        obtain ⟨⟨k0, k1, k2, k3, k4⟩, -, kz⟩ := iopen ha
        obtain ⟨⟨j0, j1, j2, j3, j4⟩, -, jz⟩ := iopen hb
        have HE2 := Lib.hid h2
        go_wp2_with fail
        with_reducible refine (re_ (EmptyI_calls o1 o2 o3 o4 o5 _) (ret_bool HE2.out)).mono ?_
        rintro e w10 ⟨rfl, b10⟩
        replace ha := hcall ha b10
        replace hb := hcall hb b10
        replace hh := hcall hh b10
        replace hg := hcall hg b10
        replace hO := hO.below b10
        replace hC := below_call hC b10
        replace D := below_call D b10
        clear b10 k0 k1 k2 k3 k4 kz j0 j1 j2 j3 j4 jz
        have HF : Hid (r = stgRo l ⟨u, o, m1, m2, m3, m4, m5⟩ ⟨o, u, o1, o2, o3, o4, o5⟩ 2 ∧ er0 = 0) := by
          rw [if_neg (by simp)] at hr
          have hk : keep = true := by rw [← HK.out]; simp [h1, h2]
          rw [hk] at hr
          injection hr with q1 q2
          exact ⟨by rw [← q1]; exact (twoPut HOR.out _ _).symm, q2.symm⟩
        have gz : w10.cell? ⟨w7.heap.size + 1, 0, none⟩ = some (.slice (some ⟨w7.heap.size, 0, none⟩) 2 2) := by simp [World.cell?, hg]
        clear hr ha hb hg hh
        go_wp2
        go_loopw [16, 111] (fun v16 v111 wr => ∃ (i : Nat) (xs : List En), v111 = .int .i64 i ∧ i ≤ 2 ∧ Hid (xs = stgRo l ⟨u, o, m1, m2, m3, m4, m5⟩ ⟨o, u, o1, o2, o3, o4, o5⟩ i) ∧ Own enEn 7 105 wr ((w7.alloc (.cells #[.string u, .string o, .bool m1, .bool m2, .bool m3, .bool m4, .bool m5, .string o, .string u, .bool o1, .bool o2, .bool o3, .bool o4, .bool o5] 105)).alloc (.cells #[.slice (some ⟨w7.heap.size, 0, none⟩) 2 2] 22)).heap.size v16 xs ∧ Below ((w7.alloc (.cells #[.string u, .string o, .bool m1, .bool m2, .bool m3, .bool m4, .bool m5, .string o, .string u, .bool o1, .bool o2, .bool o3, .bool o4, .bool o5] 105)).alloc (.cells #[.slice (some ⟨w7.heap.size, 0, none⟩) 2 2] 22)).heap.size ((w7.alloc (.cells #[.string u, .string o, .bool m1, .bool m2, .bool m3, .bool m4, .bool m5, .string o, .string u, .bool o1, .bool o2, .bool o3, .bool o4, .bool o5] 105)).alloc (.cells #[.slice (some ⟨w7.heap.size, 0, none⟩) 2 2] 22)) wr) (fun _ v111 _ => (2 - intOf v111).toNat)
        case atStart => exact ⟨0, l, rfl, by omega, rfl, hO, hC⟩
        case round =>
          clear gz hO hC
          obtain ⟨i, xs, rfl, hi, HX, hO, hC⟩ := hrel
          have hxl : xs.length ≤ 1000 := by rw [HX.out]; have := stgRo_len l ⟨u, o, m1, m2, m3, m4, m5⟩ ⟨o, u, o1, o2, o3, o4, o5⟩ i; have := EA.out; omega
          obtain ⟨Ax, cx, rfl, _⟩ := hO.slice
          have hh := (hC.block w7.heap.size (by rw [HBS.out]; omega)).trans HH0.out
          obtain rfl | rfl | rfl : i = 0 ∨ i = 1 ∨ i = 2 := by omega
          · have t0 : wr.cell? ⟨w7.heap.size, 0, none⟩ = some (.string u) := by simp [World.cell?, hh]
            have t1 : wr.cell? ⟨w7.heap.size, 1, none⟩ = some (.string o) := by simp [World.cell?, hh]
            have t2 : wr.cell? ⟨w7.heap.size, 2, none⟩ = some (.bool m1) := by simp [World.cell?, hh]
            have t3 : wr.cell? ⟨w7.heap.size, 3, none⟩ = some (.bool m2) := by simp [World.cell?, hh]
            have t4 : wr.cell? ⟨w7.heap.size, 4, none⟩ = some (.bool m3) := by simp [World.cell?, hh]
            have t5 : wr.cell? ⟨w7.heap.size, 5, none⟩ = some (.bool m4) := by simp [World.cell?, hh]
            have t6 : wr.cell? ⟨w7.heap.size, 6, none⟩ = some (.bool m5) := by simp [World.cell?, hh]
            have hO1 := hO.alloc (bxEn u o m1 m2 m3 m4 m5)
            have hC1 := below_alloc0 hC (bxEn u o m1 m2 m3 m4 m5)
            obtain ⟨y0, y1, y2, y3, y4, y5, y6, yz⟩ := cellsEn u o m1 m2 m3 m4 m5 (heap_alloc_new wr (bxEn u o m1 m2 m3 m4 m5))
            have HX2 : Hid (putP xs ⟨u, o, m1, m2, m3, m4, m5⟩ = stgRo l ⟨u, o, m1, m2, m3, m4, m5⟩ ⟨o, u, o1, o2, o3, o4, o5⟩ (0 + 1)) := by show _ = _; rw [HX.out]; rfl
            clear hO hC hh
            go_wp2_with fail
            with_reducible refine (putRo_calls ((w7.alloc (.cells #[.string u, .string o, .bool m1, .bool m2, .bool m3, .bool m4, .bool m5, .string o, .string u, .bool o1, .bool o2, .bool o3, .bool o4, .bool o5] 105)).alloc (.cells #[.slice (some ⟨w7.heap.size, 0, none⟩) 2 2] 22)).heap.size xs.length cx Ax xs u o m1 m2 m3 m4 m5 ((w7.alloc (.cells #[.string u, .string o, .bool m1, .bool m2, .bool m3, .bool m4, .bool m5, .string o, .string u, .bool o1, .bool o2, .bool o3, .bool o4, .bool o5] 105)).alloc (.cells #[.slice (some ⟨w7.heap.size, 0, none⟩) 2 2] 22)) _ hO1 hC1 (Nat.le_refl _) hxl).mono ?_
            rintro e wz ⟨vz, rfl, hO2, hC2⟩
            go_wp2
            exact ⟨⟨1, putP xs ⟨u, o, m1, m2, m3, m4, m5⟩, by first | rfl | go_num, by omega, HX2, hO2, hC2⟩, by simp [intOf]⟩
          · have t0 : wr.cell? ⟨w7.heap.size, 7, none⟩ = some (.string o) := by simp [World.cell?, hh]
            have t1 : wr.cell? ⟨w7.heap.size, 8, none⟩ = some (.string u) := by simp [World.cell?, hh]
            have t2 : wr.cell? ⟨w7.heap.size, 9, none⟩ = some (.bool o1) := by simp [World.cell?, hh]
            have t3 : wr.cell? ⟨w7.heap.size, 10, none⟩ = some (.bool o2) := by simp [World.cell?, hh]
            have t4 : wr.cell? ⟨w7.heap.size, 11, none⟩ = some (.bool o3) := by simp [World.cell?, hh]
            have t5 : wr.cell? ⟨w7.heap.size, 12, none⟩ = some (.bool o4) := by simp [World.cell?, hh]
            have t6 : wr.cell? ⟨w7.heap.size, 13, none⟩ = some (.bool o5) := by simp [World.cell?, hh]
            have hO1 := hO.alloc (bxEn o u o1 o2 o3 o4 o5)
            have hC1 := below_alloc0 hC (bxEn o u o1 o2 o3 o4 o5)
            obtain ⟨y0, y1, y2, y3, y4, y5, y6, yz⟩ := cellsEn o u o1 o2 o3 o4 o5 (heap_alloc_new wr (bxEn o u o1 o2 o3 o4 o5))
            have HX2 : Hid (putP xs ⟨o, u, o1, o2, o3, o4, o5⟩ = stgRo l ⟨u, o, m1, m2, m3, m4, m5⟩ ⟨o, u, o1, o2, o3, o4, o5⟩ (1 + 1)) := by show _ = _; rw [HX.out]; rfl
            clear hO hC hh
            go_wp2_with fail
            with_reducible refine (putRo_calls ((w7.alloc (.cells #[.string u, .string o, .bool m1, .bool m2, .bool m3, .bool m4, .bool m5, .string o, .string u, .bool o1, .bool o2, .bool o3, .bool o4, .bool o5] 105)).alloc (.cells #[.slice (some ⟨w7.heap.size, 0, none⟩) 2 2] 22)).heap.size xs.length cx Ax xs o u o1 o2 o3 o4 o5 ((w7.alloc (.cells #[.string u, .string o, .bool m1, .bool m2, .bool m3, .bool m4, .bool m5, .string o, .string u, .bool o1, .bool o2, .bool o3, .bool o4, .bool o5] 105)).alloc (.cells #[.slice (some ⟨w7.heap.size, 0, none⟩) 2 2] 22)) _ hO1 hC1 (Nat.le_refl _) hxl).mono ?_
            rintro e wz ⟨vz, rfl, hO2, hC2⟩
            go_wp2
            exact ⟨⟨2, putP xs ⟨o, u, o1, o2, o3, o4, o5⟩, by first | rfl | go_num, by omega, HX2, hO2, hC2⟩, by simp [intOf]⟩
          · have hrow := hO.row
            have HX3 := HX.out
            go_wp2
            go_ret2
            rw [HF.out.1, HF.out.2, ← HX3]
            exact ⟨_, rfl, hrow, below_call D2 hC, .inr fun g hg => Nat.le_trans D2.size (hO.base_le g hg)⟩
      | true =>
        obtain ⟨⟨k0, k1, k2, k3, k4⟩, -, kz⟩ := iopen ha
        obtain ⟨⟨j0, j1, j2, j3, j4⟩, -, jz⟩ := iopen hb
        have HE1 := Lib.hid h1
        go_wp2_with fail
        with_reducible refine (re_ (EmptyI_calls m1 m2 m3 m4 m5 _) (ret_bool HE1.out)).mono ?_
        rintro e w9 ⟨rfl, b9⟩
        replace ha := hcall ha b9
        replace hb := hcall hb b9
        replace hh := hcall hh b9
        replace hg := hcall hg b9
        replace hO := hO.below b9
        replace hC := below_call hC b9
        replace D := below_call D b9
        clear b9 k0 k1 k2 k3 k4 kz j0 j1 j2 j3 j4 jz
        obtain ⟨⟨k0, k1, k2, k3, k4⟩, -, kz⟩ := iopen ha
        obtain ⟨⟨j0, j1, j2, j3, j4⟩, -, jz⟩ := iopen hb
        have HE2 := Lib.hid h2
        go_wp2_with fail
        with_reducible refine (re_ (EmptyI_calls o1 o2 o3 o4 o5 _) (ret_bool HE2.out)).mono ?_
        rintro e w10 ⟨rfl, b10⟩
        replace ha := hcall ha b10
        replace hb := hcall hb b10
        replace hh := hcall hh b10
        replace hg := hcall hg b10
        replace hO := hO.below b10
        replace hC := below_call hC b10
        replace D := below_call D b10
        clear b10 k0 k1 k2 k3 k4 kz j0 j1 j2 j3 j4 jz
        have HF : Hid (r = l.filter (noTwo u o) ∧ er0 = 0) := by
          rw [if_neg (by simp)] at hr
          have hk : keep = false := by rw [← HK.out]; simp [h1, h2]
          rw [hk] at hr
          injection hr with q1 q2
          exact ⟨by rw [← q1]; exact (twoDel l u o _ _ rfl rfl).symm, q2.symm⟩
        have hmf : ∀ (W : World) (a : Addr), (Instr.makeFunc (.func 102) #[] #[.pointer (some a)]).run Tryz.prog W = .ok (.func (.func 102) #[] #[.pointer (some a)]) W := fun W a => by kernel_rfl
        have E : TwoAt w10 (w7.heap.size + 1) w7.heap.size u o m1 m2 m3 m4 m5 o1 o2 o3 o4 o5 := ⟨hg, hh⟩
        clear hr
        go_wp2_with fail
        with_reducible refine (delFuncR_calls ((w7.alloc (.cells #[.string u, .string o, .bool m1, .bool m2, .bool m3, .bool m4, .bool m5, .string o, .string u, .bool o1, .bool o2, .bool o3, .bool o4, .bool o5] 105)).alloc (.cells #[.slice (some ⟨w7.heap.size, 0, none⟩) 2 2] 22)).heap.size l.length co Ao l (w7.heap.size + 1) w7.heap.size u o m1 m2 m3 m4 m5 o1 o2 o3 o4 o5 ((w7.alloc (.cells #[.string u, .string o, .bool m1, .bool m2, .bool m3, .bool m4, .bool m5, .string o, .string u, .bool o1, .bool o2, .bool o3, .bool o4, .bool o5] 105)).alloc (.cells #[.slice (some ⟨w7.heap.size, 0, none⟩) 2 2] 22)) _ hO (by have := EA.out; omega) E (by rw [HBS.out]; omega) (by rw [HBS.out]; omega) hC hC.size).mono ?_
        rintro e wz ⟨vz, rfl, hO3, hC3⟩
        have hrow := hO3.row
        go_wp2
        go_ret2
        rw [HF.out.1, HF.out.2]
        exact ⟨_, rfl, hrow, below_call D2 hC3, .inr fun g hg => Nat.le_trans D2.size (hO3.base_le g hg)⟩
  | false =>
  by_cases h16 : 16 ≤ x1
  · have g3 : decide ((16 : Int) ≤ (x1 : Int)) = true := decide_eq_true (by omega)
    have g4 : decide (16 ≤ x1) = true := decide_eq_true h16
    rw [g4] at hr
    have HF : Hid (r = l ∧ er0 = 5) := by
      injection hr with h1 h2
      exact ⟨h1.symm, h2.symm⟩
    clear hr
    go_enter Tryz.func56, Tryz.ntmps56
    go_wp2_with fail
    with_reducible refine (HMC).mono ?_
    rintro e w1 ⟨rfl, b1⟩
    replace D := below_call D b1
    clear b1
    go_wp2_with fail
    with_reducible refine (Is_is _ u _ HNu hu).mono ?_
    rintro e w2 ⟨rfl, b2⟩
    replace D := below_call D b2
    clear b2
    go_wp2_with fail
    with_reducible refine (Is_is _ o _ HNo ho).mono ?_
    rintro e w3 ⟨rfl, b3⟩
    replace D := below_call D b3
    clear b3
    go_wp2_with fail
    with_reducible refine (HG1.out _ (hl.below D)).mono ?_
    rintro e w4 ⟨rfl, b4⟩
    replace D := below_call D b4
    clear b4
    go_wp2_with fail
    with_reducible refine (HG2.out _ (hl.below D)).mono ?_
    rintro e w5 ⟨rfl, b5⟩
    replace D := below_call D b5
    clear b5
    go_wp2_with fail
    with_reducible refine (HACT.out _).mono ?_
    rintro e w6 ⟨rfl, b6⟩
    replace D := below_call D b6
    clear b6
    have ha := heap_alloc_new w6 (bxIt m1 m2 m3 m4 m5)
    replace D := below_alloc0 D (bxIt m1 m2 m3 m4 m5)
    have hb := heap_alloc_new (w6.alloc (bxIt m1 m2 m3 m4 m5)) (bxIt o1 o2 o3 o4 o5)
    replace ha := halloc ha (bxIt o1 o2 o3 o4 o5)
    replace D := below_alloc0 D (bxIt o1 o2 o3 o4 o5)
    rw [size_alloc] at hb
    go_wp2_with fail
    with_reducible refine (HFD.out _ (hl.below D)).mono ?_
    rintro e w7 ⟨rfl, b7⟩
    replace ha := hcall ha b7
    replace hb := hcall hb b7
    replace D := below_call D b7
    clear b7
    go_wp2_with fail
    with_reducible refine (OfLen n c A l u _ (hl.below D) (by omega) x1 HX1).mono ?_
    rintro e w8 ⟨⟨_, _, rfl⟩, b8⟩
    replace ha := hcall ha b8
    replace hb := hcall hb b8
    replace D := below_call D b8
    clear b8
    go_wp2
    go_ret2
    rw [HF.out.1, HF.out.2]
    exact ⟨_, rfl, hl.below D, D, .inl rfl⟩
  have g3 : decide ((16 : Int) ≤ (x1 : Int)) = false := decide_eq_false (by omega)
  have g4 : decide (16 ≤ x1) = false := decide_eq_false h16
  by_cases h17 : 16 ≤ x2
  · have g5 : decide ((16 : Int) ≤ (x2 : Int)) = true := decide_eq_true (by omega)
    have g6 : decide (16 ≤ x2) = true := decide_eq_true h17
    rw [g4, g6] at hr
    have HF : Hid (r = l ∧ er0 = 5) := by
      injection hr with h1 h2
      exact ⟨h1.symm, h2.symm⟩
    clear hr
    go_enter Tryz.func56, Tryz.ntmps56
    go_wp2_with fail
    with_reducible refine (HMC).mono ?_
    rintro e w1 ⟨rfl, b1⟩
    replace D := below_call D b1
    clear b1
    go_wp2_with fail
    with_reducible refine (Is_is _ u _ HNu hu).mono ?_
    rintro e w2 ⟨rfl, b2⟩
    replace D := below_call D b2
    clear b2
    go_wp2_with fail
    with_reducible refine (Is_is _ o _ HNo ho).mono ?_
    rintro e w3 ⟨rfl, b3⟩
    replace D := below_call D b3
    clear b3
    go_wp2_with fail
    with_reducible refine (HG1.out _ (hl.below D)).mono ?_
    rintro e w4 ⟨rfl, b4⟩
    replace D := below_call D b4
    clear b4
    go_wp2_with fail
    with_reducible refine (HG2.out _ (hl.below D)).mono ?_
    rintro e w5 ⟨rfl, b5⟩
    replace D := below_call D b5
    clear b5
    go_wp2_with fail
    with_reducible refine (HACT.out _).mono ?_
    rintro e w6 ⟨rfl, b6⟩
    replace D := below_call D b6
    clear b6
    have ha := heap_alloc_new w6 (bxIt m1 m2 m3 m4 m5)
    replace D := below_alloc0 D (bxIt m1 m2 m3 m4 m5)
    have hb := heap_alloc_new (w6.alloc (bxIt m1 m2 m3 m4 m5)) (bxIt o1 o2 o3 o4 o5)
    replace ha := halloc ha (bxIt o1 o2 o3 o4 o5)
    replace D := below_alloc0 D (bxIt o1 o2 o3 o4 o5)
    rw [size_alloc] at hb
    go_wp2_with fail
    with_reducible refine (HFD.out _ (hl.below D)).mono ?_
    rintro e w7 ⟨rfl, b7⟩
    replace ha := hcall ha b7
    replace hb := hcall hb b7
    replace D := below_call D b7
    clear b7
    go_wp2_with fail
    with_reducible refine (OfLen n c A l u _ (hl.below D) (by omega) x1 HX1).mono ?_
    rintro e w8 ⟨⟨_, _, rfl⟩, b8⟩
    replace ha := hcall ha b8
    replace hb := hcall hb b8
    replace D := below_call D b8
    clear b8
    go_wp2_with fail
    with_reducible refine (OfLen n c A l o _ (hl.below D) (by omega) x2 HX2).mono ?_
    rintro e w9 ⟨⟨_, _, rfl⟩, b9⟩
    replace ha := hcall ha b9
    replace hb := hcall hb b9
    replace D := below_call D b9
    clear b9
    go_wp2
    go_ret2
    rw [HF.out.1, HF.out.2]
    exact ⟨_, rfl, hl.below D, D, .inl rfl⟩
  have g5 : decide ((16 : Int) ≤ (x2 : Int)) = false := decide_eq_false (by omega)
  have g6 : decide (16 ≤ x2) = false := decide_eq_false h17
  rw [g4, g6] at hr
  simp only [Bool.or_false, Bool.and_false] at hr
  go_enter Tryz.func56, Tryz.ntmps56
  go_wp2_with fail
  with_reducible refine (HMC).mono ?_
  rintro e w1 ⟨rfl, b1⟩
  replace D := below_call D b1
  clear b1
  go_wp2_with fail
  with_reducible refine (Is_is _ u _ HNu hu).mono ?_
  rintro e w2 ⟨rfl, b2⟩
  replace D := below_call D b2
  clear b2
  go_wp2_with fail
  with_reducible refine (Is_is _ o _ HNo ho).mono ?_
  rintro e w3 ⟨rfl, b3⟩
  replace D := below_call D b3
  clear b3
  go_wp2_with fail
  with_reducible refine (HG1.out _ (hl.below D)).mono ?_
  rintro e w4 ⟨rfl, b4⟩
  replace D := below_call D b4
  clear b4
  go_wp2_with fail
  with_reducible refine (HG2.out _ (hl.below D)).mono ?_
  rintro e w5 ⟨rfl, b5⟩
  replace D := below_call D b5
  clear b5
  go_wp2_with fail
  with_reducible refine (HACT.out _).mono ?_
  rintro e w6 ⟨rfl, b6⟩
  replace D := below_call D b6
  clear b6
  have ha := heap_alloc_new w6 (bxIt m1 m2 m3 m4 m5)
  replace D := below_alloc0 D (bxIt m1 m2 m3 m4 m5)
  have hb := heap_alloc_new (w6.alloc (bxIt m1 m2 m3 m4 m5)) (bxIt o1 o2 o3 o4 o5)
  replace ha := halloc ha (bxIt o1 o2 o3 o4 o5)
  replace D := below_alloc0 D (bxIt o1 o2 o3 o4 o5)
  rw [size_alloc] at hb
  go_wp2_with fail
  with_reducible refine (HFD.out _ (hl.below D)).mono ?_
  rintro e w7 ⟨rfl, b7⟩
  replace ha := hcall ha b7
  replace hb := hcall hb b7
  replace D := below_call D b7
  clear b7
  go_wp2_with fail
  with_reducible refine (OfLen n c A l u _ (hl.below D) (by omega) x1 HX1).mono ?_
  rintro e w8 ⟨⟨_, _, rfl⟩, b8⟩
  replace ha := hcall ha b8
  replace hb := hcall hb b8
  replace D := below_call D b8
  clear b8
  go_wp2_with fail
  with_reducible refine (OfLen n c A l o _ (hl.below D) (by omega) x2 HX2).mono ?_
  rintro e w9 ⟨⟨_, _, rfl⟩, b9⟩
  replace ha := hcall ha b9
  replace hb := hcall hb b9
  replace D := below_call D b9
  clear b9
  obtain ⟨⟨k0, k1, k2, k3, k4⟩, -, kz⟩ := iopen ha
  obtain ⟨⟨j0, j1, j2, j3, j4⟩, -, jz⟩ := iopen hb
  have hh := heap_alloc_new w9 (.cells #[.string u, .string o, .bool m1, .bool m2, .bool m3, .bool m4, .bool m5, .string o, .string u, .bool o1, .bool o2, .bool o3, .bool o4, .bool o5] 105)
  replace ha := halloc ha (.cells #[.string u, .string o, .bool m1, .bool m2, .bool m3, .bool m4, .bool m5, .string o, .string u, .bool o1, .bool o2, .bool o3, .bool o4, .bool o5] 105)
  replace hb := halloc hb (.cells #[.string u, .string o, .bool m1, .bool m2, .bool m3, .bool m4, .bool m5, .string o, .string u, .bool o1, .bool o2, .bool o3, .bool o4, .bool o5] 105)
  replace D := below_alloc0 D (.cells #[.string u, .string o, .bool m1, .bool m2, .bool m3, .bool m4, .bool m5, .string o, .string u, .bool o1, .bool o2, .bool o3, .bool o4, .bool o5] 105)
  have hg := heap_alloc_new (w9.alloc (.cells #[.string u, .string o, .bool m1, .bool m2, .bool m3, .bool m4, .bool m5, .string o, .string u, .bool o1, .bool o2, .bool o3, .bool o4, .bool o5] 105)) (.cells #[.slice (some ⟨w9.heap.size, 0, none⟩) 2 2] 22)
  replace ha := halloc ha (.cells #[.slice (some ⟨w9.heap.size, 0, none⟩) 2 2] 22)
  replace hb := halloc hb (.cells #[.slice (some ⟨w9.heap.size, 0, none⟩) 2 2] 22)
  replace hh := halloc hh (.cells #[.slice (some ⟨w9.heap.size, 0, none⟩) 2 2] 22)
  replace D := below_alloc0 D (.cells #[.slice (some ⟨w9.heap.size, 0, none⟩) 2 2] 22)
  rw [size_alloc] at hg
  have HBS : Hid (((w9.alloc (.cells #[.string u, .string o, .bool m1, .bool m2, .bool m3, .bool m4, .bool m5, .string o, .string u, .bool o1, .bool o2, .bool o3, .bool o4, .bool o5] 105)).alloc (.cells #[.slice (some ⟨w9.heap.size, 0, none⟩) 2 2] 22)).heap.size = w9.heap.size + 1 + 1) := by show _ = _; rw [size_alloc, size_alloc]
  have D2 := D
  have HH0 := Lib.hid hh
  have HG0 := Lib.hid hg
  go_wp2_with fail
  with_reducible refine (cloneEn_calls n c A l _ (hl.below D) (by omega)).mono ?_
  rintro e w10 ⟨v10, rfl, hO, b10⟩
  have hC := b10
  replace ha := hcall ha b10
  replace hb := hcall hb b10
  replace hh := hcall hh b10
  replace hg := hcall hg b10
  replace D := below_call D b10
  clear b10 k0 k1 k2 k3 k4 kz j0 j1 j2 j3 j4 jz
  obtain ⟨Ao, co, rfl, _⟩ := hO.slice
  cases h1 : emptyI ⟨m1, m2, m3, m4, m5⟩ with
  | false =>
    obtain ⟨⟨k0, k1, k2, k3, k4⟩, -, kz⟩ := iopen ha
    obtain ⟨⟨j0, j1, j2, j3, j4⟩, -, jz⟩ := iopen hb
    have HE1 := Lib.hid h1
    go_wp2_with fail
    with_reducible refine (re_ (EmptyI_calls m1 m2 m3 m4 m5 _) (ret_bool HE1.out)).mono ?_
    rintro e w11 ⟨rfl, b11⟩
    replace ha := hcall ha b11
    replace hb := hcall hb b11
    replace hh := hcall hh b11
    replace hg := hcall hg b11
    replace hO := hO.below b11
    replace hC := below_call hC b11
    replace D := below_call D b11
    clear b11 k0 k1 k2 k3 k4 kz j0 j1 j2 j3 j4 jz
    have HF : Hid (r = stgRo l ⟨u, o, m1, m2, m3, m4, m5⟩ ⟨o, u, o1, o2, o3, o4, o5⟩ 2 ∧ er0 = 0) := by
      rw [if_neg (by simp)] at hr
      have hk : keep = true := by rw [← HK.out]; simp [h1]
      rw [hk] at hr
      injection hr with q1 q2
      exact ⟨by rw [← q1]; exact (twoPut HOR.out _ _).symm, q2.symm⟩
    have gz : w11.cell? ⟨w9.heap.size + 1, 0, none⟩ = some (.slice (some ⟨w9.heap.size, 0, none⟩) 2 2) := by simp [World.cell?, hg]
    clear hr ha hb hg hh
    go_wp2
    go_loopw [16, 111] (fun v16 v111 wr => ∃ (i : Nat) (xs : List En), v111 = .int .i64 i ∧ i ≤ 2 ∧ Hid (xs = stgRo l ⟨u, o, m1, m2, m3, m4, m5⟩ ⟨o, u, o1, o2, o3, o4, o5⟩ i) ∧ Own enEn 7 105 wr ((w9.alloc (.cells #[.string u, .string o, .bool m1, .bool m2, .bool m3, .bool m4, .bool m5, .string o, .string u, .bool o1, .bool o2, .bool o3, .bool o4, .bool o5] 105)).alloc (.cells #[.slice (some ⟨w9.heap.size, 0, none⟩) 2 2] 22)).heap.size v16 xs ∧ Below ((w9.alloc (.cells #[.string u, .string o, .bool m1, .bool m2, .bool m3, .bool m4, .bool m5, .string o, .string u, .bool o1, .bool o2, .bool o3, .bool o4, .bool o5] 105)).alloc (.cells #[.slice (some ⟨w9.heap.size, 0, none⟩) 2 2] 22)).heap.size ((w9.alloc (.cells #[.string u, .string o, .bool m1, .bool m2, .bool m3, .bool m4, .bool m5, .string o, .string u, .bool o1, .bool o2, .bool o3, .bool o4, .bool o5] 105)).alloc (.cells #[.slice (some ⟨w9.heap.size, 0, none⟩) 2 2] 22)) wr) (fun _ v111 _ => (2 - intOf v111).toNat)
    case atStart => exact ⟨0, l, rfl, by omega, rfl, hO, hC⟩
    case round =>
      clear gz hO hC
      obtain ⟨i, xs, rfl, hi, HX, hO, hC⟩ := hrel
      have hxl : xs.length ≤ 1000 := by rw [HX.out]; have := stgRo_len l ⟨u, o, m1, m2, m3, m4, m5⟩ ⟨o, u, o1, o2, o3, o4, o5⟩ i; have := EA.out; omega
      obtain ⟨Ax, cx, rfl, _⟩ := hO.slice
      have hh := (hC.block w9.heap.size (by rw [HBS.out]; omega)).trans HH0.out
      obtain rfl | rfl | rfl : i = 0 ∨ i = 1 ∨ i = 2 := by omega
      · have t0 : wr.cell? ⟨w9.heap.size, 0, none⟩ = some (.string u) := by simp [World.cell?, hh]
        have t1 : wr.cell? ⟨w9.heap.size, 1, none⟩ = some (.string o) := by simp [World.cell?, hh]
        have t2 : wr.cell? ⟨w9.heap.size, 2, none⟩ = some (.bool m1) := by simp [World.cell?, hh]
        have t3 : wr.cell? ⟨w9.heap.size, 3, none⟩ = some (.bool m2) := by simp [World.cell?, hh]
        have t4 : wr.cell? ⟨w9.heap.size, 4, none⟩ = some (.bool m3) := by simp [World.cell?, hh]
        have t5 : wr.cell? ⟨w9.heap.size, 5, none⟩ = some (.bool m4) := by simp [World.cell?, hh]
        have t6 : wr.cell? ⟨w9.heap.size, 6, none⟩ = some (.bool m5) := by simp [World.cell?, hh]
        have hO1 := hO.alloc (bxEn u o m1 m2 m3 m4 m5)
        have hC1 := below_alloc0 hC (bxEn u o m1 m2 m3 m4 m5)
        obtain ⟨y0, y1, y2, y3, y4, y5, y6, yz⟩ := cellsEn u o m1 m2 m3 m4 m5 (heap_alloc_new wr (bxEn u o m1 m2 m3 m4 m5))
        have HX2 : Hid (putP xs ⟨u, o, m1, m2, m3, m4, m5⟩ = stgRo l ⟨u, o, m1, m2, m3, m4, m5⟩ ⟨o, u, o1, o2, o3, o4, o5⟩ (0 + 1)) := by show _ = _; rw [HX.out]; rfl
        clear hO hC hh
        go_wp2_with fail
        with_reducible refine (putRo_calls ((w9.alloc (.cells #[.string u, .string o, .bool m1, .bool m2, .bool m3, .bool m4, .bool m5, .string o, .string u, .bool o1, .bool o2, .bool o3, .bool o4, .bool o5] 105)).alloc (.cells #[.slice (some ⟨w9.heap.size, 0, none⟩) 2 2] 22)).heap.size xs.length cx Ax xs u o m1 m2 m3 m4 m5 ((w9.alloc (.cells #[.string u, .string o, .bool m1, .bool m2, .bool m3, .bool m4, .bool m5, .string o, .string u, .bool o1, .bool o2, .bool o3, .bool o4, .bool o5] 105)).alloc (.cells #[.slice (some ⟨w9.heap.size, 0, none⟩) 2 2] 22)) _ hO1 hC1 (Nat.le_refl _) hxl).mono ?_
        rintro e wz ⟨vz, rfl, hO2, hC2⟩
        go_wp2
        exact ⟨⟨1, putP xs ⟨u, o, m1, m2, m3, m4, m5⟩, by first | rfl | go_num, by omega, HX2, hO2, hC2⟩, by simp [intOf]⟩
      · have t0 : wr.cell? ⟨w9.heap.size, 7, none⟩ = some (.string o) := by simp [World.cell?, hh]
        have t1 : wr.cell? ⟨w9.heap.size, 8, none⟩ = some (.string u) := by simp [World.cell?, hh]
        have t2 : wr.cell? ⟨w9.heap.size, 9, none⟩ = some (.bool o1) := by simp [World.cell?, hh]
        have t3 : wr.cell? ⟨w9.heap.size, 10, none⟩ = some (.bool o2) := by simp [World.cell?, hh]
        have t4 : wr.cell? ⟨w9.heap.size, 11, none⟩ = some (.bool o3) := by simp [World.cell?, hh]
        have t5 : wr.cell? ⟨w9.heap.size, 12, none⟩ = some (.bool o4) := by simp [World.cell?, hh]
        have t6 : wr.cell? ⟨w9.heap.size, 13, none⟩ = some (.bool o5) := by simp [World.cell?, hh]
        have hO1 := hO.alloc (bxEn o u o1 o2 o3 o4 o5)
        have hC1 := below_alloc0 hC (bxEn o u o1 o2 o3 o4 o5)
        obtain ⟨y0, y1, y2, y3, y4, y5, y6, yz⟩ := cellsEn o u o1 o2 o3 o4 o5 (heap_alloc_new wr (bxEn o u o1 o2 o3 o4 o5))
        have HX2 : Hid (putP xs ⟨o, u, o1, o2, o3, o4, o5⟩ = stgRo l ⟨u, o, m1, m2, m3, m4, m5⟩ ⟨o, u, o1, o2, o3, o4, o5⟩ (1 + 1)) := by show _ = _; rw [HX.out]; rfl
        clear hO hC hh
        go_wp2_with fail
        with_reducible refine (putRo_calls ((w9.alloc (.cells #[.string u, .string o, .bool m1, .bool m2, .bool m3, .bool m4, .bool m5, .string o, .string u, .bool o1, .bool o2, .bool o3, .bool o4, .bool o5] 105)).alloc (.cells #[.slice (some ⟨w9.heap.size, 0, none⟩) 2 2] 22)).heap.size xs.length cx Ax xs o u o1 o2 o3 o4 o5 ((w9.alloc (.cells #[.string u, .string o, .bool m1, .bool m2, .bool m3, .bool m4, .bool m5, .string o, .string u, .bool o1, .bool o2, .bool o3, .bool o4, .bool o5] 105)).alloc (.cells #[.slice (some ⟨w9.heap.size, 0, none⟩) 2 2] 22)) _ hO1 hC1 (Nat.le_refl _) hxl).mono ?_
        rintro e wz ⟨vz, rfl, hO2, hC2⟩
        go_wp2
        exact ⟨⟨2, putP xs ⟨o, u, o1, o2, o3, o4, o5⟩, by first | rfl | go_num, by omega, HX2, hO2, hC2⟩, by simp [intOf]⟩
      · have hrow := hO.row
        have HX3 := HX.out
        go_wp2
        go_ret2
        rw [HF.out.1, HF.out.2, ← HX3]
        exact ⟨_, rfl, hrow, below_call D2 hC, .inr fun g hg => Nat.le_trans D2.size (hO.base_le g hg)⟩
  | true =>
    cases h2 : emptyI ⟨o1, o2, o3, o4, o5⟩ with
    | false =>
      obtain ⟨⟨k0, k1, k2, k3, k4⟩, -, kz⟩ := iopen ha
      obtain ⟨⟨j0, j1, j2, j3, j4⟩, -, jz⟩ := iopen hb
      have HE1 := Lib.hid h1
      go_wp2_with fail
      with_reducible refine (re_ (EmptyI_calls m1 m2 m3 m4 m5 _) (ret_bool HE1.out)).mono ?_
      rintro e w11 ⟨rfl, b11⟩
      replace ha := hcall ha b11
      replace hb := hcall hb b11
      replace hh := hcall hh b11
      replace hg := hcall hg b11
      replace hO := hO.below b11
      replace hC := below_call hC b11
      replace D := below_call D b11
      clear b11 k0 k1 k2 k3 k4 kz j0 j1 j2 j3 j4 jz
      obtain ⟨⟨k0, k1, k2, k3, k4⟩, -, kz⟩ := iopen ha
      obtain ⟨⟨j0, j1, j2, j3, j4⟩, -, jz⟩ := iopen hb
      have HE2 := Lib.hid h2
      go_wp2_with fail
      with_reducible refine (re_ (EmptyI_calls o1 o2 o3 o4 o5 _) (ret_bool HE2.out)).mono ?_
      rintro e w12 ⟨rfl, b12⟩
      replace ha := hcall ha b12
      replace hb := hcall hb b12
      replace hh := hcall hh b12
      replace hg := hcall hg b12
      replace hO := hO.below b12
      replace hC := below_call hC b12
      replace D := below_call D b12
      clear b12 k0 k1 k2 k3 k4 kz j0 j1 j2 j3 j4 jz
      have HF : Hid (r = stgRo l ⟨u, o, m1, m2, m3, m4, m5⟩ ⟨o, u, o1, o2, o3, o4, o5⟩ 2 ∧ er0 = 0) := by
        rw [if_neg (by simp)] at hr
        have hk : keep = true := by rw [← HK.out]; simp [h1, h2]
        rw [hk] at hr
        injection hr with q1 q2
        exact ⟨by rw [← q1]; exact (twoPut HOR.out _ _).symm, q2.symm⟩
      have gz : w12.cell? ⟨w9.heap.size + 1, 0, none⟩ = some (.slice (some ⟨w9.heap.size, 0, none⟩) 2 2) := by simp [World.cell?, hg]
      clear hr ha hb hg hh
      go_wp2
      go_loopw [16, 111] (fun v16 v111 wr => ∃ (i : Nat) (xs : List En), v111 = .int .i64 i ∧ i ≤ 2 ∧ Hid (xs = stgRo l ⟨u, o, m1, m2, m3, m4, m5⟩ ⟨o, u, o1, o2, o3, o4, o5⟩ i) ∧ Own enEn 7 105 wr ((w9.alloc (.cells #[.string u, .string o, .bool m1, .bool m2, .bool m3, .bool m4, .bool m5, .string o, .string u, .bool o1, .bool o2, .bool o3, .bool o4, .bool o5] 105)).alloc (.cells #[.slice (some ⟨w9.heap.size, 0, none⟩) 2 2] 22)).heap.size v16 xs ∧ Below ((w9.alloc (.cells #[.string u, .string o, .bool m1, .bool m2, .bool m3, .bool m4, .bool m5, .string o, .string u, .bool o1, .bool o2, .bool o3, .bool o4, .bool o5] 105)).alloc (.cells #[.slice (some ⟨w9.heap.size, 0, none⟩) 2 2] 22)).heap.size ((w9.alloc (.cells #[.string u, .string o, .bool m1, .bool m2, .bool m3, .bool m4, .bool m5, .string o, .string u, .bool o1, .bool o2, .bool o3, .bool o4, .bool o5] 105)).alloc (.cells #[.slice (some ⟨w9.heap.size, 0, none⟩) 2 2] 22)) wr) (fun _ v111 _ => (2 - intOf v111).toNat)
      case atStart => exact ⟨0, l, rfl, by omega, rfl, hO, hC⟩
      case round =>
        clear gz hO hC
        obtain ⟨i, xs, rfl, hi, HX, hO, hC⟩ := hrel
        have hxl : xs.length ≤ 1000 := by rw [HX.out]; have := stgRo_len l ⟨u, o, m1, m2, m3, m4, m5⟩ ⟨o, u, o1, o2, o3, o4, o5⟩ i; have := EA.out; omega
        obtain ⟨Ax, cx, rfl, _⟩ := hO.slice
        have hh := (hC.block w9.heap.size (by rw [HBS.out]; omega)).trans HH0.out
        obtain rfl | rfl | rfl : i = 0 ∨ i = 1 ∨ i = 2 := by omega
        · have t0 : wr.cell? ⟨w9.heap.size, 0, none⟩ = some (.string u) := by simp [World.cell?, hh]
          have t1 : wr.cell? ⟨w9.heap.size, 1, none⟩ = some (.string o) := by simp [World.cell?, hh]
          have t2 : wr.cell? ⟨w9.heap.size, 2, none⟩ = some (.bool m1) := by simp [World.cell?, hh]
          have t3 : wr.cell? ⟨w9.heap.size, 3, none⟩ = some (.bool m2) := by simp [World.cell?, hh]
          have t4 : wr.cell? ⟨w9.heap.size, 4, none⟩ = some (.bool m3) := by simp [World.cell?, hh]
          have t5 : wr.cell? ⟨w9.heap.size, 5, none⟩ = some (.bool m4) := by simp [World.cell?, hh]
          have t6 : wr.cell? ⟨w9.heap.size, 6, none⟩ = some (.bool m5) := by simp [World.cell?, hh]
          have hO1 := hO.alloc (bxEn u o m1 m2 m3 m4 m5)
          have hC1 := below_alloc0 hC (bxEn u o m1 m2 m3 m4 m5)
          obtain ⟨y0, y1, y2, y3, y4, y5, y6, yz⟩ := cellsEn u o m1 m2 m3 m4 m5 (heap_alloc_new wr (bxEn u o m1 m2 m3 m4 m5))
          have HX2 : Hid (putP xs ⟨u, o, m1, m2, m3, m4, m5⟩ = stgRo l ⟨u, o, m1, m2, m3, m4, m5⟩ ⟨o, u, o1, o2, o3, o4, o5⟩ (0 + 1)) := by show _ = _; rw [HX.out]; rfl
          clear hO hC hh
          go_wp2_with fail
          with_reducible refine (putRo_calls ((w9.alloc (.cells #[.string u, .string o, .bool m1, .bool m2, .bool m3, .bool m4, .bool m5, .string o, .string u, .bool o1, .bool o2, .bool o3, .bool o4, .bool o5] 105)).alloc (.cells #[.slice (some ⟨w9.heap.size, 0, none⟩) 2 2] 22)).heap.size xs.length cx Ax xs u o m1 m2 m3 m4 m5 ((w9.alloc (.cells #[.string u, .string o, .bool m1, .bool m2, .bool m3, .bool m4, .bool m5, .string o, .string u, .bool o1, .bool o2, .bool o3, .bool o4, .bool o5] 105)).alloc (.cells #[.slice (some ⟨w9.heap.size, 0, none⟩) 2 2] 22)) _ hO1 hC1 (Nat.le_refl _) hxl).mono ?_
          rintro e wz ⟨vz, rfl, hO2, hC2⟩
          go_wp2
          exact ⟨⟨1, putP xs ⟨u, o, m1, m2, m3, m4, m5⟩, by first | rfl | go_num, by omega, HX2, hO2, hC2⟩, by simp [intOf]⟩
        · have t0 : wr.cell? ⟨w9.heap.size, 7, none⟩ = some (.string o) := by simp [World.cell?, hh]
          have t1 : wr.cell? ⟨w9.heap.size, 8, none⟩ = some (.string u) := by simp [World.cell?, hh]
          have t2 : wr.cell? ⟨w9.heap.size, 9, none⟩ = some (.bool o1) := by simp [World.cell?, hh]
          have t3 : wr.cell? ⟨w9.heap.size, 10, none⟩ = some (.bool o2) := by simp [World.cell?, hh]
          have t4 : wr.cell? ⟨w9.heap.size, 11, none⟩ = some (.bool o3) := by simp [World.cell?, hh]
          have t5 : wr.cell? ⟨w9.heap.size, 12, none⟩ = some (.bool o4) := by simp [World.cell?, hh]
          have t6 : wr.cell? ⟨w9.heap.size, 13, none⟩ = some (.bool o5) := by simp [World.cell?, hh]
          have hO1 := hO.alloc (bxEn o u o1 o2 o3 o4 o5)
          have hC1 := below_alloc0 hC (bxEn o u o1 o2 o3 o4 o5)
          obtain ⟨y0, y1, y2, y3, y4, y5, y6, yz⟩ := cellsEn o u o1 o2 o3 o4 o5 (heap_alloc_new wr (bxEn o u o1 o2 o3 o4 o5))
          have HX2 : Hid (putP xs ⟨o, u, o1, o2, o3, o4, o5⟩ = stgRo l ⟨u, o, m1, m2, m3, m4, m5⟩ ⟨o, u, o1, o2, o3, o4, o5⟩ (1 + 1)) := by show _ = _; rw [HX.out]; rfl
          clear hO hC hh
          go_wp2_with fail
          with_reducible refine (putRo_calls ((w9.alloc (.cells #[.string u, .string o, .bool m1, .bool m2, .bool m3, .bool m4, .bool m5, .string o, .string u, .bool o1, .bool o2, .bool o3, .bool o4, .bool o5] 105)).alloc (.cells #[.slice (some ⟨w9.heap.size, 0, none⟩) 2 2] 22)).heap.size xs.length cx Ax xs o u o1 o2 o3 o4 o5 ((w9.alloc (.cells #[.string u, .string o, .bool m1, .bool m2, .bool m3, .bool m4, .bool m5, .string o, .string u, .bool o1, .bool o2, .bool o3, .bool o4, .bool o5] 105)).alloc (.cells #[.slice (some ⟨w9.heap.size, 0, none⟩) 2 2] 22)) _ hO1 hC1 (Nat.le_refl _) hxl).mono ?_
          rintro e wz ⟨vz, rfl, hO2, hC2⟩
          go_wp2
          exact ⟨⟨2, putP xs ⟨o, u, o1, o2, o3, o4, o5⟩, by first | rfl | go_num, by omega, HX2, hO2, hC2⟩, by simp [intOf]⟩
        · have hrow := hO.row
          have HX3 := HX.out
          go_wp2
          go_ret2
          rw [HF.out.1, HF.out.2, ← HX3]
          exact ⟨_, rfl, hrow, below_call D2 hC, .inr fun g hg => Nat.le_trans D2.size (hO.base_le g hg)⟩
    | true =>
      obtain ⟨⟨k0, k1, k2, k3, k4⟩, -, kz⟩ := iopen ha
      obtain ⟨⟨j0, j1, j2, j3, j4⟩, -, jz⟩ := iopen hb
      have HE1 := Lib.hid h1
      go_wp2_with fail
      with_reducible refine (re_ (EmptyI_calls m1 m2 m3 m4 m5 _) (ret_bool HE1.out)).mono ?_
      rintro e w11 ⟨rfl, b11⟩
      replace ha := hcall ha b11
      replace hb := hcall hb b11
      replace hh := hcall hh b11
      replace hg := hcall hg b11
      replace hO := hO.below b11
      replace hC := below_call hC b11
      replace D := below_call D b11
      clear b11 k0 k1 k2 k3 k4 kz j0 j1 j2 j3 j4 jz
      obtain ⟨⟨k0, k1, k2, k3, k4⟩, -, kz⟩ := iopen ha
      obtain ⟨⟨j0, j1, j2, j3, j4⟩, -, jz⟩ := iopen hb
      have HE2 := Lib.hid h2
      go_wp2_with fail
      with_reducible refine (re_ (EmptyI_calls o1 o2 o3 o4 o5 _) (ret_bool HE2.out)).mono ?_
      rintro e w12 ⟨rfl, b12⟩
      replace ha := hcall ha b12
      replace hb := hcall hb b12
      replace hh := hcall hh b12
      replace hg := hcall hg b12
      replace hO := hO.below b12
      replace hC := below_call hC b12
      replace D := below_call D b12
      clear b12 k0 k1 k2 k3 k4 kz j0 j1 j2 j3 j4 jz
      have HF : Hid (r = l.filter (noTwo u o) ∧ er0 = 0) := by
        rw [if_neg (by simp)] at hr
        have hk : keep = false := by rw [← HK.out]; simp [h1, h2]
        rw [hk] at hr
        injection hr with q1 q2
        exact ⟨by rw [← q1]; exact (twoDel l u o _ _ rfl rfl).symm, q2.symm⟩
      have hmf : ∀ (W : World) (a : Addr), (Instr.makeFunc (.func 102) #[] #[.pointer (some a)]).run Tryz.prog W = .ok (.func (.func 102) #[] #[.pointer (some a)]) W := fun W a => by kernel_rfl
      have E : TwoAt w12 (w9.heap.size + 1) w9.heap.size u o m1 m2 m3 m4 m5 o1 o2 o3 o4 o5 := ⟨hg, hh⟩
      clear hr
      go_wp2_with fail
      with_reducible refine (delFuncR_calls ((w9.alloc (.cells #[.string u, .string o, .bool m1, .bool m2, .bool m3, .bool m4, .bool m5, .string o, .string u, .bool o1, .bool o2, .bool o3, .bool o4, .bool o5] 105)).alloc (.cells #[.slice (some ⟨w9.heap.size, 0, none⟩) 2 2] 22)).heap.size l.length co Ao l (w9.heap.size + 1) w9.heap.size u o m1 m2 m3 m4 m5 o1 o2 o3 o4 o5 ((w9.alloc (.cells #[.string u, .string o, .bool m1, .bool m2, .bool m3, .bool m4, .bool m5, .string o, .string u, .bool o1, .bool o2, .bool o3, .bool o4, .bool o5] 105)).alloc (.cells #[.slice (some ⟨w9.heap.size, 0, none⟩) 2 2] 22)) _ hO (by have := EA.out; omega) E (by rw [HBS.out]; omega) (by rw [HBS.out]; omega) hC hC.size).mono ?_
      rintro e wz ⟨vz, rfl, hO3, hC3⟩
      have hrow := hO3.row
      go_wp2
      go_ret2
      rw [HF.out.1, HF.out.2]
      exact ⟨_, rfl, hrow, below_call D2 hC3, .inr fun g hg => Nat.le_trans D2.size (hO3.base_le g hg)⟩
end Go.Proofs.YtbpfcjdjhponaaaGreat
