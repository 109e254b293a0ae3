/-
Layer 13: maps of the call's own: sets of pairs of texts, and from texts to such sets.
-/
import Derived.Test.YtocdoddmaopdbaaProg
import Derived.Test.YtocdoddmaopdbaaKept
import Derived.Test.YtocdoddmaopdbaaSpecC
import Derived.WideKeyPair
import Derived.DeepKeys4
import Derived.Maps.OwnOps
import Derived.Maps.OwnSet
import Derived.Maps.RangeWalk
set_option linter.unusedVariables false
set_option linter.unusedSimpArgs false
namespace Go.Proofs.Ytocdoddmaopdbaa
open Go.RowKit Go.WideMaps Go.Maps Sp

abbrev agP (p q : ByteArray) : Value := .agg #[.string p, .string q]
def keyP (p q : ByteArray) : Lit := .string (keyBytes [.string p.data.toList, .string q.data.toList])
theorem laidP : laidOutB Try.prog = true := by kernel_rfl
theorem arrP : ArrKey Try.prog 56 9 2 := ⟨Try.underlying56, by kernel_rfl, by kernel_rfl, by kernel_rfl⟩
theorem mapLawP : Keyed Try.prog 56 := Keyed.of_law (deep_law_laid laidP (m := 4) (by decide) (of_decide_eq_true (by kernel_rfl)) (by kernel_rfl) (by kernel_rfl))
theorem typesP : ∃ m, Try.prog.types.size = m + 1 := ⟨Try.prog.types.size - 1, by have : Try.prog.types.size ≠ 0 := of_decide_eq_true (by kernel_rfl); omega⟩
theorem keyOfP (p q : ByteArray) (hp : p.size ≤ maxLen) (hq : q.size ≤ maxLen) : keyOf Try.prog 56 (agP p q) = some (keyP p q) := by
  have A := arrP
  have he := Try.underlying9
  have hkt := A.keyType typesP
  obtain ⟨m, hm⟩ := typesP
  unfold keyOf keyP
  simp only [A.hu]
  rw [if_pos (by simp [hkt, Value.formed, A.hu, A.size]), hm]
  unfold Program.keyLits
  simp only [A.hu, Value.cells]
  rw [if_pos (by rw [A.size]; rfl), show List.range 2 = [0, 1] from rfl, List.mapM_cons, List.mapM_cons, List.mapM_nil]
  simp [A.one, Program.keyLits, he, hp, hq]
theorem lit_str {P : Program} {e : TypeId} (he : P.underlying e = some .string) {m : Nat} {x : Value} {ls : List Lit} (h : P.keyLits (m + 1) e [x] = some ls) : ∃ s : ByteArray, x = .string s ∧ s.size ≤ maxLen ∧ ls = [.string s.data.toList] := by
  unfold Program.keyLits at h
  rw [he] at h
  cases x <;> simp at h
  exact ⟨_, rfl, h.1, h.2.symm⟩
theorem keyOf_inv2 {P : Program} {k e : TypeId} (A : ArrKey P k e 2) (he : P.underlying e = some .string) (hs : ∃ m, P.types.size = m + 1) {v : Value} {kl : Lit} (h : keyOf P k v = some kl) :
    ∃ p q : ByteArray, v = agP p q ∧ kl = keyP p q ∧ p.size ≤ maxLen ∧ q.size ≤ maxLen := by
  have hkt := A.keyType hs
  obtain ⟨m, hm⟩ := hs
  unfold keyOf at h
  simp only [A.hu] at h
  split at h
  · rename_i hf
    rw [Bool.and_eq_true] at hf
    have hf2 := hf.2
    cases v with
    | agg cs =>
      simp only [Value.formed, A.hu, A.size, beq_iff_eq] at hf2
      obtain ⟨l⟩ := cs
      simp only [List.size_toArray] at hf2
      match l, hf2 with
      | [x, y], _ =>
        rw [hm] at h
        unfold Program.keyLits at h
        simp only [A.hu, Value.cells] at h
        rw [if_pos (by rw [A.size]; rfl), show List.range 2 = [0, 1] from rfl, List.mapM_cons, List.mapM_cons, List.mapM_nil] at h
        simp only [A.one] at h
        simp only [Option.map_eq_some_iff] at h
        obtain ⟨ls, ⟨lss, h, rfl⟩, rfl⟩ := h
        cases h1 : P.keyLits (m + 1) e [x] with
        | none => simp [h1] at h
        | some l1 =>
          cases h2 : P.keyLits (m + 1) e [y] with
          | none => simp [h1, h2] at h
          | some l2 =>
            simp [h1, h2] at h
            obtain ⟨p, rfl, hp, rfl⟩ := lit_str he h1
            obtain ⟨q, rfl, hq, rfl⟩ := lit_str he h2
            subst h
            exact ⟨p, q, rfl, rfl, hp, hq⟩
    | _ => simp [Value.formed, A.hu] at hf2
  · cases h
theorem keyOfP_inv {v : Value} {kl : Lit} (h : keyOf Try.prog 56 v = some kl) : ∃ p q : ByteArray, v = agP p q ∧ kl = keyP p q ∧ p.size ≤ maxLen ∧ q.size ≤ maxLen := keyOf_inv2 arrP Try.underlying9 typesP h
theorem keyP_key (p q : ByteArray) : WideAt.IsKeyLit (keyP p q) := trivial
theorem keyP_inj {p q p' q' : ByteArray} (hp : p.size ≤ maxLen) (hq : q.size ≤ maxLen) (hp' : p'.size ≤ maxLen) (hq' : q'.size ≤ maxLen) (e : keyP p q = keyP p' q') : p = p' ∧ q = q' := by
  have h1 := keyOfP p q hp hq
  have h2 := keyOfP p' q' hp' hq'
  rw [← e] at h2
  have h3 := mapLawP.inj h1 h2
  injection h3 with h3
  injection h3 with h3
  injection h3 with h4 h5
  injection h4 with h4
  injection h5 with h5 h6
  injection h5 with h5
  exact ⟨h4, h5⟩
theorem boolP_inv0 {H : Type} {P : Program} {e : TypeId} (he : P.underlying e = some .bool) {v : Value} {z : DataW H × List MemPlace} (h : plainElem P e v = some z) : ∃ x, v = .bool x ∧ z = (.lit (.bool x), []) := by
  unfold plainElem at h
  rw [he] at h
  cases v <;> simp at h
  exact ⟨_, rfl, h.symm⟩
theorem boolP_inv {H : Type} {v : Value} {z : DataW H × List MemPlace} (h : plainElem Try.prog 4 v = some z) : ∃ x, v = .bool x ∧ z = (.lit (.bool x), []) := boolP_inv0 Try.underlying4 h
theorem zeroBoolP (w : World) : (zeroValue 4).run Try.prog w = .ok (.bool false) w := by kernel_rfl

/-- Block b is a map that has just the pairs of S, each with true; m of them. -/
def BMap (w : World) (b n : Nat) (S : ByteArray → ByteArray → Bool) (m : Nat) : Prop :=
  ∃ D : DataW Unit, w.ownsMap Try.prog 56 (plainElem Try.prog 4) b n D ∧ (∀ p q : ByteArray, p.size ≤ maxLen → q.size ≤ maxLen → Maps.has D (keyP p q) = S p q) ∧
    (∀ kl z, Maps.has D kl = true → D.atKey kl z = .lit (.bool true)) ∧ Maps.size D = m
theorem BMap.new (w : World) : BMap (w.alloc (.map #[] 0)) w.heap.size 0 (fun _ _ => false) 0 := ⟨_, World.ownsMap_made _ _ _ _, fun _ _ _ _ => rfl, fun _ _ h => by simp [Maps.has] at h, rfl⟩
theorem BMap.kept {w w1 : World} {b n m : Nat} {S : ByteArray → ByteArray → Bool} {row : Option Nat} (h : BMap w b n S m) (hg : w.grownBy w1 row) (hne : some b ≠ row) : BMap w1 b n S m := by
  obtain ⟨D, h1, h2⟩ := h
  exact ⟨D, h1.kept hg hne, h2⟩
theorem BMap.below {w w1 : World} {b n m : Nat} {S : ByteArray → ByteArray → Bool} (h : BMap w b n S m) (hb : Below w.heap.size w w1) : BMap w1 b n S m := h.kept (grown_of_below hb none) (by simp)
theorem BMap.mono {w : World} {b n n' m : Nat} {S : ByteArray → ByteArray → Bool} (h : BMap w b n S m) (hn : n ≤ n') : BMap w b n' S m := by
  obtain ⟨D, h1, h2⟩ := h
  exact ⟨D, h1.mono hn, h2⟩
theorem BMap.set {w : World} {b n m : Nat} {S T : ByteArray → ByteArray → Bool} (h : BMap w b n S m) (hs : ∀ p q : ByteArray, p.size ≤ maxLen → q.size ≤ maxLen → S p q = T p q) : BMap w b n T m := by
  obtain ⟨D, h1, h2, h3⟩ := h
  exact ⟨D, h1, fun p q hp hq => (h2 p q hp hq).trans (hs p q hp hq), h3⟩
theorem BMap.isMap {w : World} {b n m : Nat} {S : ByteArray → ByteArray → Bool} (h : BMap w b n S m) : ∃ es c, w.heap[b]? = some (.map es c) := by
  obtain ⟨D, ⟨es, c, h1, _⟩, _⟩ := h
  exact ⟨es, c, h1⟩
theorem BMap.look {w : World} {b n m : Nat} {S : ByteArray → ByteArray → Bool} (h : BMap w b n S m) (p q : ByteArray) (hp : p.size ≤ maxLen) (hq : q.size ≤ maxLen) :
    (Instr.lookup 51 (.map (some b)) (agP p q) false).run Try.prog w = .ok (.bool (S p q)) w := by
  obtain ⟨D, h1, h2, h3, _⟩ := h
  obtain ⟨v, ps, hrun, hv⟩ := h1.lookup mapLawP Try.underlying51 (zeroBoolP _) (plainElem_bool Try.underlying4 false) (keyOfP p q hp hq)
  obtain ⟨x, rfl, e⟩ := boolP_inv hv
  simp only [Prod.mk.injEq] at e
  rw [hrun, ← h2 p q hp hq]
  cases hh : Maps.has D (keyP p q) with
  | true => rw [h3 _ _ hh] at e; simp only [DataW.lit.injEq, Lit.bool.injEq] at e; rw [← e.1]
  | false => rw [atKey_of_not_has hh] at e; simp only [DataW.lit.injEq, Lit.bool.injEq] at e; rw [← e.1]
theorem BMap.lenRun {w : World} {b n m : Nat} {S : ByteArray → ByteArray → Bool} (h : BMap w b n S m) (ty : TypeId) : (Builtin.len_ #[51] ty #[.map (some b)]).run Try.prog w = .ok (.int .i64 (m : Int)) w := by
  obtain ⟨D, h1, h2, h3, rfl⟩ := h
  exact h1.len Try.underlying51 ty
theorem BMap.put {w : World} {b n m : Nat} {S : ByteArray → ByteArray → Bool} (h : BMap w b n S m) (p q : ByteArray) (hp : p.size ≤ maxLen) (hq : q.size ≤ maxLen) (hn : n < 1000000) :
    ∃ w', (Instr.mapUpdate 51 (.map (some b)) (agP p q) (.bool true)).run Try.prog w = .ok () w' ∧ BMap w' b (n + 1) (fun x y => decide (x = p ∧ y = q) || S x y) (if S p q then m else m + 1) ∧ w.mapTurned w' b := by
  obtain ⟨D, h1, h2, h3, rfl⟩ := h
  have ht := h1.tidy mapLawP
  obtain ⟨w', r1, r2, r3⟩ := h1.store mapLawP Try.underlying51 (by unfold maxLen; omega) (keyOfP p q hp hq) (plainElem_bool Try.underlying4 true)
  refine ⟨w', r1, ⟨_, r2, fun x y hx hy => ?_, fun kl z hk => ?_, ?_⟩, r3⟩
  · by_cases e : x = p ∧ y = q
    · obtain ⟨rfl, rfl⟩ := e
      rw [has_put_same ht.isMap (keyP_key x y)]
      simp
    · rw [has_put_other (fun e2 => e (keyP_inj hx hy hp hq e2)), h2 x y hx hy]
      simp [e]
  · by_cases e : kl = keyP p q
    · rw [e, atKey_put_same ht.isMap (keyP_key p q)]
    · rw [atKey_put_other e]
      rw [has_put_other e] at hk
      exact h3 kl z hk
  · rw [size_put ht, h2 p q hp hq]
theorem BMap.del {w : World} {b n m : Nat} {S : ByteArray → ByteArray → Bool} (h : BMap w b n S m) (p q : ByteArray) (hp : p.size ≤ maxLen) (hq : q.size ≤ maxLen) (ty : TypeId) :
    ∃ w', (Builtin.delete_ #[51, 56] ty #[.map (some b), agP p q]).run Try.prog w = .ok (.tuple #[]) w' ∧ BMap w' b n (fun x y => !decide (x = p ∧ y = q) && S x y) (if S p q then m - 1 else m) ∧ w.mapTurned w' b := by
  obtain ⟨D, h1, h2, h3, rfl⟩ := h
  have ht := h1.tidy mapLawP
  obtain ⟨w', r1, r2, r3⟩ := h1.drop mapLawP Try.underlying51 (keyOfP p q hp hq) ty
  refine ⟨w', r1, ⟨_, r2, fun x y hx hy => ?_, fun kl z hk => ?_, ?_⟩, r3⟩
  · by_cases e : x = p ∧ y = q
    · obtain ⟨rfl, rfl⟩ := e
      rw [has_del_same]
      simp
    · rw [has_del_other (fun e2 => e (keyP_inj hx hy hp hq e2)), h2 x y hx hy]
      simp [e]
  · by_cases e : kl = keyP p q
    · rw [e, has_del_same] at hk
      cases hk
    · rw [atKey_del_other e]
      rw [has_del_other e] at hk
      exact h3 kl z hk
  · have := size_del (k := keyP p q) ht
    rw [h2 p q hp hq] at this
    cases hs : S p q <;> rw [hs] at this <;> simp at this ⊢ <;> omega

/-! From texts to blocks. -/
def elN (v : Value) : Option (DataW Unit × List MemPlace) :=
  match v with
  | .map (some g) => some (.lit (.int .i64 (g : Int)), [])
  | .map none => some (.lit (.bool false), [])
  | _ => none
def dN : Option Nat → DataW Unit
  | some g => .lit (.int .i64 (g : Int))
  | none => .lit (.bool false)
theorem elN_mk (g : Option Nat) : elN (.map g) = some (dN g, []) := by cases g <;> rfl
theorem elN_inv {v : Value} {g : Option Nat} {ps : List MemPlace} (h : elN v = some (dN g, ps)) : v = .map g := by
  unfold elN at h
  split at h
  · cases g with
    | none => simp [dN] at h
    | some k =>
      simp only [dN, Option.some.injEq, Prod.mk.injEq, DataW.lit.injEq, Lit.int.injEq, true_and] at h
      have := Int.ofNat.inj h.1
      rw [this]
  · cases g with
    | none => rfl
    | some k => simp [dN] at h
  · cases h
theorem mapLawN : Keyed Try.prog 9 := string_keyed Try.underlying9
theorem zeroN (w : World) : (zeroValue 51).run Try.prog w = .ok (.map none) w := by kernel_rfl
def keyN (s : ByteArray) : Lit := .string s.data.toList
theorem keyN_ne {s t : ByteArray} (h : s ≠ t) : keyN s ≠ keyN t := fun e => h (by
  have e2 : s.data.toList = t.data.toList := by injection e
  exact toList_inj.1 e2)
def NMap (w : World) (c n : Nat) (f : ByteArray → Option Nat) : Prop :=
  ∃ D : DataW Unit, w.ownsMap Try.prog 9 elN c n D ∧ ∀ s : ByteArray, D.atKey (keyN s) (dN none) = dN (f s)
theorem NMap.new (w : World) : NMap (w.alloc (.map #[] 0)) w.heap.size 0 (fun _ => none) := ⟨_, World.ownsMap_made _ _ _ _, fun _ => by simp [DataW.atKey]⟩
theorem NMap.kept {w w1 : World} {c n : Nat} {f : ByteArray → Option Nat} {row : Option Nat} (h : NMap w c n f) (hg : w.grownBy w1 row) (hne : some c ≠ row) : NMap w1 c n f := by
  obtain ⟨D, h1, h2⟩ := h
  exact ⟨D, h1.kept hg hne, h2⟩
theorem NMap.below {w w1 : World} {c n : Nat} {f : ByteArray → Option Nat} (h : NMap w c n f) (hb : Below w.heap.size w w1) : NMap w1 c n f := h.kept (grown_of_below hb none) (by simp)
theorem NMap.mono {w : World} {c n n' : Nat} {f : ByteArray → Option Nat} (h : NMap w c n f) (hn : n ≤ n') : NMap w c n' f := by
  obtain ⟨D, h1, h2⟩ := h
  exact ⟨D, h1.mono hn, h2⟩
theorem NMap.isMap {w : World} {c n : Nat} {f : ByteArray → Option Nat} (h : NMap w c n f) : ∃ es k, w.heap[c]? = some (.map es k) := by
  obtain ⟨D, ⟨es, k, h1, _⟩, _⟩ := h
  exact ⟨es, k, h1⟩
theorem NMap.look {w : World} {c n : Nat} {f : ByteArray → Option Nat} (h : NMap w c n f) (s : ByteArray) (hs : s.size ≤ maxLen) :
    (Instr.lookup 52 (.map (some c)) (.string s) false).run Try.prog w = .ok (.map (f s)) w := by
  obtain ⟨D, h1, h2⟩ := h
  obtain ⟨v, ps, hrun, hv⟩ := h1.lookup mapLawN Try.underlying52 (zeroN _) (elN_mk none) (keyOf_string_mk Try.underlying9 hs)
  rw [show (.string s.data.toList : Lit) = keyN s from rfl, h2] at hv
  rw [hrun, elN_inv hv]
theorem NMap.put {w : World} {c n : Nat} {f : ByteArray → Option Nat} (h : NMap w c n f) (s : ByteArray) (g : Nat) (hs : s.size ≤ maxLen) (hn : n < 1000000) :
    ∃ w', (Instr.mapUpdate 52 (.map (some c)) (.string s) (.map (some g))).run Try.prog w = .ok () w' ∧ NMap w' c (n + 1) (fun t => if t = s then some g else f t) ∧ w.mapTurned w' c := by
  obtain ⟨D, h1, h2⟩ := h
  have ht := h1.tidy mapLawN
  obtain ⟨w', r1, r2, r3⟩ := h1.store mapLawN Try.underlying52 (by unfold maxLen; omega) (keyOf_string_mk Try.underlying9 hs) (elN_mk (some g))
  refine ⟨w', r1, ⟨_, r2, fun t => ?_⟩, r3⟩
  rw [show (.string s.data.toList : Lit) = keyN s from rfl]
  show _ = dN (if t = s then some g else f t)
  by_cases e : t = s
  · subst e
    rw [if_pos rfl, atKey_put_same ht.isMap (show WideAt.IsKeyLit (keyN t) from trivial)]
  · rw [if_neg e, atKey_put_other (keyN_ne e)]
    exact h2 t
end Go.Proofs.Ytocdoddmaopdbaa
