/-
Plain definitions: names of users (layer 3), without any Go.
-/
namespace Go.Proofs.Ytocdoddmaopdbaa
namespace Sp

/-- The bytes of a text. -/
abbrev by_ (s : ByteArray) : List UInt8 := s.data.toList

def isLetter (c : UInt8) : Bool := 97 ≤ c && c ≤ 122
def isNameByte (c : UInt8) : Bool := isLetter c || (48 ≤ c && c ≤ 57) || c == 45

/-- Is a list of bytes a name? -/
def nameL : List UInt8 → Bool
  | [] => false
  | c :: l => isLetter c && l.all isNameByte && decide (l.length < 16)
def isName (s : ByteArray) : Bool := nameL s.data.toList

theorem letter_is (c : UInt8) (h : isLetter c = true) : isNameByte c = true := by simp [isNameByte, h]

/-- From the front: are the first k bytes as a name's are? -/
def okTo (s : ByteArray) (k : Nat) : Prop := ∀ j (h : j < s.size), j < k → isNameByte s[j] = true ∧ (j = 0 → isLetter s[j] = true)

theorem okTo_zero (s : ByteArray) : okTo s 0 := fun _ _ h => absurd h (by omega)

theorem okTo_succ (s : ByteArray) (k : Nat) (h : k < s.size) : okTo s (k + 1) ↔ okTo s k ∧ isNameByte s[k] = true ∧ (k = 0 → isLetter s[k] = true) := by
  constructor
  · intro o
    exact ⟨fun j hj hk => o j hj (by omega), o k h (by omega)⟩
  · rintro ⟨o, h1, h2⟩ j hj hk
    rcases Nat.lt_or_ge j k with hlt | hge
    · exact o j hj hlt
    · obtain rfl : j = k := by omega
      exact ⟨h1, h2⟩

theorem isName_iff (s : ByteArray) : isName s = true ↔ 0 < s.size ∧ s.size ≤ 16 ∧ okTo s s.size := by
  have hs : s.size = s.data.toList.length := by rw [Array.length_toList]; rfl
  have hg : ∀ j (h : j < s.size), s[j] = s.data.toList[j]'(by omega) := fun j h => rfl
  unfold isName okTo
  cases hl : s.data.toList with
  | nil =>
    rw [hl] at hs
    simp only [List.length_nil] at hs
    exact ⟨fun h => (by cases h), fun h => absurd h.1 (by omega)⟩
  | cons c l =>
    rw [hl] at hs
    simp only [List.length_cons] at hs
    have h0 : s[0]'(by omega) = c := by rw [hg]; simp [hl]
    have hs1 : ∀ j (h : j < l.length), s[j + 1]'(by omega) = l[j] := fun j h => by rw [hg]; simp [hl]
    simp only [nameL, Bool.and_eq_true, List.all_eq_true, decide_eq_true_eq]
    constructor
    · rintro ⟨⟨a, b⟩, d⟩
      refine ⟨by omega, by omega, fun j hj _ => ?_⟩
      cases j with
      | zero => rw [h0]; exact ⟨letter_is _ a, fun _ => a⟩
      | succ j => rw [hs1 j (by omega)]; exact ⟨b _ (List.getElem_mem _), fun h => absurd h (by omega)⟩
    · rintro ⟨_, a, b⟩
      refine ⟨⟨?_, fun x hx => ?_⟩, by omega⟩
      · have := (b 0 (by omega) (by omega)).2 rfl; rwa [h0] at this
      · obtain ⟨j, hj, rfl⟩ := List.getElem_of_mem hx
        have := (b (j + 1) (by omega) (by omega)).1; rwa [hs1 j hj] at this

/-- A name of at most k bytes looked through from place i on. -/
theorem isName_short (s : ByteArray) (h : s.size = 0) : isName s = false := by rw [← Bool.not_eq_true, isName_iff]; omega
theorem isName_long (s : ByteArray) (h : 16 < s.size) : isName s = false := by rw [← Bool.not_eq_true, isName_iff]; omega
theorem isName_no (s : ByteArray) (pos : Nat) (h : pos < s.size) (hn : ¬ (isNameByte s[pos] = true ∧ (pos = 0 → isLetter s[pos] = true))) : isName s = false := by
  rw [← Bool.not_eq_true, isName_iff]
  rintro ⟨_, _, o⟩
  exact hn (o pos h h)
theorem isLetter_nat (c : UInt8) : isLetter c = true ↔ 97 ≤ c.toNat ∧ c.toNat ≤ 122 := by
  simp [isLetter, UInt8.le_iff_toNat_le]
theorem isNameByte_nat (c : UInt8) : isNameByte c = true ↔ (97 ≤ c.toNat ∧ c.toNat ≤ 122) ∨ (48 ≤ c.toNat ∧ c.toNat ≤ 57) ∨ c.toNat = 45 := by
  simp [isNameByte, isLetter, UInt8.le_iff_toNat_le, ← UInt8.toNat_inj, or_assoc]

def lower (c : UInt8) : UInt8 := if 65 ≤ c.toNat ∧ c.toNat ≤ 90 then c + 32 else c
/-- A text with small letters. -/
def foldS (s : ByteArray) : ByteArray := ⟨(s.data.toList.map lower).toArray⟩
def foldV (s : ByteArray) : ByteArray × Bool := if isName (foldS s) then (foldS s, true) else (⟨#[]⟩, false)

/-- How two lists of bytes stand. -/
def ltL : List UInt8 → List UInt8 → Bool
  | [], [] => false
  | [], _ :: _ => true
  | _ :: _, [] => false
  | a :: l, b :: m => a < b || (a == b && ltL l m)
/-- How two texts stand: shorter ones first. -/
def less (a b : ByteArray) : Bool := a.size < b.size || (a.size == b.size && ltL a.data.toList b.data.toList)

end Sp
end Go.Proofs.Ytocdoddmaopdbaa
