/-
  PLAIN WORDS of chapter 3: letters, digits, words, signs, tokens of a text. No program in sight. (Filled in from a template of this repo.)
-/
import Derived.Lib.Strings
namespace Go.Proofs.YthcagbplolcbpaaDoor
set_option linter.unusedVariables false

/-- bytes -/
abbrev Bt := List UInt8
def lt8 (b : UInt8) : Bool := decide (97 ≤ b.toNat ∧ b.toNat ≤ 122) || decide (65 ≤ b.toNat ∧ b.toNat ≤ 90)
def dg8 (b : UInt8) : Bool := decide (48 ≤ b.toNat ∧ b.toNat ≤ 57)
def in8 (b : UInt8) : Bool := lt8 b || dg8 b || decide (b.toNat = 95)
def wordsL : List Bt := [[102, 117, 110, 99], [103, 108, 111, 98, 97, 108], [118, 97, 114], [105, 102], [101, 108, 115, 101], [119, 104, 105, 108, 101], [114, 101, 116, 117, 114, 110], [112, 114, 105, 110, 116], [99, 97, 108, 108], [114, 101, 97, 100]]
def signsL : List Bt := [[40], [41], [123], [125], [91], [93], [44], [59], [61], [43], [45], [42], [47], [37], [60], [60, 61], [61, 61], [33, 61], [38, 38], [124, 124], [33], [38]]
def isW (l : Bt) : Bool := wordsL.contains l
def isS (l : Bt) : Bool := signsL.contains l
/-- a string of the model -/
abbrev st (l : Bt) : ByteArray := ⟨l.toArray⟩
theorem st_data (s : ByteArray) : st s.data.toList = s := by cases s; rfl
theorem st_size (l : Bt) : (st l).size = l.length := rfl
theorem st_len (s : ByteArray) : s.data.toList.length = s.size := rfl
theorem st_get (s : ByteArray) (k : Nat) (h : k < s.size) : s.data.toList[k]? = some s[k] := by
  have h2 : k < s.data.toList.length := h
  rw [List.getElem?_eq_getElem h2]
  rfl
theorem st_ext (s : ByteArray) (i j : Nat) : s.extract i j = st ((s.data.toList.take j).drop i) := by
  have h : (s.extract i j).data.toList = (s.data.toList.take j).drop i := by
    rw [ByteArray.data_extract, Array.toList_extract, List.extract_eq_take_drop, List.drop_take]
  rw [← h, st_data]
theorem st_inj {a b : Bt} (h : st a = st b) : a = b := by
  have := congrArg (fun s : ByteArray => s.data.toList) h
  simpa using this
/-- the beginning whose bytes are all of a kind -/
def run (p : UInt8 → Bool) (l : Bt) : Bt := l.takeWhile p
theorem run_len (p : UInt8 → Bool) (l : Bt) : (run p l).length ≤ l.length := by
  induction l with
  | nil => exact Nat.le_refl _
  | cons x l ih =>
    unfold run at ih ⊢
    rw [List.takeWhile_cons]
    split
    · simp; exact ih
    · simp
theorem run_at {p : UInt8 → Bool} {l : Bt} {k : Nat} (h : ∀ j, j < k → ∃ b, l[j]? = some b ∧ p b = true) : ∀ b, l[k]? = some b → p b = false → run p l = l.take k := by
  induction k generalizing l with
  | zero =>
    intro b hb hp
    cases l with
    | nil => rfl
    | cons x l => simp at hb; subst hb; simp [run, hp]
  | succ k ih =>
    intro b hb hp
    cases l with
    | nil => simp at hb
    | cons x l =>
      obtain ⟨y, hy, hpy⟩ := h 0 (by omega)
      simp at hy
      subst hy
      have := ih (l := l) (fun j hj => by have := h (j + 1) (by omega); simpa using this) b (by simpa using hb) hp
      unfold run at this ⊢
      rw [List.takeWhile_cons, hpy, List.take_succ_cons, if_pos rfl, this]
theorem run_all {p : UInt8 → Bool} {l : Bt} (h : ∀ j, j < l.length → ∃ b, l[j]? = some b ∧ p b = true) : run p l = l := by
  induction l with
  | nil => rfl
  | cons x l ih =>
    obtain ⟨y, hy, hpy⟩ := h 0 (by simp)
    simp at hy
    subst hy
    have := ih (fun j hj => by have := h (j + 1) (by simp; omega); simpa using this)
    unfold run at this ⊢
    rw [List.takeWhile_cons, hpy, if_pos rfl, this]
end Go.Proofs.YthcagbplolcbpaaDoor
