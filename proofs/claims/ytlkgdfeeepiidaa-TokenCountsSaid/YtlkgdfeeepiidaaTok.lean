/- Plain words on tokens: a text's bytes, grouped by class, from the left. No program here. -/
import Derived.Test.YtlkgdfeeepiidaaWWords
namespace Go.Proofs.Ytlkgdfeeepiidaa.Tok
open Go.Proofs.YtlkgdfeeepiidaaW.PrintWords

/-- A byte's class: 1 a word, 2 a space, 3 a break, 4 a mark. -/
def cls (c : Int) : Int :=
  if c = 10 ∨ c = 13 then 3 else if c = 9 ∨ c = 32 then 2
  else if (32 < c ∧ c < 48) ∨ (57 < c ∧ c < 65) ∨ (90 < c ∧ c < 97) ∨ (122 < c ∧ c ≤ 126) then 4 else 1
theorem cls_range (c : Int) : 1 ≤ cls c ∧ cls c ≤ 4 := by unfold cls; split <;> (try split) <;> (try split) <;> omega
def cb (c : UInt8) : Int := cls (c.toNat : Int)
/-- Does a byte stand in one token with the one ahead of it? -/
def joins (a b : UInt8) : Bool := decide ((cb a = 1 ∨ cb a = 2) ∧ cb b = cb a)

/-- A byte behind the tokens that are there. -/
def add (ts : List (List UInt8)) (c : UInt8) : List (List UInt8) :=
  match ts.getLast? with
  | none => [[c]]
  | some t => match t.getLast? with
    | none => ts ++ [[c]]
    | some b => if joins b c then ts.dropLast ++ [t ++ [c]] else ts ++ [[c]]
def cutL (l : List UInt8) : List (List UInt8) := l.foldl add []
theorem cutL_nil : cutL [] = [] := rfl
theorem cutL_snoc (l : List UInt8) (c : UInt8) : cutL (l ++ [c]) = add (cutL l) c := by simp [cutL, List.foldl_append]
theorem add_nil (c : UInt8) : add [] c = [[c]] := rfl
theorem add_join (ts : List (List UInt8)) (t : List UInt8) (b c : UInt8) (h : joins b c = true) : add (ts ++ [t ++ [b]]) c = ts ++ [t ++ [b] ++ [c]] := by
  simp [add, h]
theorem add_part (ts : List (List UInt8)) (t : List UInt8) (b c : UInt8) (h : joins b c = false) : add (ts ++ [t ++ [b]]) c = ts ++ [t ++ [b]] ++ [[c]] := by
  simp [add, h]

theorem add_flatten (ts : List (List UInt8)) (c : UInt8) : (add ts c).flatten = ts.flatten ++ [c] := by
  unfold add
  split
  · rename_i h; rw [List.getLast?_eq_none_iff] at h; rw [h]; rfl
  · rename_i t h
    obtain ⟨ys, rfl⟩ := List.getLast?_eq_some_iff.1 h
    split
    · simp
    · split
      · simp
      · simp
theorem foldl_add_flatten (l : List UInt8) : ∀ acc, (l.foldl add acc).flatten = acc.flatten ++ l := by
  induction l with
  | nil => intro acc; simp
  | cons c l ih => intro acc; rw [List.foldl_cons, ih, add_flatten]; simp
theorem cutL_flatten (l : List UInt8) : (cutL l).flatten = l := by rw [cutL, foldl_add_flatten]; rfl
theorem add_length (ts : List (List UInt8)) (c : UInt8) : (add ts c).length ≤ ts.length + 1 := by
  unfold add
  split
  · simp
  · split
    · simp
    · split <;> (simp <;> omega)
theorem foldl_add_length (l : List UInt8) : ∀ acc, (l.foldl add acc).length ≤ acc.length + l.length := by
  induction l with
  | nil => intro acc; simp
  | cons c l ih => intro acc; rw [List.foldl_cons]; have := ih (add acc c); have := add_length acc c; simp; omega
theorem cutL_length (l : List UInt8) : (cutL l).length ≤ l.length := by have := foldl_add_length l []; simpa [cutL] using this

/-- Bytes as Go's strings hold them. -/
def B (l : List UInt8) : ByteArray := ⟨l.toArray⟩
def L (s : ByteArray) : List UInt8 := s.data.toList
theorem B_L (s : ByteArray) : B (L s) = s := by cases s; simp [B, L]
theorem L_B (l : List UInt8) : L (B l) = l := by simp [B, L]
theorem L_length (s : ByteArray) : (L s).length = s.size := by simp [L]
theorem B_size (l : List UInt8) : (B l).size = l.length := by simp [B, ByteArray.size]
theorem B_inj {a b : List UInt8} (h : B a = B b) : a = b := by have := congrArg L h; simpa [L_B] using this
theorem L_inj {a b : ByteArray} (h : L a = L b) : a = b := by have := congrArg B h; simpa [B_L] using this
theorem L_append (a b : ByteArray) : L (a ++ b) = L a ++ L b := by simp [L]
theorem B_append (a b : List UInt8) : B (a ++ b) = B a ++ B b := L_inj (by rw [L_append, L_B, L_B, L_B])
theorem extract_B (s : ByteArray) (i j : Nat) : s.extract i j = B (((L s).take j).drop i) := by
  apply L_inj
  rw [L_B]
  simp [L, ByteArray.data_extract, List.drop_take]
theorem toList_L (s : ByteArray) : s.toList = L s := ByteArray.toList_eq s

end Go.Proofs.Ytlkgdfeeepiidaa.Tok
