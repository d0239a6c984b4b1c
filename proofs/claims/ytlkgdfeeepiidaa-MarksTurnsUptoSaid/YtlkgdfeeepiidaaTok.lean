/- Plain words on tokens: a text's bytes, grouped by class, from the left. No program here. -/
import Derived.Test.YtlkgdfeeepiidaaWWords
namespace Go.Proofs.Ytlkgdfeeepiidaa.Tok
open Go.Proofs.YtlkgdfeeepiidaaW.PrintWords

/-- A byte's class: 1 a word, 2 a space, 3 a break, 4 a mark. -/
def cls (c : Int) : Int :=
  if c = 10 ∨ c = 13 then 3 else if c = 9 ∨ c = 32 then 2
  else if (32 < c ∧ c < 48) ∨ (57 < c ∧ c < 65) ∨ (90 < c ∧ c < 97) ∨ (122 < c ∧ c ≤ 126) then 4 else 1
def cb (c : UInt8) : Int := cls (c.toNat : Int)
/-- Does a byte stand in one token with the one ahead of it? -/
def joins (a b : UInt8) : Bool := decide ((cb a = 1 ∨ cb a = 2) ∧ cb b = cb a)

/-- A byte behind the tokens that are there. -/
def add (ts : List (List UInt8)) (c : UInt8) : List (List UInt8) :=
  match ts.getLast? with
  | none => [[c]]
  | some t => match t.getLast? with
    | none => ts ++ [[c]]
    | some b => if joins b c then ts.dropLast ++ [t ++ [c]] else ts ++ [[c]]
/-- Bytes as Go's strings hold them. -/
def B (l : List UInt8) : ByteArray := ⟨l.toArray⟩
def L (s : ByteArray) : List UInt8 := s.data.toList
theorem B_L (s : ByteArray) : B (L s) = s := by cases s; simp [B, L]
theorem L_B (l : List UInt8) : L (B l) = l := by simp [B, L]
theorem L_length (s : ByteArray) : (L s).length = s.size := by simp [L]
theorem B_size (l : List UInt8) : (B l).size = l.length := by simp [B, ByteArray.size]
theorem L_inj {a b : ByteArray} (h : L a = L b) : a = b := by have := congrArg B h; simpa [B_L] using this
theorem L_append (a b : ByteArray) : L (a ++ b) = L a ++ L b := by simp [L]
theorem toList_L (s : ByteArray) : s.toList = L s := ByteArray.toList_eq s

end Go.Proofs.Ytlkgdfeeepiidaa.Tok
