/- Tokens of a text, in plain Lean. -/
import Derived.Test.YtmbegappkkbfpaaAbsU
namespace Go.Abs
open Go
def bLow (b : UInt8) : Bool := decide (97 ≤ (b.toNat : Int)) && decide ((b.toNat : Int) ≤ 122)
def bUp (b : UInt8) : Bool := decide (65 ≤ (b.toNat : Int)) && decide ((b.toNat : Int) ≤ 90)
def bDig (b : UInt8) : Bool := decide (48 ≤ (b.toNat : Int)) && decide ((b.toNat : Int) ≤ 57)
def bIn (b : UInt8) : Bool := bLow b || bUp b || bDig b || b == 95
def bBlank (b : UInt8) : Bool := b == 9 || b == 10 || b == 13 || b == 32
/-- The number that digits denote, cut where it is too large. -/
def smallF : List UInt8 → Int → Bool
  | [], _ => true
  | b :: l, n => let m := n * 10 + ((b.toNat : Int) - 48)
    if m > 1000000 then false else smallF l m
def sgn2 (r : List UInt8) : Bool := r.take 2 == [45, 62] || r.take 2 == [60, 61] || r.take 2 == [61, 61]
def sgns : List UInt8 := [40, 41, 44, 61, 124, 43, 45, 42, 47, 37, 60, 59, 95]
def sgn (r : List UInt8) : Nat :=
  if sgn2 r = true then 2 else match r with
  | [] => 0
  | b :: _ => if sgns.contains b = true then 1 else 0
structure Tk where
  kind : Int
  text : List UInt8
  pos : Nat
/-- The token at the head of a rest: its kind and its length, or an error. -/
def tok (kw : List UInt8 → Bool) (b : UInt8) (r : List UInt8) : Except Int (Int × Nat) :=
  if (bLow b || bUp b) = true then
    let n := (r.takeWhile bIn).length + 1
    if n > 24 then .error 9 else .ok (if bUp b = true then 2 else if kw ((b :: r).take n) = true then 4 else 1, n)
  else if bDig b = true then
    let n := (r.takeWhile bDig).length + 1
    if b == 48 && decide (n > 1) then .error 2 else if smallF ((b :: r).take n) 0 = true then .ok (3, n) else .error 9
  else
    let n := sgn (b :: r)
    if n = 0 then .error 2 else .ok (5, n)
theorem tok_pos {kw : List UInt8 → Bool} {b : UInt8} {r : List UInt8} {k : Int} {n : Nat} (h : tok kw b r = .ok (k, n)) : 0 < n := by
  unfold tok at h
  split at h
  · simp only at h; split at h <;> simp at h; omega
  · split at h
    · simp only at h; split at h
      · simp at h
      · split at h <;> simp at h; omega
    · simp only at h; split at h <;> simp at h; omega
/-- The tokens of a rest that stands at a place, or the place of an error and the error. -/
def toks (kw : List UInt8 → Bool) (r : List UInt8) (pos : Nat) : Except (Nat × Int) (List Tk) :=
  match r with
  | [] => .ok [⟨6, [], pos⟩]
  | b :: r' =>
    if bBlank b = true then toks kw r' (pos + 1)
    else if b == 35 then toks kw (r'.dropWhile (· != 10)) (pos + 1 + (r'.takeWhile (· != 10)).length)
    else match tok kw b r' with
      | .error e => .error (pos, e)
      | .ok (k, n) => match toks kw (r'.drop (n - 1)) (pos + n) with
        | .error e => .error e
        | .ok l => .ok (⟨k, (b :: r').take n, pos⟩ :: l)
termination_by r.length
decreasing_by
  · simp
  · have := (List.dropWhile_sublist (p := (· != 10)) (l := r')).length_le; simp; omega
  · simp; omega
end Go.Abs
