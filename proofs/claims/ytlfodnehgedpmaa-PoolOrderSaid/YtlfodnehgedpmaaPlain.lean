/- Plain functions on lists of bytes that say what the codec computes; no program in sight. -/
namespace Go.Proofs.Ytlfodnehgedpmaa.Cw

/-- The digits of a number in base 128 (at most ten). -/
def encF : Nat → Nat → List UInt8
  | 0, _ => []
  | f + 1, n => if n < 128 then [UInt8.ofNat n] else UInt8.ofNat (n % 128 + 128) :: encF f (n / 128)
def enc (n : Nat) : List UInt8 := encF 10 n

def getGo : Nat → Nat → Int → Int → List UInt8 → Int × Int × Int
  | 0, _, _, _, _ => (0, 0, 13)
  | _ + 1, _, _, _, [] => (0, 0, 12)
  | f + 1, i, n, u, c :: r =>
    if 128 ≤ c.toNat then getGo f (i + 1) (n + ((c.toNat : Int) - 128) * u) (u * 128) r
    else if (c.toNat = 0 ∧ 0 < i) ∨ 1099511627776 < n + (c.toNat : Int) * u then (0, 0, 13)
    else (n + (c.toNat : Int) * u, (i : Int) + 1, 0)
def getI (l : List UInt8) : Int × Int × Int := getGo 6 0 0 1 l

def getT (l : List UInt8) : List UInt8 × Int × Int :=
  if (getI l).2.2 ≠ 0 then ([], 0, (getI l).2.2)
  else if 65536 < (getI l).1 then ([], 0, 13)
  else if (l.length : Int) - (getI l).2.1 < (getI l).1 then ([], 0, 12)
  else ((l.drop (getI l).2.1.toNat).take (getI l).1.toNat, (getI l).2.1 + (getI l).1, 0)

def inR (n : Int) : Bool := decide (0 ≤ n) && decide (n ≤ 1099511627776)

theorem inR_iff (n : Int) : inR n = true ↔ 0 ≤ n ∧ n ≤ 1099511627776 := by simp [inR]
theorem inR_false (n : Int) : inR n = false ↔ ¬ (0 ≤ n ∧ n ≤ 1099511627776) := by
  rw [← inR_iff]; cases inR n <;> simp

end Go.Proofs.Ytlfodnehgedpmaa.Cw
