/- Reading an object, in plain terms. -/
import Derived.Test.YtlfodnehgedpmaaObRe
namespace Go.Proofs.Ytlfodnehgedpmaa

def rList {α : Type} (get : RS → α × RS) : Nat → RS → List α × RS
  | 0, r => ([], r)
  | n + 1, r => if r.2 = true then ([], r) else ((get r).1 :: (rList get n (get r).2).1, (rList get n (get r).2).2)
def rMost (most : Int) (r : RS) : Int × RS := ((rNum r).1, ((rNum r).2.1, (rNum r).2.2 || decide (most < (rNum r).1)))
/-- A number, and so many elements; more than most are wrong. -/
def rMany {α : Type} (get : RS → α × RS) (most : Int) (r : RS) : List α × RS := rList get (rMost most r).1.toNat (rMost most r).2
def obZ : Ob := ⟨0, [], [], (0, 0), [], [], 0, []⟩
def readC (r : RS) : Ob × RS :=
  (⟨3, [], [], (rDig r).1, (rMany rDig 8 (rDig r).2).1, (rStr (rMany rDig 8 (rDig r).2).2).1, (rNum (rStr (rMany rDig 8 (rDig r).2).2).2).1, (rStr (rNum (rStr (rMany rDig 8 (rDig r).2).2).2).2).1⟩,
   (rStr (rNum (rStr (rMany rDig 8 (rDig r).2).2).2).2).2)
def readO (s : List UInt8) : Ob × RS :=
  if (rNum (s, false)).1 = 1 ∨ (rNum (s, false)).1 = 4 then ({ obZ with kind := (rNum (s, false)).1, data := (rStr (rNum (s, false)).2).1 }, (rStr (rNum (s, false)).2).2)
  else if (rNum (s, false)).1 = 2 then ({ obZ with kind := 2, ents := (rMany rEnt 200 (rNum (s, false)).2).1 }, (rMany rEnt 200 (rNum (s, false)).2).2)
  else if (rNum (s, false)).1 = 3 then readC (rNum (s, false)).2
  else ({ obZ with kind := (rNum (s, false)).1 }, (rNum (s, false)).2)
/-- The object with an encoding. -/
def decodeS (s : List UInt8) : Ob × Int := if (readO s).2.2 = true ∨ (readO s).2.1 ≠ [] ∨ (encodeS (readO s).1).2 ≠ 0 then (obZ, 13) else ((readO s).1, 0)

end Go.Proofs.Ytlfodnehgedpmaa
