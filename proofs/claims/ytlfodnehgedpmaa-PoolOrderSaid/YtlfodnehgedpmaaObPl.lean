/- What the object layer computes, in plain terms: no program in sight. -/
import Derived.Test.YtlfodnehgedpmaaPBase
import Derived.Test.YtlfodnehgedpmaaPlain
namespace Go.Proofs.Ytlfodnehgedpmaa

structure Ent where
  name : List UInt8
  dir : Bool
  d : Int × Int
deriving DecidableEq
structure Ob where
  kind : Int
  data : List UInt8
  ents : List Ent
  tree : Int × Int
  pars : List (Int × Int)
  author : List UInt8
  time : Int
  msg : List UInt8
deriving DecidableEq

def letterB (c : UInt8) : Bool := (decide (97 ≤ c.toNat) && decide (c.toNat ≤ 122)) || (decide (65 ≤ c.toNat) && decide (c.toNat ≤ 90)) || (decide (48 ≤ c.toNat) && decide (c.toNat ≤ 57)) || c == 46 || c == 95 || c == 45
/-- Whether a text is a name. -/
def nameB (s : List UInt8) : Bool := decide (1 ≤ s.length) && decide (s.length ≤ 24) && !(s == [46]) && !(s == [46, 46]) && s.all letterB
theorem nameB_length {s : List UInt8} (h : nameB s = true) : 1 ≤ s.length ∧ s.length ≤ 24 := by
  simp only [nameB, Bool.and_eq_true, decide_eq_true_eq] at h
  exact ⟨h.1.1.1.1, h.1.1.1.2⟩
def leB (a b : List UInt8) : Bool := Op.bytesLess a b || a == b
def prevB : Option (List UInt8) → List UInt8 → Bool
  | none, _ => false
  | some q, n => leB n q
/-- The first error of entries behind a name. -/
def entGo : Option (List UInt8) → List Ent → Int
  | _, [] => 0
  | p, e :: r => if nameB e.name = false then 6 else if prevB p e.name = true then 10 else if e.d = (0, 0) then 1 else entGo (some e.name) r
def entsE (l : List Ent) : Int := if 200 < l.length then 4 else entGo none l
/-- The first error of parents behind others. -/
def parGo : List (Int × Int) → List (Int × Int) → Int
  | _, [] => 0
  | seen, d :: r => if d = (0, 0) then 1 else if d ∈ seen then 7 else parGo (seen ++ [d]) r
def commitE (o : Ob) : Int :=
  if o.tree = (0, 0) then 1 else if 8 < o.pars.length then 4 else if parGo [] o.pars ≠ 0 then parGo [] o.pars
  else if nameB o.author = false then 6 else if o.time < 0 ∨ 1099511627776 < o.time then 2 else if 200 < o.msg.length then 4 else 0
def hasC (o : Ob) : Bool := !decide (o.tree = (0, 0)) || decide (0 < o.pars.length) || decide (0 < o.author.length) || !decide (o.time = 0) || decide (0 < o.msg.length)
/-- The first error of an object, apart from its length. -/
def checkS (o : Ob) : Int :=
  if o.kind = 1 ∨ o.kind = 4 then (if 0 < o.ents.length ∨ hasC o = true then 1 else 0)
  else if o.kind = 2 then (if 0 < o.data.length ∨ hasC o = true then 1 else entsE o.ents)
  else if o.kind = 3 then (if 0 < o.data.length ∨ 0 < o.ents.length then 1 else commitE o)
  else 9
def putX (s : List UInt8) : List UInt8 := Cw.enc s.length ++ s
def dirN (b : Bool) : Nat := if b then 1 else 0
def beD (d : Int × Int) : List UInt8 := be 8 d.1 ++ be 8 d.2
def entX (e : Ent) : List UInt8 := putX e.name ++ (Cw.enc (dirN e.dir) ++ beD e.d)
/-- The encoding of an object, whatever its length. -/
def bodyO (o : Ob) : List UInt8 :=
  Cw.enc o.kind.toNat ++
    (if o.kind = 2 then Cw.enc o.ents.length ++ o.ents.flatMap entX
     else if o.kind = 3 then beD o.tree ++ (Cw.enc o.pars.length ++ (o.pars.flatMap beD ++ (putX o.author ++ (Cw.enc o.time.toNat ++ putX o.msg))))
     else putX o.data)
def encodeS (o : Ob) : List UInt8 × Int := if checkS o ≠ 0 then ([], checkS o) else if 65536 < (bodyO o).length then ([], 4) else (bodyO o, 0)

theorem beD_length (d : Int × Int) : (beD d).length = 16 := by simp [beD, be_length]
theorem checkS_kind {o : Ob} (h : checkS o = 0) : 1 ≤ o.kind ∧ o.kind ≤ 4 := by
  unfold checkS at h
  split at h
  · omega
  · split at h
    · omega
    · split at h
      · omega
      · omega
theorem entGo_name : ∀ {l : List Ent} {p : Option (List UInt8)}, entGo p l = 0 → ∀ e ∈ l, nameB e.name = true
  | [], _, _, e, he => by simp at he
  | x :: l, p, h, e, he => by
    rw [entGo] at h
    split at h
    · cases h
    · rename_i hn
      split at h
      · cases h
      · split at h
        · cases h
        · rcases List.mem_cons.1 he with rfl | he
          · simpa using hn
          · exact entGo_name h e he

end Go.Proofs.Ytlfodnehgedpmaa
