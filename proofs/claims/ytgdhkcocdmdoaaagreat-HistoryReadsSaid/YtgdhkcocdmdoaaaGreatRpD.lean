/- pool.Union. -/
import Derived.Test.YtgdhkcocdmdoaaaGreatRpC
namespace Go.Proofs.YtgdhkcocdmdoaaaGreat
open Go.RowKit Go.Shelf
set_option linter.unusedVariables false

/-- Two pools in order, merged. -/
def uniF : Nat → List Itm → List Itm → Option (List Itm)
  | 0, _, _ => some []
  | _ + 1, [], [] => some []
  | f + 1, [], y :: ys => (uniF f [] ys).map (y :: ·)
  | f + 1, x :: xs, [] => (uniF f xs []).map (x :: ·)
  | f + 1, x :: xs, y :: ys =>
    if cmpD x.d y.d = 0 then (if x.data = y.data then (uniF f xs ys).map (x :: ·) else none)
    else if cmpD x.d y.d < 0 then (uniF f xs (y :: ys)).map (x :: ·) else (uniF f (x :: xs) ys).map (y :: ·)
def uniO : Option (List Itm) → List Itm × Int
  | some zs => (zs, 0)
  | none => ([], 16)
def uniS (xs ys : List Itm) : List Itm × Int := uniO (uniF (xs.length + ys.length) xs ys)
theorem uniF_nil (f : Nat) : uniF f [] [] = some [] := by cases f <;> rfl
def UR (R : Option (List Itm)) (f : Nat) (l xs ys : List Itm) : Prop := R = (uniF f xs ys).map (l ++ ·)
theorem UR.start (xs ys : List Itm) (f : Nat) : UR (uniF f xs ys) f [] xs ys := by unfold UR; simp
theorem map_app (o : Option (List Itm)) (l : List Itm) (x : Itm) : (o.map (x :: ·)).map (l ++ ·) = o.map ((l ++ [x]) ++ ·) := by
  cases o <;> simp
theorem UR.a {R : Option (List Itm)} {f : Nat} {l xs ys : List Itm} {x : Itm} (h : UR R (f + 1) l (x :: xs) ys) (hy : ∀ y ∈ ys.head?, cmpD x.d y.d < 0) : UR R f (l ++ [x]) xs ys := by
  unfold UR at h ⊢
  rw [h, ← map_app]
  cases ys with
  | nil => rfl
  | cons y ys =>
    have := hy y rfl
    rw [uniF, if_neg (by omega), if_pos this]
theorem UR.b {R : Option (List Itm)} {f : Nat} {l xs ys : List Itm} {y : Itm} (h : UR R (f + 1) l xs (y :: ys)) (hx : ∀ x ∈ xs.head?, 0 < cmpD x.d y.d) : UR R f (l ++ [y]) xs ys := by
  unfold UR at h ⊢
  rw [h, ← map_app]
  cases xs with
  | nil => rfl
  | cons x xs =>
    have := hx x rfl
    rw [uniF, if_neg (by omega), if_neg (by omega)]
theorem UR.c {R : Option (List Itm)} {f : Nat} {l xs ys : List Itm} {x y : Itm} (h : UR R (f + 1) l (x :: xs) (y :: ys)) (hc : cmpD x.d y.d = 0) (hd : x.data = y.data) : UR R f (l ++ [x]) xs ys := by
  unfold UR at h ⊢
  rw [h, ← map_app, uniF, if_pos hc, if_pos hd]
theorem UR.d {R : Option (List Itm)} {f : Nat} {l xs ys : List Itm} {x y : Itm} (h : UR R (f + 1) l (x :: xs) (y :: ys)) (hc : cmpD x.d y.d = 0) (hd : x.data ≠ y.data) : R = none := by
  unfold UR at h
  rw [h, uniF, if_pos hc, if_neg hd]; rfl
theorem UR.fin {R : Option (List Itm)} {f : Nat} {l : List Itm} (h : UR R f l [] []) : R = some l := by
  unfold UR at h
  rw [h, uniF_nil]; simp
theorem its_one {W : World} {b : Nat} {x1 x2 : Int} {dt : List UInt8} (hk : BK b #[.int .u64 x1, .int .u64 x2, .string ⟨dt.toArray⟩] 79 W) : Its W.heap.size W (some ⟨b, 0, none⟩) [(⟨(x1, x2), dt⟩ : Itm)] := fun i hi => by
  obtain rfl : i = 0 := by simp at hi; omega
  exact ⟨_, 0, rfl, hk.lt, by rw [Nat.zero_mul, hk.cell]; rfl, by rw [Nat.zero_mul, hk.cell]; rfl, by rw [Nat.zero_mul, hk.cell]; rfl⟩
/-- One item behind a row. -/
theorem append_itm {W : World} {base : Nat} {v : Value} {xs : List Itm} (hown : W.ownsRow base 79 3 v xs.length (icells xs)) (d : Int × Int) (dt : List UInt8) (hlen : (xs.length : Int) ≤ 100000000) (hbase : base ≤ W.heap.size) :
    ∃ v' W', (Builtin.append_ #[23, 23] 23 #[v, .slice (some ⟨W.heap.size, 0, none⟩) 1 1]).run Tryz.prog (W.alloc (.cells #[.int .u64 d.1, .int .u64 d.2, .string ⟨dt.toArray⟩] 79)) = .ok v' W' ∧ W'.ownsRow base 79 3 v' (xs ++ [(⟨d, dt⟩ : Itm)]).length (icells (xs ++ [(⟨d, dt⟩ : Itm)])) ∧ (W.alloc (.cells #[.int .u64 d.1, .int .u64 d.2, .string ⟨dt.toArray⟩] 79)).grownBy W' v.ownBlock := by
  obtain ⟨d1, d2⟩ := d
  obtain ⟨v', W', h1, h2, h3, _⟩ := append_its (W.alloc (.cells #[.int .u64 d1, .int .u64 d2, .string ⟨dt.toArray⟩] 79)) base 23 v xs (hown.alloc _) (some ⟨W.heap.size, 0, none⟩) [(⟨(d1, d2), dt⟩ : Itm)] 1 (its_one (BK.new W #[.int .u64 d1, .int .u64 d2, .string ⟨dt.toArray⟩] 79)) (by simp; omega) (by simp; omega)
  exact ⟨v', W', h1, h2, h3⟩

end Go.Proofs.YtgdhkcocdmdoaaaGreat
