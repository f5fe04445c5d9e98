/- pool.Has, pool.Get, pool.checkItem. -/
import Derived.Test.YtlfodnehgedpmaaPoIn
namespace Go.Proofs.Ytlfodnehgedpmaa
open Go.RowKit Go.Shelf
set_option linter.unusedVariables false

def hasS (xs : List Itm) (d : Int × Int) : Bool := hitB xs d (posI xs d)
/-- The object with a digest. -/
def getS (xs : List Itm) (d : Int × Int) : Ob × Int :=
  match xs[posI xs d]? with
  | some y => if y.d = d then decodeS y.data else (obZ, 8)
  | none => (obZ, 8)
theorem getS_miss {xs : List Itm} {d : Int × Int} {k : Nat} (h : At xs d k) (hh : hitB xs d k = false) : getS xs d = (obZ, 8) := by
  unfold getS
  rw [← h.eq]
  unfold hitB at hh
  split
  · rename_i y hy
    rw [hy] at hh
    simp only at hh
    rw [if_neg (by simpa using hh)]
  · rfl
theorem getS_hit {xs : List Itm} {d : Int × Int} {k : Nat} (h : At xs d k) (hh : hitB xs d k = true) : ∃ hk : k < xs.length, xs[k].d = d ∧ getS xs d = decodeS xs[k].data := by
  unfold hitB at hh
  cases hy : xs[k]? with
  | none => rw [hy] at hh; cases hh
  | some y =>
    rw [hy] at hh
    simp only [decide_eq_true_eq] at hh
    obtain ⟨hk, rfl⟩ := List.getElem?_eq_some_iff.1 hy
    refine ⟨hk, hh, ?_⟩
    unfold getS
    rw [← h.eq, hy]
    simp only
    rw [if_pos hh]
/-- A pool's slice. -/
structure PoolIn (w : World) (a : Option Addr) (xs : List Itm) (c : Nat) : Prop where
  its : Its w.heap.size w a xs
  cap : xs.length ≤ c
  len : (xs.length : Int) ≤ 100000000
  dat : ∀ x ∈ xs, (x.data.length : Int) ≤ 140737488355328
theorem PoolIn.below {w W : World} {a : Option Addr} {xs : List Itm} {c : Nat} (h : PoolIn w a xs c) (hb : Below w.heap.size w W) : PoolIn W a xs c := ⟨h.its.ahead hb, h.cap, h.len, h.dat⟩

set_option maxRecDepth 100000 in
set_option maxHeartbeats 2000000 in
theorem get_any (a : Option Addr) (xs : List Itm) (c : Nat) (d1 d2 : Int) (w : World) (hp : PoolIn w a xs c) (ha : Asc xs) :
    Calls Try.prog 15 #[.slice a xs.length c, .agg #[.int .u64 d1, .int .u64 d2]] w (GotO w (getS xs (d1, d2)).1 (getS xs (d1, d2)).2) := by
  have HF := Lib.hid (fun W (hW : Below w.heap.size w W) => find_any a xs c d1 d2 W (hp.below hW).its ha (by have := hp.len; omega))
  obtain ⟨n, hnn⟩ : ∃ n, n = xs.length := ⟨_, rfl⟩
  have HN := Lib.hid hnn
  rw [← hnn] at HF ⊢
  have HP := Lib.hid hp
  clear hnn hp ha
  go_enter Try.func15, Try.ntmps15
  go_wp2_with fail
  have hx := HF.out ((w.alloc (.cells #[.int .u64 d1, .int .u64 d2] 30)).alloc (.cells #[.int .i64 0, .string ⟨#[]⟩, .slice none 0 0, .int .u64 0, .int .u64 0, .slice none 0 0, .string ⟨#[]⟩, .int .i64 0, .string ⟨#[]⟩] 33)) (((Below.refl _ w).alloc (Nat.le_refl _) _).alloc (by simp) _)
  (with_reducible refine hx.mono ?_)
  clear hx HF
  rintro e u ⟨k, rfl, hat, hb⟩
  have HAT := Lib.hid hat
  have hkn : k ≤ n := by have := hat.le; have := HN.out; omega
  have HRS : Hid (BK (w.heap.size + 1) #[.int .i64 0, .string ⟨#[]⟩, .slice none 0 0, .int .u64 0, .int .u64 0, .slice none 0 0, .string ⟨#[]⟩, .int .i64 0, .string ⟨#[]⟩] 33 u) := Lib.hid ((BK.new2 _ _ _ _).below hb)
  have HB : Hid (Below w.heap.size w u) := Lib.hid ((((Below.refl _ w).alloc (Nat.le_refl _) _).alloc (by simp) _).trans (hb.mono (by simp; omega)))
  have hus : w.heap.size + 2 ≤ u.heap.size := by have := hb.size; simpa using this
  clear hat hb
  cases hh : hitB xs (d1, d2) k with
  | false =>
    have HR := Lib.hid (getS_miss HAT.out hh)
    clear hh
    have r0 : u.cell? ⟨w.heap.size + 1, 0, none⟩ = some (.int .i64 0) := by rw [HRS.out.cell]; rfl
    have g0 : u.frozen? ⟨w.heap.size + 1, 0, none⟩ = false := HRS.out.frozen 0
    have r1 : u.cell? ⟨w.heap.size + 1, 1, none⟩ = some (.string ⟨#[]⟩) := by rw [HRS.out.cell]; rfl
    have g1 : u.frozen? ⟨w.heap.size + 1, 1, none⟩ = false := HRS.out.frozen 1
    have r2 : u.cell? ⟨w.heap.size + 1, 2, none⟩ = some (.slice none 0 0) := by rw [HRS.out.cell]; rfl
    have g2 : u.frozen? ⟨w.heap.size + 1, 2, none⟩ = false := HRS.out.frozen 2
    have r3 : u.cell? ⟨w.heap.size + 1, 3, none⟩ = some (.int .u64 0) := by rw [HRS.out.cell]; rfl
    have g3 : u.frozen? ⟨w.heap.size + 1, 3, none⟩ = false := HRS.out.frozen 3
    have r4 : u.cell? ⟨w.heap.size + 1, 4, none⟩ = some (.int .u64 0) := by rw [HRS.out.cell]; rfl
    have g4 : u.frozen? ⟨w.heap.size + 1, 4, none⟩ = false := HRS.out.frozen 4
    have r5 : u.cell? ⟨w.heap.size + 1, 5, none⟩ = some (.slice none 0 0) := by rw [HRS.out.cell]; rfl
    have g5 : u.frozen? ⟨w.heap.size + 1, 5, none⟩ = false := HRS.out.frozen 5
    have r6 : u.cell? ⟨w.heap.size + 1, 6, none⟩ = some (.string ⟨#[]⟩) := by rw [HRS.out.cell]; rfl
    have g6 : u.frozen? ⟨w.heap.size + 1, 6, none⟩ = false := HRS.out.frozen 6
    have r7 : u.cell? ⟨w.heap.size + 1, 7, none⟩ = some (.int .i64 0) := by rw [HRS.out.cell]; rfl
    have g7 : u.frozen? ⟨w.heap.size + 1, 7, none⟩ = false := HRS.out.frozen 7
    have r8 : u.cell? ⟨w.heap.size + 1, 8, none⟩ = some (.string ⟨#[]⟩) := by rw [HRS.out.cell]; rfl
    have g8 : u.frozen? ⟨w.heap.size + 1, 8, none⟩ = false := HRS.out.frozen 8
    go_wp2_with fail
    refine bodyPost_ret (v := .tuple #[obZ.val none 0 none 0, .int .i64 8]) (by simp [results, Try.results15, go_sem, obZ, r0, r1, r2, r3, r4, r5, r6, r7, r8]) rfl ?_
    rw [HR.out]
    exact ⟨none, 0, none, 0, rfl, ObOwn.zero _ _, ((((((((HB.out.setCell (by simp) _).setCell (by simp) _).setCell (by simp) _).setCell (by simp) _).setCell (by simp) _).setCell (by simp) _).setCell (by simp) _).setCell (by simp) _).setCell (by simp) _⟩
  | true =>
    obtain ⟨hk, hxd, hR⟩ := getS_hit HAT.out hh
    obtain ⟨p0, o0, rfl, hp0, q0, q1, q2⟩ := (HP.out.its.ahead HB.out) k hk
    have hdl := HP.out.dat _ (List.getElem_mem hk)
    clear hh hxd
    have hkn' : (k : Int) < (n : Int) := by have := HN.out; omega
    generalize xs[k] = y at hR q0 q1 q2 hdl
    obtain ⟨⟨y1, y2⟩, yd⟩ := y
    simp only at hR q0 q1 q2 hdl
    have HD := Lib.hid (fun W => decode_any yd W hdl)
    have HR := Lib.hid hR
    clear hR
    generalize decodeS yd = D at HD HR
    obtain ⟨o, er⟩ := D
    simp only at HD HR
    go_wp2_with fail
    have hx := HD.out u
    (with_reducible refine hx.mono ?_)
    clear hx HD
    rintro e v ⟨ea, ec, pa, pc, rfl, hob, hb⟩
    have HOB := Lib.hid hob
    have HB2 := Lib.hid hb
    have HRS2 := Lib.hid (HRS.out.below hb)
    have hvs := hb.size
    clear hob hb q0 q1 q2
    obtain ⟨kind, data, ents, ⟨t1, t2⟩, pars, author, time, msg⟩ := o
    have HF : Hid (∀ (W : World), v.grownBy W (some (w.heap.size + 1)) → Below w.heap.size w W → GotO w (getS xs (d1, d2)).1 (getS xs (d1, d2)).2 (.returned (.tuple #[.agg #[.int .i64 kind, .string ⟨data.toArray⟩, .slice ea ents.length ec, .int .u64 t1, .int .u64 t2, .slice pa pars.length pc, .string ⟨author.toArray⟩, .int .i64 time, .string ⟨msg.toArray⟩], .int .i64 er])) W) := Lib.hid (fun W h1 h2 => by
      rw [HR.out]
      exact ⟨ea, ec, pa, pc, rfl, (HOB.out.kept h1 (by omega)).le (by omega), h2⟩)
    simp only [Ob.val]
    generalize ents.length = ne at HF ⊢
    generalize pars.length = np at HF ⊢
    have r0 : v.cell? ⟨w.heap.size + 1, 0, none⟩ = some (.int .i64 0) := by rw [HRS2.out.cell]; rfl
    have g0 : v.frozen? ⟨w.heap.size + 1, 0, none⟩ = false := HRS2.out.frozen 0
    have r1 : v.cell? ⟨w.heap.size + 1, 1, none⟩ = some (.string ⟨#[]⟩) := by rw [HRS2.out.cell]; rfl
    have g1 : v.frozen? ⟨w.heap.size + 1, 1, none⟩ = false := HRS2.out.frozen 1
    have r2 : v.cell? ⟨w.heap.size + 1, 2, none⟩ = some (.slice none 0 0) := by rw [HRS2.out.cell]; rfl
    have g2 : v.frozen? ⟨w.heap.size + 1, 2, none⟩ = false := HRS2.out.frozen 2
    have r3 : v.cell? ⟨w.heap.size + 1, 3, none⟩ = some (.int .u64 0) := by rw [HRS2.out.cell]; rfl
    have g3 : v.frozen? ⟨w.heap.size + 1, 3, none⟩ = false := HRS2.out.frozen 3
    have r4 : v.cell? ⟨w.heap.size + 1, 4, none⟩ = some (.int .u64 0) := by rw [HRS2.out.cell]; rfl
    have g4 : v.frozen? ⟨w.heap.size + 1, 4, none⟩ = false := HRS2.out.frozen 4
    have r5 : v.cell? ⟨w.heap.size + 1, 5, none⟩ = some (.slice none 0 0) := by rw [HRS2.out.cell]; rfl
    have g5 : v.frozen? ⟨w.heap.size + 1, 5, none⟩ = false := HRS2.out.frozen 5
    have r6 : v.cell? ⟨w.heap.size + 1, 6, none⟩ = some (.string ⟨#[]⟩) := by rw [HRS2.out.cell]; rfl
    have g6 : v.frozen? ⟨w.heap.size + 1, 6, none⟩ = false := HRS2.out.frozen 6
    have r7 : v.cell? ⟨w.heap.size + 1, 7, none⟩ = some (.int .i64 0) := by rw [HRS2.out.cell]; rfl
    have g7 : v.frozen? ⟨w.heap.size + 1, 7, none⟩ = false := HRS2.out.frozen 7
    have r8 : v.cell? ⟨w.heap.size + 1, 8, none⟩ = some (.string ⟨#[]⟩) := by rw [HRS2.out.cell]; rfl
    have g8 : v.frozen? ⟨w.heap.size + 1, 8, none⟩ = false := HRS2.out.frozen 8
    go_wp2_with fail
    refine bodyPost_ret (v := .tuple #[.agg #[.int .i64 kind, .string ⟨data.toArray⟩, .slice ea ne ec, .int .u64 t1, .int .u64 t2, .slice pa np pc, .string ⟨author.toArray⟩, .int .i64 time, .string ⟨msg.toArray⟩], .int .i64 er]) (by simp [results, Try.results15, go_sem, r0, r1, r2, r3, r4, r5, r6, r7, r8]) rfl ?_
    refine HF.out _ ?_ ?_
    · exact (gown (gown (gown (gown (gown (gown (gown (gown (gset _ _ _ _) _ _) _ _) _ _) _ _) _ _) _ _) _ _) _ _)
    · have hbb : Below w.heap.size w v := HB.out.trans (HB2.out.mono (by omega))
      exact ((((((((hbb.setCell (by simp) _).setCell (by simp) _).setCell (by simp) _).setCell (by simp) _).setCell (by simp) _).setCell (by simp) _).setCell (by simp) _).setCell (by simp) _).setCell (by simp) _

/-- The error of an item. -/
def chkI (x : Itm) : Int := if (decodeS x.data).2 ≠ 0 then 13 else if digS x.data ≠ x.d then 15 else 0
end Go.Proofs.Ytlfodnehgedpmaa
