/- The walk of the statement PoolPut. -/
import Derived.Test.YtlfodnehgedpmaaGreatRpI
namespace Go.Proofs.YtlfodnehgedpmaaGreat.poolPut
open Go.RowKit Go.Shelf
set_option linter.unusedVariables false

theorem bt {a b c : World} (h1 : Below a.heap.size a b) (h2 : Below b.heap.size b c) : Below a.heap.size a c := h1.trans (h2.mono h1.size)
theorem ObCame.below {W W' : World} {o : Ob} {ea : Option Addr} {ec : Nat} {pa : Option Addr} {pc : Nat} (h : ObCame W o ea ec pa pc) (hb : Below W.heap.size W W') : ObCame W' o ea ec pa pc :=
  ⟨(h.ents.below hb (Nat.le_refl _)).mono hb.size, (h.pars.below hb (Nat.le_refl _)).mono hb.size, h.ecap, h.pcap, h.ok, h.enam, h.dlen, h.alen, h.mlen⟩
theorem ins_len (xs : List Itm) (x : Itm) : (insS xs x).1.length ≤ xs.length + 1 := by
  have h : (xs.take (posI xs x.d) ++ (x :: xs.drop (posI xs x.d))).length ≤ xs.length + 1 := by
    simp only [List.length_append, List.length_take, List.length_cons, List.length_drop]; omega
  unfold insS
  split
  · split
    · split
      · simp
      · simp
    · exact h
  · exact h
theorem put_len (xs : List Itm) (o : Ob) : (putS xs o).1.length ≤ xs.length + 1 := by
  unfold putS
  split
  · simp
  · split
    · simp
    · exact ins_len _ _
theorem add_len (xs : List Itm) (x : Itm) : (addS xs x).1.length ≤ xs.length + 1 := by
  unfold addS
  split
  · simp
  · exact ins_len _ _

set_option maxRecDepth 100000 in
set_option maxHeartbeats 8000000 in
theorem walk (a : Option Addr) (xs : List Itm) (c : Nat) (o : Ob) (ea : Option Addr) (ec : Nat) (pa : Option Addr) (pc : Nat) (x y : Int) (s : ByteArray) (ws : s.size ≤ maxLen) (w : World) (hp : PoolCame w a xs c) (ho : ObCame w o ea ec pa pc) (hd : OkD (x, y)) :
    Calls Tryz.prog 6 #[.slice a xs.length c, o.val ea ec pa pc, .agg #[.int .u64 x, .int .u64 y], .string s] w fun e w' => e = .returned (.bool true) ∧ Below w.heap.size w w' := by
  obtain ⟨T, rfl⟩ : ∃ T : List UInt8, s = ⟨T.toArray⟩ := ⟨s.data.toList, ba_eq rfl⟩
  rw [ba_len] at ws
  have hml := hp.cap
  unfold maxLen at hml ws
  have HFN := Lib.hid (fun W (hW : Below w.heap.size w W) => fine_any a xs c W (hp.its.ahead hW) (by omega) (fun x hx => by have := (hp.dat x hx).2; unfold maxLen at this; omega))
  have HA := Lib.hid (fun W => awake_any W)
  have HP := Lib.hid (fun (hg : fineB xs = true) W (hW : Below w.heap.size w W) => (show PoolIn W a xs c from ⟨hp.its.ahead hW, hp.cap.1, by have := (fineB_true hg).1; omega, fun x hx => by have := (fineB_true hg).2.1 x hx; omega⟩))
  have HAS := Lib.hid (fun (hg : fineB xs = true) => (fineB_true hg).2.2.2.1)
  have HXL := Lib.hid (fun (hg : fineB xs = true) => (fineB_true hg).1)
  have HXD := Lib.hid (fun (hg : fineB xs = true) => (fineB_true hg).2.1)
  have HGR := Lib.hid (fun W (hW : Below w.heap.size w W) => great_any o ea ec pa pc W (ObCame.below ho hW))
  have HOI := Lib.hid (fun W (hW : Below w.heap.size w W) => (ObCame.below ho hW).inn)
  have HOK := Lib.hid ho.ok
  clear hp ho
  have HPUT := Lib.hid (fun (hg : fineB xs = true) W hW => put_any a xs c o ea ec pa pc W (HP.out hg W hW) (HAS.out hg) (HOI.out W hW))
  have HRPUT := Lib.hid (fun (hg : fineB xs = true) W hW => rput_any a xs c o ea ec pa pc W (HP.out hg W hW) (HAS.out hg) (HOI.out W hW) HOK.out (by have := HXL.out hg; omega))
  have HPL := Lib.hid (put_len xs o)
  generalize putS xs o = P at HPUT HRPUT HPL
  obtain ⟨zs, ⟨n1, n2⟩, gk⟩ := P
  generalize greatS o = gt at HGR
  obtain ⟨kind, data, ents, ⟨t1, t2⟩, pars, author, time, msg⟩ := o
  simp only [Ob.val] at HGR HPUT HRPUT HPL ⊢
  generalize ents.length = ne at HGR HPUT HRPUT ⊢
  generalize hnp : pars.length = n at HGR HPUT HRPUT ⊢
  clear hnp HOI HOK
  obtain ⟨w0, hw0⟩ : ∃ w0, w0 = (w.alloc (.cells #[.int .i64 kind, .string ⟨data.toArray⟩, .slice ea ne ec, .int .u64 t1, .int .u64 t2, .slice pa n pc, .string ⟨author.toArray⟩, .int .i64 time, .string ⟨msg.toArray⟩] 35)).alloc (.cells #[.int .u64 x, .int .u64 y] 26) := ⟨_, rfl⟩
  have HK0 : Hid (BK w.heap.size #[.int .i64 kind, .string ⟨data.toArray⟩, .slice ea ne ec, .int .u64 t1, .int .u64 t2, .slice pa n pc, .string ⟨author.toArray⟩, .int .i64 time, .string ⟨msg.toArray⟩] 35 w0) := Lib.hid (by rw [hw0]; exact (BK.new _ _ _).alloc _)
  have HE0 : Hid (BK (w.heap.size + 1) #[.int .u64 x, .int .u64 y] 26 w0) := Lib.hid (by rw [hw0]; exact BK.new2 _ _ _ _)
  have HB0 : Hid (Below w.heap.size w w0) := Lib.hid (by rw [hw0]; exact ((Below.refl _ w).alloc (Nat.le_refl _) _).alloc (by simp) _)
  have HF0 := Lib.hid (HFN.out w0 HB0.out)
  rw [hw0] at HF0
  have HW0 := Lib.hid hw0
  clear hw0 HFN
  cases hg : fineB xs with
  | false =>
    rw [hg] at HF0
    clear HP HAS HXL HXD HPUT HRPUT hg
    generalize xs.length = m at HF0 hml ⊢
    go_enter Tryz.func6, Tryz.ntmps6
    go_wp2_with fail
    (with_reducible refine (HF0.out).mono ?_)
    rintro e u ⟨rfl, hb⟩
    rw [← HW0.out] at hb
    have HB1 := Lib.hid (HB0.out.trans (hb.mono HB0.out.size))
    clear hb
    go_wp2_with fail
    (with_reducible refine (HA.out _).mono ?_)
    rintro e u2 ⟨rfl, hb⟩
    have HB2 := Lib.hid (HB1.out.trans (hb.mono HB1.out.size))
    clear hb
    go_wp2_with fail
    go_ret
    exact ⟨rfl, HB2.out⟩
  | true =>
    rw [hg] at HF0
    have HP2 := Lib.hid (HP.out hg)
    have HAS2 := Lib.hid (HAS.out hg)
    have HXL2 := Lib.hid (HXL.out hg)
    have HXD2 := Lib.hid (HXD.out hg)
    have HPU := Lib.hid (HPUT.out hg)
    have HRPU := Lib.hid (HRPUT.out hg)
    clear HP HAS HXL HXD HPUT HRPUT hg
    obtain ⟨m, hmm⟩ : ∃ m, m = xs.length := ⟨_, rfl⟩
    have HN := Lib.hid hmm
    rw [← hmm] at HF0 hml HPU HRPU ⊢
    clear hmm
    cases gt with
    | true =>
      go_enter Tryz.func6, Tryz.ntmps6
      go_wp2_with fail
      (with_reducible refine (HF0.out).mono ?_)
      rintro e u ⟨rfl, hb⟩
      rw [← HW0.out] at hb
      have HB1 := Lib.hid (HB0.out.trans (hb.mono HB0.out.size))
      have HK1 := Lib.hid (HK0.out.below hb)
      have e0 : u.cell? ⟨w.heap.size, 0, none⟩ = some (.int .i64 kind) := by rw [HK1.out.cell]; rfl
      have e1 : u.cell? ⟨w.heap.size, 1, none⟩ = some (.string ⟨data.toArray⟩) := by rw [HK1.out.cell]; rfl
      have e2 : u.cell? ⟨w.heap.size, 2, none⟩ = some (.slice ea ne ec) := by rw [HK1.out.cell]; rfl
      have e3 : u.cell? ⟨w.heap.size, 3, none⟩ = some (.int .u64 t1) := by rw [HK1.out.cell]; rfl
      have e4 : u.cell? ⟨w.heap.size, 4, none⟩ = some (.int .u64 t2) := by rw [HK1.out.cell]; rfl
      have e5 : u.cell? ⟨w.heap.size, 5, none⟩ = some (.slice pa n pc) := by rw [HK1.out.cell]; rfl
      have e6 : u.cell? ⟨w.heap.size, 6, none⟩ = some (.string ⟨author.toArray⟩) := by rw [HK1.out.cell]; rfl
      have e7 : u.cell? ⟨w.heap.size, 7, none⟩ = some (.int .i64 time) := by rw [HK1.out.cell]; rfl
      have e8 : u.cell? ⟨w.heap.size, 8, none⟩ = some (.string ⟨msg.toArray⟩) := by rw [HK1.out.cell]; rfl
      clear hb HF0
      have HG1 := Lib.hid (HGR.out u HB1.out)
      go_wp2_with fail
      (with_reducible refine (HG1.out).mono ?_)
      rintro e u2 ⟨rfl, hb⟩
      have HB2 := Lib.hid (HB1.out.trans (hb.mono HB1.out.size))
      clear hb
      go_wp2_with fail
      (with_reducible refine (HA.out _).mono ?_)
      rintro e u3 ⟨rfl, hb⟩
      have HB3 := Lib.hid (HB2.out.trans (hb.mono HB2.out.size))
      clear hb
      go_wp2_with fail
      go_ret
      exact ⟨rfl, HB3.out⟩
    | false =>
      by_cases h5 : (500 : Int) < T.length
      · have d5 : decide ((500 : Int) < (T.length : Int)) = true := by simpa using h5
        go_enter Tryz.func6, Tryz.ntmps6
        go_wp2_with fail
        (with_reducible refine (HF0.out).mono ?_)
        rintro e u ⟨rfl, hb⟩
        rw [← HW0.out] at hb
        have HB1 := Lib.hid (HB0.out.trans (hb.mono HB0.out.size))
        have HK1 := Lib.hid (HK0.out.below hb)
        have e0 : u.cell? ⟨w.heap.size, 0, none⟩ = some (.int .i64 kind) := by rw [HK1.out.cell]; rfl
        have e1 : u.cell? ⟨w.heap.size, 1, none⟩ = some (.string ⟨data.toArray⟩) := by rw [HK1.out.cell]; rfl
        have e2 : u.cell? ⟨w.heap.size, 2, none⟩ = some (.slice ea ne ec) := by rw [HK1.out.cell]; rfl
        have e3 : u.cell? ⟨w.heap.size, 3, none⟩ = some (.int .u64 t1) := by rw [HK1.out.cell]; rfl
        have e4 : u.cell? ⟨w.heap.size, 4, none⟩ = some (.int .u64 t2) := by rw [HK1.out.cell]; rfl
        have e5 : u.cell? ⟨w.heap.size, 5, none⟩ = some (.slice pa n pc) := by rw [HK1.out.cell]; rfl
        have e6 : u.cell? ⟨w.heap.size, 6, none⟩ = some (.string ⟨author.toArray⟩) := by rw [HK1.out.cell]; rfl
        have e7 : u.cell? ⟨w.heap.size, 7, none⟩ = some (.int .i64 time) := by rw [HK1.out.cell]; rfl
        have e8 : u.cell? ⟨w.heap.size, 8, none⟩ = some (.string ⟨msg.toArray⟩) := by rw [HK1.out.cell]; rfl
        clear hb HF0
        have HG1 := Lib.hid (HGR.out u HB1.out)
        go_wp2_with fail
        (with_reducible refine (HG1.out).mono ?_)
        rintro e u2 ⟨rfl, hb⟩
        have HB2 := Lib.hid (HB1.out.trans (hb.mono HB1.out.size))
        clear hb
        go_wp2_with fail
        (with_reducible refine (HA.out _).mono ?_)
        rintro e u3 ⟨rfl, hb⟩
        have HB3 := Lib.hid (HB2.out.trans (hb.mono HB2.out.size))
        clear hb
        go_wp2_with fail
        go_ret
        exact ⟨rfl, HB3.out⟩
      · have d5 : decide ((500 : Int) < (T.length : Int)) = false := by simpa using h5
        have HADD := Lib.hid (fun W (hW : Below w.heap.size w W) => add_any a xs c x y T W (HP2.out W hW) HAS2.out (by omega))
        have HRADD := Lib.hid (fun W (hW : Below w.heap.size w W) => radd_any a xs c x y T W (HP2.out W hW) HAS2.out (by omega) (by have := HXL2.out; omega))
        have HAL := Lib.hid (add_len xs ⟨(x, y), T⟩)
        have HGET := Lib.hid (fun W (hW : Below w.heap.size w W) => get_any a xs c x y W (HP2.out W hW) HAS2.out)
        have HRGET := Lib.hid (fun W (hW : Below w.heap.size w W) => rget_any a xs c x y W (HP2.out W hW).its HAS2.out (by have := HXL2.out; omega) (fun x hx => by have := HXD2.out x hx; omega))
        have HHAS := Lib.hid (fun W (hW : Below w.heap.size w W) => has_any a xs c x y W (HP2.out W hW) HAS2.out)
        have HRHAS := Lib.hid (fun W (hW : Below w.heap.size w W) => rhas_any a xs c x y W (HP2.out W hW).its HAS2.out (by have := HXL2.out; omega))
        rw [← HN.out] at HADD HRADD HGET HRGET HHAS HRHAS
        generalize addS xs ⟨(x, y), T⟩ = AD at HADD HRADD HAL
        generalize getS xs (x, y) = G at HGET HRGET
        generalize hasS xs (x, y) = hb0 at HHAS HRHAS
        obtain ⟨ys, ek⟩ := AD
        obtain ⟨g, gr⟩ := G
        simp only at HADD HRADD HAL HGET HRGET
        clear HP2 HAS2 HXD2
        go_enter Tryz.func6, Tryz.ntmps6
        go_wp2_with fail
        (with_reducible refine (HF0.out).mono ?_)
        rintro e u ⟨rfl, hb⟩
        rw [← HW0.out] at hb
        have HB1 := Lib.hid (HB0.out.trans (hb.mono HB0.out.size))
        have HK1 := Lib.hid (HK0.out.below hb)
        have HE1 := Lib.hid (HE0.out.below hb)
        have e0 : u.cell? ⟨w.heap.size, 0, none⟩ = some (.int .i64 kind) := by rw [HK1.out.cell]; rfl
        have e1 : u.cell? ⟨w.heap.size, 1, none⟩ = some (.string ⟨data.toArray⟩) := by rw [HK1.out.cell]; rfl
        have e2 : u.cell? ⟨w.heap.size, 2, none⟩ = some (.slice ea ne ec) := by rw [HK1.out.cell]; rfl
        have e3 : u.cell? ⟨w.heap.size, 3, none⟩ = some (.int .u64 t1) := by rw [HK1.out.cell]; rfl
        have e4 : u.cell? ⟨w.heap.size, 4, none⟩ = some (.int .u64 t2) := by rw [HK1.out.cell]; rfl
        have e5 : u.cell? ⟨w.heap.size, 5, none⟩ = some (.slice pa n pc) := by rw [HK1.out.cell]; rfl
        have e6 : u.cell? ⟨w.heap.size, 6, none⟩ = some (.string ⟨author.toArray⟩) := by rw [HK1.out.cell]; rfl
        have e7 : u.cell? ⟨w.heap.size, 7, none⟩ = some (.int .i64 time) := by rw [HK1.out.cell]; rfl
        have e8 : u.cell? ⟨w.heap.size, 8, none⟩ = some (.string ⟨msg.toArray⟩) := by rw [HK1.out.cell]; rfl
        clear hb HF0 HW0 HB0 HK0 HE0
        have HG1 := Lib.hid (HGR.out u HB1.out)
        go_wp2_with fail
        (with_reducible refine (HG1.out).mono ?_)
        rintro e u1 ⟨rfl, hb⟩
        have HB2 := Lib.hid (bt HB1.out hb)
        have HK2 := Lib.hid (HK1.out.below hb)
        have HE2 := Lib.hid (HE1.out.below hb)
        clear hb HG1 HGR HB1 HK1 HE1 e0 e1 e2 e3 e4 e5 e6 e7 e8
        have e0 : u1.cell? ⟨w.heap.size, 0, none⟩ = some (.int .i64 kind) := by rw [HK2.out.cell]; rfl
        have e1 : u1.cell? ⟨w.heap.size, 1, none⟩ = some (.string ⟨data.toArray⟩) := by rw [HK2.out.cell]; rfl
        have e2 : u1.cell? ⟨w.heap.size, 2, none⟩ = some (.slice ea ne ec) := by rw [HK2.out.cell]; rfl
        have e3 : u1.cell? ⟨w.heap.size, 3, none⟩ = some (.int .u64 t1) := by rw [HK2.out.cell]; rfl
        have e4 : u1.cell? ⟨w.heap.size, 4, none⟩ = some (.int .u64 t2) := by rw [HK2.out.cell]; rfl
        have e5 : u1.cell? ⟨w.heap.size, 5, none⟩ = some (.slice pa n pc) := by rw [HK2.out.cell]; rfl
        have e6 : u1.cell? ⟨w.heap.size, 6, none⟩ = some (.string ⟨author.toArray⟩) := by rw [HK2.out.cell]; rfl
        have e7 : u1.cell? ⟨w.heap.size, 7, none⟩ = some (.int .i64 time) := by rw [HK2.out.cell]; rfl
        have e8 : u1.cell? ⟨w.heap.size, 8, none⟩ = some (.string ⟨msg.toArray⟩) := by rw [HK2.out.cell]; rfl
        have HC1 := Lib.hid (HPU.out u1 HB2.out)
        clear HPU
        go_wp2_with fail
        (with_reducible refine (HC1.out).mono ?_)
        rintro e u2 ⟨ra, rc, rfl, hpo⟩
        have HI1 := Lib.hid hpo.1
        have HB3 := Lib.hid (bt HB2.out hpo.2.2.2)
        have HK3 := Lib.hid (HK2.out.below hpo.2.2.2)
        have HE3 := Lib.hid (HE2.out.below hpo.2.2.2)
        clear hpo HC1 HB2 HK2 HE2 e0 e1 e2 e3 e4 e5 e6 e7 e8
        obtain ⟨u3, hu3⟩ : ∃ u3, u3 = u2.alloc (.cells #[.int .u64 n1, .int .u64 n2] 26) := ⟨_, rfl⟩
        have hs3 : Below u2.heap.size u2 u3 := by rw [hu3]; exact (Below.refl _ _).alloc (Nat.le_refl _) _
        have HN3 : Hid (BK u2.heap.size #[.int .u64 n1, .int .u64 n2] 26 u3) := Lib.hid (by rw [hu3]; exact BK.new _ _ _)
        have HI3 := Lib.hid (HI1.out.ahead hs3)
        have HB4 := Lib.hid (bt HB3.out hs3)
        have HK4 := Lib.hid (HK3.out.below hs3)
        have HE4 := Lib.hid (HE3.out.below hs3)
        clear hs3 HI1 HB3 HK3 HE3
        have HC2 := Lib.hid (HRPU.out u3 HB4.out)
        rw [hu3] at HC2
        have e0 : u3.cell? ⟨w.heap.size, 0, none⟩ = some (.int .i64 kind) := by rw [HK4.out.cell]; rfl
        have e1 : u3.cell? ⟨w.heap.size, 1, none⟩ = some (.string ⟨data.toArray⟩) := by rw [HK4.out.cell]; rfl
        have e2 : u3.cell? ⟨w.heap.size, 2, none⟩ = some (.slice ea ne ec) := by rw [HK4.out.cell]; rfl
        have e3 : u3.cell? ⟨w.heap.size, 3, none⟩ = some (.int .u64 t1) := by rw [HK4.out.cell]; rfl
        have e4 : u3.cell? ⟨w.heap.size, 4, none⟩ = some (.int .u64 t2) := by rw [HK4.out.cell]; rfl
        have e5 : u3.cell? ⟨w.heap.size, 5, none⟩ = some (.slice pa n pc) := by rw [HK4.out.cell]; rfl
        have e6 : u3.cell? ⟨w.heap.size, 6, none⟩ = some (.string ⟨author.toArray⟩) := by rw [HK4.out.cell]; rfl
        have e7 : u3.cell? ⟨w.heap.size, 7, none⟩ = some (.int .i64 time) := by rw [HK4.out.cell]; rfl
        have e8 : u3.cell? ⟨w.heap.size, 8, none⟩ = some (.string ⟨msg.toArray⟩) := by rw [HK4.out.cell]; rfl
        rw [hu3] at e0 e1 e2 e3 e4 e5 e6 e7 e8
        have HU3 := Lib.hid hu3
        clear HRPU hu3
        go_wp2_with fail
        (with_reducible refine (HC2.out).mono ?_)
        rintro e u4 ⟨rb, rd, rfl, hpo⟩
        have hs4 := hpo.2.2.2
        rw [← HU3.out] at hs4
        have HI4 := Lib.hid (HI3.out.ahead hs4)
        have HJ4 := Lib.hid hpo.1
        have HN4 := Lib.hid (HN3.out.below hs4)
        have HB5 := Lib.hid (bt HB4.out hs4)
        have HE5 := Lib.hid (HE4.out.below hs4)
        clear hpo hs4 HC2 HU3 HI3 HN3 HB4 HK4 HE4 e0 e1 e2 e3 e4 e5 e6 e7 e8
        obtain ⟨u5, hu5⟩ : ∃ u5, u5 = u4.alloc (.cells #[.int .u64 n1, .int .u64 n2] 26) := ⟨_, rfl⟩
        have hs5 : Below u4.heap.size u4 u5 := by rw [hu5]; exact (Below.refl _ _).alloc (Nat.le_refl _) _
        have HM5 : Hid (BK u4.heap.size #[.int .u64 n1, .int .u64 n2] 26 u5) := Lib.hid (by rw [hu5]; exact BK.new _ _ _)
        have HI5 := Lib.hid (HI4.out.ahead hs5)
        have HJ5 := Lib.hid (HJ4.out.ahead hs5)
        have HN5 := Lib.hid (HN4.out.below hs5)
        have HB6 := Lib.hid (bt HB5.out hs5)
        have HE6 := Lib.hid (HE5.out.below hs5)
        clear hs5 HI4 HJ4 HN4 HB5 HE5
        have HC3 := Lib.hid (HADD.out u5 HB6.out)
        rw [hu5] at HC3
        have e0 : u5.cell? ⟨w.heap.size + 1, 0, none⟩ = some (.int .u64 x) := by rw [HE6.out.cell]; rfl
        have e1 : u5.cell? ⟨w.heap.size + 1, 1, none⟩ = some (.int .u64 y) := by rw [HE6.out.cell]; rfl
        rw [hu5] at e0 e1
        have HU5 := Lib.hid hu5
        clear HADD hu5
        go_wp2_with fail
        (with_reducible refine (HC3.out).mono ?_)
        rintro e u6 ⟨rf, rg, rfl, hpo⟩
        have hs6 := hpo.2.2.2
        rw [← HU5.out] at hs6
        have HI6 := Lib.hid (HI5.out.ahead hs6)
        have HJ6 := Lib.hid (HJ5.out.ahead hs6)
        have HL6 := Lib.hid hpo.1
        have HN6 := Lib.hid (HN5.out.below hs6)
        have HM6 := Lib.hid (HM5.out.below hs6)
        have HB7 := Lib.hid (bt HB6.out hs6)
        have HE7 := Lib.hid (HE6.out.below hs6)
        clear hpo hs6 HC3 HU5 HI5 HJ5 HN5 HM5 HB6 HE6 e0 e1
        have HC4 := Lib.hid (HRADD.out u6 HB7.out)
        have e0 : u6.cell? ⟨w.heap.size + 1, 0, none⟩ = some (.int .u64 x) := by rw [HE7.out.cell]; rfl
        have e1 : u6.cell? ⟨w.heap.size + 1, 1, none⟩ = some (.int .u64 y) := by rw [HE7.out.cell]; rfl
        clear HRADD
        go_wp2_with fail
        (with_reducible refine (HC4.out).mono ?_)
        rintro e u7 ⟨rh, rk, rfl, hpo⟩
        have hs7 := hpo.2.2.2
        have HI7 := Lib.hid (HI6.out.ahead hs7)
        have HJ7 := Lib.hid (HJ6.out.ahead hs7)
        have HL7 := Lib.hid (HL6.out.ahead hs7)
        have HQ7 := Lib.hid hpo.1
        have HN7 := Lib.hid (HN6.out.below hs7)
        have HM7 := Lib.hid (HM6.out.below hs7)
        have HB8 := Lib.hid (bt HB7.out hs7)
        have HE8 := Lib.hid (HE7.out.below hs7)
        clear hpo hs7 HC4 HI6 HJ6 HL6 HN6 HM6 HB7 HE7 e0 e1
        have HC5 := Lib.hid (HGET.out u7 HB8.out)
        have e0 : u7.cell? ⟨w.heap.size + 1, 0, none⟩ = some (.int .u64 x) := by rw [HE8.out.cell]; rfl
        have e1 : u7.cell? ⟨w.heap.size + 1, 1, none⟩ = some (.int .u64 y) := by rw [HE8.out.cell]; rfl
        clear HGET
        go_wp2_with fail
        (with_reducible refine (HC5.out).mono ?_)
        rintro e u8 ⟨fa, fc, fp, fq, rfl, hob, hs8⟩
        have HO8 := Lib.hid hob
        have HI8 := Lib.hid (HI7.out.ahead hs8)
        have HJ8 := Lib.hid (HJ7.out.ahead hs8)
        have HL8 := Lib.hid (HL7.out.ahead hs8)
        have HQ8 := Lib.hid (HQ7.out.ahead hs8)
        have HN8 := Lib.hid (HN7.out.below hs8)
        have HM8 := Lib.hid (HM7.out.below hs8)
        have HB9 := Lib.hid (bt HB8.out hs8)
        have HE9 := Lib.hid (HE8.out.below hs8)
        clear hob hs8 HC5 HI7 HJ7 HL7 HQ7 HN7 HM7 HB8 HE8 e0 e1
        obtain ⟨u9, hu9⟩ : ∃ u9, u9 = u8.alloc (.cells #[.int .i64 g.kind, .string ⟨g.data.toArray⟩, .slice fa g.ents.length fc, .int .u64 g.tree.1, .int .u64 g.tree.2, .slice fp g.pars.length fq, .string ⟨g.author.toArray⟩, .int .i64 g.time, .string ⟨g.msg.toArray⟩] 35) := ⟨_, rfl⟩
        have hs9 : Below u8.heap.size u8 u9 := by rw [hu9]; exact (Below.refl _ _).alloc (Nat.le_refl _) _
        have HG9 : Hid (BK u8.heap.size #[.int .i64 g.kind, .string ⟨g.data.toArray⟩, .slice fa g.ents.length fc, .int .u64 g.tree.1, .int .u64 g.tree.2, .slice fp g.pars.length fq, .string ⟨g.author.toArray⟩, .int .i64 g.time, .string ⟨g.msg.toArray⟩] 35 u9) := Lib.hid (by rw [hu9]; exact BK.new _ _ _)
        have HO9 := Lib.hid (HO8.out.below hs9)
        have HI9 := Lib.hid (HI8.out.ahead hs9)
        have HJ9 := Lib.hid (HJ8.out.ahead hs9)
        have HL9 := Lib.hid (HL8.out.ahead hs9)
        have HQ9 := Lib.hid (HQ8.out.ahead hs9)
        have HN9 := Lib.hid (HN8.out.below hs9)
        have HM9 := Lib.hid (HM8.out.below hs9)
        have HB10 := Lib.hid (bt HB9.out hs9)
        have HE10 := Lib.hid (HE9.out.below hs9)
        clear hs9 HO8 HI8 HJ8 HL8 HQ8 HN8 HM8 HB9 HE9
        have HC6 := Lib.hid (HRGET.out u9 HB10.out)
        rw [hu9] at HC6
        have e0 : u9.cell? ⟨w.heap.size + 1, 0, none⟩ = some (.int .u64 x) := by rw [HE10.out.cell]; rfl
        have e1 : u9.cell? ⟨w.heap.size + 1, 1, none⟩ = some (.int .u64 y) := by rw [HE10.out.cell]; rfl
        rw [hu9] at e0 e1
        have HU9 := Lib.hid hu9
        clear HRGET hu9
        go_wp2_with fail
        (with_reducible refine (HC6.out).mono ?_)
        rintro e u10 ⟨ha, hc, hp, hq', rfl, hob, hs10⟩
        rw [← HU9.out] at hs10
        have HP10 := Lib.hid hob
        have HG10 := Lib.hid (HG9.out.below hs10)
        have HO10 := Lib.hid (HO9.out.below hs10)
        have HI10 := Lib.hid (HI9.out.ahead hs10)
        have HJ10 := Lib.hid (HJ9.out.ahead hs10)
        have HL10 := Lib.hid (HL9.out.ahead hs10)
        have HQ10 := Lib.hid (HQ9.out.ahead hs10)
        have HN10 := Lib.hid (HN9.out.below hs10)
        have HM10 := Lib.hid (HM9.out.below hs10)
        have HB11 := Lib.hid (bt HB10.out hs10)
        have HE11 := Lib.hid (HE10.out.below hs10)
        clear hob hs10 HU9 HC6 HG9 HO9 HI9 HJ9 HL9 HQ9 HN9 HM9 HB10 HE10 e0 e1
        obtain ⟨u11, hu11⟩ : ∃ u11, u11 = u10.alloc (.cells #[.int .i64 g.kind, .string ⟨g.data.toArray⟩, .slice ha g.ents.length hc, .int .u64 g.tree.1, .int .u64 g.tree.2, .slice hp g.pars.length hq', .string ⟨g.author.toArray⟩, .int .i64 g.time, .string ⟨g.msg.toArray⟩] 35) := ⟨_, rfl⟩
        have hs11 : Below u10.heap.size u10 u11 := by rw [hu11]; exact (Below.refl _ _).alloc (Nat.le_refl _) _
        have HH11 : Hid (BK u10.heap.size #[.int .i64 g.kind, .string ⟨g.data.toArray⟩, .slice ha g.ents.length hc, .int .u64 g.tree.1, .int .u64 g.tree.2, .slice hp g.pars.length hq', .string ⟨g.author.toArray⟩, .int .i64 g.time, .string ⟨g.msg.toArray⟩] 35 u11) := Lib.hid (by rw [hu11]; exact BK.new _ _ _)
        have HG11 := Lib.hid (HG10.out.below hs11)
        have HO11 := Lib.hid (HO10.out.below hs11)
        have HP11 := Lib.hid (HP10.out.below hs11)
        have HI11 := Lib.hid (HI10.out.ahead hs11)
        have HJ11 := Lib.hid (HJ10.out.ahead hs11)
        have HL11 := Lib.hid (HL10.out.ahead hs11)
        have HQ11 := Lib.hid (HQ10.out.ahead hs11)
        have HN11 := Lib.hid (HN10.out.below hs11)
        have HM11 := Lib.hid (HM10.out.below hs11)
        have HB12 := Lib.hid (bt HB11.out hs11)
        have HE12 := Lib.hid (HE11.out.below hs11)
        have HU11 := Lib.hid hu11
        clear hs11 hu11 HG10 HO10 HP10 HI10 HJ10 HL10 HQ10 HN10 HM10 HB11 HE11
        have e0 : u11.cell? ⟨w.heap.size + 1, 0, none⟩ = some (.int .u64 x) := by rw [HE12.out.cell]; rfl
        have e1 : u11.cell? ⟨w.heap.size + 1, 1, none⟩ = some (.int .u64 y) := by rw [HE12.out.cell]; rfl
        have n'0 : u11.cell? ⟨u2.heap.size, 0, none⟩ = some (.int .u64 n1) := by rw [HN11.out.cell]; rfl
        have n'1 : u11.cell? ⟨u2.heap.size, 1, none⟩ = some (.int .u64 n2) := by rw [HN11.out.cell]; rfl
        have m'0 : u11.cell? ⟨u4.heap.size, 0, none⟩ = some (.int .u64 n1) := by rw [HM11.out.cell]; rfl
        have m'1 : u11.cell? ⟨u4.heap.size, 1, none⟩ = some (.int .u64 n2) := by rw [HM11.out.cell]; rfl
        have g'0 : u11.cell? ⟨u8.heap.size, 0, none⟩ = some (.int .i64 g.kind) := by rw [HG11.out.cell]; rfl
        have g'1 : u11.cell? ⟨u8.heap.size, 1, none⟩ = some (.string ⟨g.data.toArray⟩) := by rw [HG11.out.cell]; rfl
        have g'2 : u11.cell? ⟨u8.heap.size, 2, none⟩ = some (.slice fa g.ents.length fc) := by rw [HG11.out.cell]; rfl
        have g'3 : u11.cell? ⟨u8.heap.size, 3, none⟩ = some (.int .u64 g.tree.1) := by rw [HG11.out.cell]; rfl
        have g'4 : u11.cell? ⟨u8.heap.size, 4, none⟩ = some (.int .u64 g.tree.2) := by rw [HG11.out.cell]; rfl
        have g'5 : u11.cell? ⟨u8.heap.size, 5, none⟩ = some (.slice fp g.pars.length fq) := by rw [HG11.out.cell]; rfl
        have g'6 : u11.cell? ⟨u8.heap.size, 6, none⟩ = some (.string ⟨g.author.toArray⟩) := by rw [HG11.out.cell]; rfl
        have g'7 : u11.cell? ⟨u8.heap.size, 7, none⟩ = some (.int .i64 g.time) := by rw [HG11.out.cell]; rfl
        have g'8 : u11.cell? ⟨u8.heap.size, 8, none⟩ = some (.string ⟨g.msg.toArray⟩) := by rw [HG11.out.cell]; rfl
        have h'0 : u11.cell? ⟨u10.heap.size, 0, none⟩ = some (.int .i64 g.kind) := by rw [HH11.out.cell]; rfl
        have h'1 : u11.cell? ⟨u10.heap.size, 1, none⟩ = some (.string ⟨g.data.toArray⟩) := by rw [HH11.out.cell]; rfl
        have h'2 : u11.cell? ⟨u10.heap.size, 2, none⟩ = some (.slice ha g.ents.length hc) := by rw [HH11.out.cell]; rfl
        have h'3 : u11.cell? ⟨u10.heap.size, 3, none⟩ = some (.int .u64 g.tree.1) := by rw [HH11.out.cell]; rfl
        have h'4 : u11.cell? ⟨u10.heap.size, 4, none⟩ = some (.int .u64 g.tree.2) := by rw [HH11.out.cell]; rfl
        have h'5 : u11.cell? ⟨u10.heap.size, 5, none⟩ = some (.slice hp g.pars.length hq') := by rw [HH11.out.cell]; rfl
        have h'6 : u11.cell? ⟨u10.heap.size, 6, none⟩ = some (.string ⟨g.author.toArray⟩) := by rw [HH11.out.cell]; rfl
        have h'7 : u11.cell? ⟨u10.heap.size, 7, none⟩ = some (.int .i64 g.time) := by rw [HH11.out.cell]; rfl
        have h'8 : u11.cell? ⟨u10.heap.size, 8, none⟩ = some (.string ⟨g.msg.toArray⟩) := by rw [HH11.out.cell]; rfl
        have re0 := cell_regrown e0
        have re1 := cell_regrown e1
        have rn'0 := cell_regrown n'0
        have rn'1 := cell_regrown n'1
        have rm'0 := cell_regrown m'0
        have rm'1 := cell_regrown m'1
        have rg'0 := cell_regrown g'0
        have rg'1 := cell_regrown g'1
        have rg'2 := cell_regrown g'2
        have rg'3 := cell_regrown g'3
        have rg'4 := cell_regrown g'4
        have rg'5 := cell_regrown g'5
        have rg'6 := cell_regrown g'6
        have rg'7 := cell_regrown g'7
        have rg'8 := cell_regrown g'8
        have rh'0 := cell_regrown h'0
        have rh'1 := cell_regrown h'1
        have rh'2 := cell_regrown h'2
        have rh'3 := cell_regrown h'3
        have rh'4 := cell_regrown h'4
        have rh'5 := cell_regrown h'5
        have rh'6 := cell_regrown h'6
        have rh'7 := cell_regrown h'7
        have rh'8 := cell_regrown h'8
        have hzl : (zs.length : Int) ≤ 1000 := by have := HPL.out; have := HXL2.out; omega
        have hyl : (ys.length : Int) ≤ 1000 := by have := HAL.out; have := HXL2.out; omega
        have HS1 := Lib.hid (fun W (hW : Below u11.heap.size u11 W) => same_any ra rb zs zs rc rd W (HI11.out.ahead hW) (HJ11.out.ahead hW) (by omega) (by omega))
        have HS2 := Lib.hid (fun W (hW : Below u11.heap.size u11 W) => same_any rf rh ys ys rg rk W (HL11.out.ahead hW) (HQ11.out.ahead hW) (by omega) (by omega))
        have HS3 := Lib.hid (fun W (hW : Below u11.heap.size u11 W) => rosame_any g g fa ha fc hc fp hp fq hq' W (HO11.out.below hW).inn.ents (HP11.out.below hW).inn.ents (HO11.out.below hW).inn.pars (HP11.out.below hW).inn.pars HO11.out.inn.elen HO11.out.inn.plen)
        have HS4 := Lib.hid (fun W (hW : Below u11.heap.size u11 W) => HHAS.out W (bt HB12.out hW))
        have HS5 := Lib.hid (fun W (hW : Below u11.heap.size u11 W) => HRHAS.out W (bt HB12.out hW))
        simp only [decide_true] at HS1 HS2 HS3
        simp only [Ob.val] at HS3
        have hq : ∀ W, (binOp .eql 26 (.agg #[.int .u64 n1, .int .u64 n2]) (.agg #[.int .u64 n1, .int .u64 n2])).run Tryz.prog W = .ok (.bool true) W := fun W => by rw [eql_dig n1 n2 n1 n2 W]; simp
        have HA1 := Lib.hid (fun d os => Calls.regrown_of (w := u11) (d := d) (os := os) (HS1.out _ (below_regrown u11 d os)))
        have HA2 := Lib.hid (fun d os => Calls.regrown_of (w := u11) (d := d) (os := os) (HS2.out _ (below_regrown u11 d os)))
        have HA3 := Lib.hid (fun d os => Calls.regrown_of (w := u11) (d := d) (os := os) (HS3.out _ (below_regrown u11 d os)))
        have HA4 := Lib.hid (fun d os => Calls.regrown_of (w := u11) (d := d) (os := os) (HS4.out _ (below_regrown u11 d os)))
        have HA5 := Lib.hid (fun d os => Calls.regrown_of (w := u11) (d := d) (os := os) (HS5.out _ (below_regrown u11 d os)))
        have HA6 := Lib.hid (fun d os => Calls.regrown_of (w := u11) (d := d) (os := os) (HA.out _))
        clear HS1 HS2 HS3 HS4 HS5 HHAS HRHAS hzl hyl HPL HAL HXL2 HN
        generalize zs.length = zl at HA1 ⊢
        generalize ys.length = yl at HA2 ⊢
        go_wp2_with fail
        rw [← HU11.out]
        refine wp_region_quiet_below (by kernel_rfl) (by kernel_rfl) ?_
        repeat (any_goals (first | go_big_quiet_step (first | (with_reducible exact HA1.out _ _) | (with_reducible exact HA2.out _ _) | (with_reducible exact HA3.out _ _) | (with_reducible exact HA4.out _ _) | (with_reducible exact HA5.out _ _) | (with_reducible exact HA6.out _ _)) | quiet_step (first | (with_reducible exact HA1.out _ _) | (with_reducible exact HA2.out _ _) | (with_reducible exact HA3.out _ _) | (with_reducible exact HA4.out _ _) | (with_reducible exact HA5.out _ _) | (with_reducible exact HA6.out _ _))))
        refine wpQuiet_nil ?_
        intro w2 hw2
        have HB13 := Lib.hid (bt HB12.out (below_rg hw2))
        clear hw2
        go_wp2_with fail
        go_ret
        exact ⟨rfl, HB13.out⟩

end Go.Proofs.YtlfodnehgedpmaaGreat.poolPut
