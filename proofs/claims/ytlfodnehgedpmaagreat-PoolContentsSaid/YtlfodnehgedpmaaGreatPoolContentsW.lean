/- The walk of the statement PoolContents. -/
import Derived.Test.YtlfodnehgedpmaaGreatRpJ
namespace Go.Proofs.YtlfodnehgedpmaaGreat.poolContents
open Go.RowKit Go.Shelf
set_option linter.unusedVariables false

theorem bt {a b c : World} (h1 : Below a.heap.size a b) (h2 : Below b.heap.size b c) : Below a.heap.size a c := h1.trans (h2.mono h1.size)
theorem ObCame.below {W W' : World} {o : Ob} {ea : Option Addr} {ec : Nat} {pa : Option Addr} {pc : Nat} (h : ObCame W o ea ec pa pc) (hb : Below W.heap.size W W') : ObCame W' o ea ec pa pc :=
  ⟨(h.ents.below hb (Nat.le_refl _)).mono hb.size, (h.pars.below hb (Nat.le_refl _)).mono hb.size, h.ecap, h.pcap, h.ok, h.enam, h.dlen, h.alen, h.mlen⟩
theorem ins_len (xs : List Itm) (x : Itm) : (insS xs x).1.length ≤ xs.length + 1 := by
  have h : (xs.take (posI xs x.d) ++ (x :: xs.drop (posI xs x.d))).length ≤ xs.length + 1 := by
    simp only [List.length_append, List.length_take, List.length_cons, List.length_drop]; omega
  unfold insS
  split
  · split
    · split
      · simp
      · simp
    · exact h
  · exact h
theorem put_len (xs : List Itm) (o : Ob) : (putS xs o).1.length ≤ xs.length + 1 := by
  unfold putS
  split
  · simp
  · split
    · simp
    · exact ins_len _ _
theorem chkGo_of : ∀ {xs : List Itm} {p : Option (Int × Int)}, (∀ x ∈ xs, chkI x = 0) → Asc xs → (∀ q, p = some q → ∀ x ∈ xs, cmpD q x.d < 0) → chkGo p xs = 0
  | [], p, _, _, _ => by cases p <;> rfl
  | x :: xs, p, h1, h2, h3 => by
    rw [chkGo, if_neg (by simpa using h1 x (by simp)), if_neg]
    · refine chkGo_of (fun y hy => h1 y (by simp [hy])) (fun i j hi hj hij => ?_) (fun q hq y hy => ?_)
      · have := h2 (i + 1) (j + 1) (by simp; omega) (by simp; omega) (by omega)
        simpa using this
      · cases hq
        obtain ⟨j, hj, rfl⟩ := List.getElem_of_mem hy
        have := h2 0 (j + 1) (by simp) (by simp; omega) (by omega)
        simpa using this
    · cases p with
      | none => simp [prevD]
      | some q =>
        have := h3 q rfl x (by simp)
        have := cmpD_anti (a := x.d) (b := q)
        simp [prevD]
        omega
/-- What Put does to a valid pool. -/
structure PutLaw (xs : List Itm) (o : Ob) (zs : List Itm) (d : Int × Int) (e : Int) : Prop where
  bad : e ≠ 0 → zs = [] ∧ (e = (encodeS o).2 ∨ e = 16)
  asc : e = 0 → Asc zs
  get : e = 0 → getS zs d = (o, 0)
  chk : e = 0 → checkP zs = 0
  had : e = 0 → hasS xs d = true → zs.length = xs.length
  new : e = 0 → hasS xs d = false → zs.length = xs.length + 1
  mem : e = 0 → ∀ y ∈ xs, y ∈ zs
  dat : e = 0 → ∀ y ∈ zs, y.data.length ≤ 70000
theorem law {xs : List Itm} (h : Asc xs) (hc : ∀ x ∈ xs, chkI x = 0) (hd : ∀ x ∈ xs, x.data.length ≤ 500) {o : Ob} (ho : OkO o) : PutLaw xs o (putS xs o).1 (putS xs o).2.1 (putS xs o).2.2 := by
  unfold putS
  by_cases he : (encodeS o).2 = 0
  · rw [if_neg (by simpa using he)]
    have henc : encodeS o = ((encodeS o).1, 0) := by rw [← he]
    have hdec := decode_put henc ho
    have hlen := encodeS_len o
    generalize (encodeS o).1 = T at hdec hlen ⊢
    have hx0 : chkI ⟨digS T, T⟩ = 0 := by unfold chkI; simp [hdec]
    obtain ⟨hat⟩ : Nonempty (At xs (digS T) (posI xs (digS T))) := ⟨asc_at h _⟩
    cases hh : hitB xs (digS T) (posI xs (digS T)) with
    | true =>
      obtain ⟨hk, hkd, hi⟩ := insS_hit (x := ⟨digS T, T⟩) hat hh
      rw [hi]
      by_cases hdt : xs[posI xs (digS T)].data = T
      · rw [if_pos hdt]
        simp only [ne_eq, not_true_eq_false, if_false]
        have hg : getS xs (digS T) = (o, 0) := by
          obtain ⟨_, _, h3⟩ := getS_hit hat hh
          rw [h3, hdt, hdec]
        exact ⟨fun h => absurd rfl h, fun _ => h, fun _ => hg, fun _ => chkGo_of hc h (by simp), fun _ _ => rfl, (fun _ hn => by unfold hasS at hn; rw [hh] at hn; cases hn), fun _ y hy => hy, fun _ y hy => by have := hd y hy; omega⟩
      · rw [if_neg hdt]
        simp only [ne_eq, show ¬ ((16 : Int) = 0) by decide, not_false_eq_true, if_true]
        exact ⟨fun _ => ⟨rfl, .inr rfl⟩, (fun h => by cases h), (fun h => by cases h), (fun h => by cases h), (fun h => by cases h), (fun h => by cases h), (fun h => by cases h), (fun h => by cases h)⟩
    | false =>
      have hi := insS_miss (x := ⟨digS T, T⟩) hat hh
      obtain ⟨ha2, hm2, _⟩ := ins_law h hi
      rw [hi]
      simp only [ne_eq, not_true_eq_false, if_false]
      have hmx : (⟨digS T, T⟩ : Itm) ∈ xs.take (posI xs (digS T)) ++ (⟨digS T, T⟩ :: xs.drop (posI xs (digS T))) := by simp
      have hall : ∀ y ∈ xs.take (posI xs (digS T)) ++ (⟨digS T, T⟩ :: xs.drop (posI xs (digS T))), chkI y = 0 ∧ y.data.length ≤ 70000 := fun y hy => by
        rcases (hm2 y).1 hy with h1 | rfl
        · exact ⟨hc y h1, by have := hd y h1; omega⟩
        · exact ⟨hx0, by simp only; omega⟩
      refine ⟨fun h => absurd rfl h, fun _ => ha2, fun _ => ?_, fun _ => chkGo_of (fun y hy => (hall y hy).1) ha2 (by simp), (fun _ hn => by unfold hasS at hn; rw [hh] at hn; cases hn), fun _ _ => ?_, fun _ y hy => (hm2 y).2 (.inl hy), fun _ y hy => (hall y hy).2⟩
      · obtain ⟨j, hj, hje⟩ := List.getElem_of_mem hmx
        have hat2 := at_uniq ha2 hj (d := digS T) (by rw [hje])
        have hh2 : hitB (xs.take (posI xs (digS T)) ++ (⟨digS T, T⟩ :: xs.drop (posI xs (digS T)))) (digS T) j = true := by
          unfold hitB; rw [List.getElem?_eq_getElem hj, hje]; simp
        obtain ⟨_, _, h3⟩ := getS_hit hat2 hh2
        rw [h3, hje, hdec]
      · have := hat.le
        simp only [List.length_append, List.length_take, List.length_cons, List.length_drop]; omega
  · rw [if_pos he]
    exact ⟨fun _ => ⟨rfl, .inl rfl⟩, fun h => absurd h he, fun h => absurd h he, fun h => absurd h he, fun h => absurd h he, fun h => absurd h he, fun h => absurd h he, fun h => absurd h he⟩

set_option maxRecDepth 100000 in
set_option maxHeartbeats 8000000 in
theorem walk (a : Option Addr) (xs : List Itm) (c : Nat) (o : Ob) (ea : Option Addr) (ec : Nat) (pa : Option Addr) (pc : Nat) (w : World) (hp : PoolCame w a xs c) (ho : ObCame w o ea ec pa pc) :
    Calls Tryz.prog 7 #[.slice a xs.length c, o.val ea ec pa pc] w fun e w' => e = .returned (.bool true) ∧ Below w.heap.size w w' := by
  have hml := hp.cap
  unfold maxLen at hml
  have HFN := Lib.hid (fun W (hW : Below w.heap.size w W) => fine_any a xs c W (hp.its.ahead hW) (by omega) (fun x hx => by have := (hp.dat x hx).2; unfold maxLen at this; omega))
  have HA := Lib.hid (fun W => awake_any W)
  have HP := Lib.hid (fun (hg : fineB xs = true) W (hW : Below w.heap.size w W) => (show PoolIn W a xs c from ⟨hp.its.ahead hW, hp.cap.1, by have := (fineB_true hg).1; omega, fun x hx => by have := (fineB_true hg).2.1 x hx; omega⟩))
  have HAS := Lib.hid (fun (hg : fineB xs = true) => (fineB_true hg).2.2.2.1)
  have HXL := Lib.hid (fun (hg : fineB xs = true) => (fineB_true hg).1)
  have HLW := Lib.hid (fun (hg : fineB xs = true) => law (fineB_true hg).2.2.2.1 (fineB_true hg).2.2.2.2 (fineB_true hg).2.1 ho.ok)
  have HGR := Lib.hid (fun W (hW : Below w.heap.size w W) => great_any o ea ec pa pc W (ObCame.below ho hW))
  have HOI := Lib.hid (fun W (hW : Below w.heap.size w W) => (ObCame.below ho hW).inn)
  have HXX := Lib.hid hp.its
  clear hp ho
  have HPUT := Lib.hid (fun (hg : fineB xs = true) W hW => put_any a xs c o ea ec pa pc W (HP.out hg W hW) (HAS.out hg) (HOI.out W hW))
  have HCK := Lib.hid (fun W hW => ocheck_any o ea ec pa pc W (HOI.out W hW))
  have HSM : Hid (∀ fa fc fp fq W, Below w.heap.size w W → Ents W.heap.size W fa o.ents → Digs W.heap.size W fp o.pars → Calls Tryz.prog 32 #[o.val fa fc fp fq, o.val ea ec pa pc] W fun e w' => e = .returned (.bool true) ∧ Below W.heap.size W w') := Lib.hid (fun fa fc fp fq W hW h1 h2 => by
    have h := rosame_any o o fa ea fc ec fp pa fq pc W h1 (HOI.out W hW).ents h2 (HOI.out W hW).pars (HOI.out W hW).elen (HOI.out W hW).plen
    rw [decide_eq_true rfl] at h
    exact h)
  have HPL : Hid ((putS xs o).1.length ≤ xs.length + 1) := Lib.hid (by
    have h1 := put_len xs o
    exact h1)
  generalize putS xs o = P at HPUT HPL HLW
  obtain ⟨zs, ⟨n1, n2⟩, gk⟩ := P
  generalize greatS o = gt at HGR
  generalize hce : (encodeS o).2 = ce at HCK
  have HCE := Lib.hid hce
  clear hce
  have HOO : Hid (∃ o', o' = o) := Lib.hid ⟨_, rfl⟩
  obtain ⟨o', ho'⟩ := HOO.out
  have HO' := Lib.hid ho'
  clear ho' HOO HOI
  simp only at HPUT HLW HPL
  obtain ⟨kind, data, ents, ⟨t1, t2⟩, pars, author, time, msg⟩ := o
  simp only [Ob.val] at HGR HPUT HCK HSM HPL ⊢
  obtain ⟨ne, hne⟩ : ∃ ne, ne = ents.length := ⟨_, rfl⟩
  obtain ⟨n, hnp⟩ : ∃ n, n = pars.length := ⟨_, rfl⟩
  rw [← hne, ← hnp] at HGR HPUT HCK HSM
  rw [← hne, ← hnp]
  have HNE := Lib.hid hne
  have HNP := Lib.hid hnp
  clear hne hnp
  obtain ⟨w0, hw0⟩ : ∃ w0, w0 = w.alloc (.cells #[.int .i64 kind, .string ⟨data.toArray⟩, .slice ea ne ec, .int .u64 t1, .int .u64 t2, .slice pa n pc, .string ⟨author.toArray⟩, .int .i64 time, .string ⟨msg.toArray⟩] 35) := ⟨_, rfl⟩
  have HK0 : Hid (BK w.heap.size #[.int .i64 kind, .string ⟨data.toArray⟩, .slice ea ne ec, .int .u64 t1, .int .u64 t2, .slice pa n pc, .string ⟨author.toArray⟩, .int .i64 time, .string ⟨msg.toArray⟩] 35 w0) := Lib.hid (by rw [hw0]; exact BK.new _ _ _)
  have HB0 : Hid (Below w.heap.size w w0) := Lib.hid (by rw [hw0]; exact (Below.refl _ w).alloc (Nat.le_refl _) _)
  have HF0 := Lib.hid (HFN.out w0 HB0.out)
  rw [hw0] at HF0
  have HW0 := Lib.hid hw0
  clear hw0 HFN
  cases hg : fineB xs with
  | false =>
    rw [hg] at HF0
    clear HP HAS HXL HLW HPUT hg
    generalize xs.length = m at HF0 hml ⊢
    go_enter Tryz.func7, Tryz.ntmps7
    go_wp2_with fail
    (with_reducible refine (HF0.out).mono ?_)
    rintro e u ⟨rfl, hb⟩
    rw [← HW0.out] at hb
    have HB1 := Lib.hid (HB0.out.trans (hb.mono HB0.out.size))
    clear hb
    go_wp2_with fail
    (with_reducible refine (HA.out _).mono ?_)
    rintro e u2 ⟨rfl, hb⟩
    have HB2 := Lib.hid (HB1.out.trans (hb.mono HB1.out.size))
    clear hb
    go_wp2_with fail
    go_ret
    exact ⟨rfl, HB2.out⟩
  | true =>
    rw [hg] at HF0
    have HP2 := Lib.hid (HP.out hg)
    have HAS2 := Lib.hid (HAS.out hg)
    have HXL2 := Lib.hid (HXL.out hg)
    have HL := Lib.hid (HLW.out hg)
    have HPU := Lib.hid (HPUT.out hg)
    clear HP HAS HXL HLW HPUT hg
    obtain ⟨m, hmm⟩ : ∃ m, m = xs.length := ⟨_, rfl⟩
    have HN := Lib.hid hmm
    rw [← hmm] at HF0 hml HPU ⊢
    clear hmm
    cases gt with
    | true =>
      go_enter Tryz.func7, Tryz.ntmps7
      go_wp2_with fail
      (with_reducible refine (HF0.out).mono ?_)
      rintro e u ⟨rfl, hb⟩
      rw [← HW0.out] at hb
      have HB1 := Lib.hid (HB0.out.trans (hb.mono HB0.out.size))
      have HK1 := Lib.hid (HK0.out.below hb)
      have e0 : u.cell? ⟨w.heap.size, 0, none⟩ = some (.int .i64 kind) := by rw [HK1.out.cell]; rfl
      have e1 : u.cell? ⟨w.heap.size, 1, none⟩ = some (.string ⟨data.toArray⟩) := by rw [HK1.out.cell]; rfl
      have e2 : u.cell? ⟨w.heap.size, 2, none⟩ = some (.slice ea ne ec) := by rw [HK1.out.cell]; rfl
      have e3 : u.cell? ⟨w.heap.size, 3, none⟩ = some (.int .u64 t1) := by rw [HK1.out.cell]; rfl
      have e4 : u.cell? ⟨w.heap.size, 4, none⟩ = some (.int .u64 t2) := by rw [HK1.out.cell]; rfl
      have e5 : u.cell? ⟨w.heap.size, 5, none⟩ = some (.slice pa n pc) := by rw [HK1.out.cell]; rfl
      have e6 : u.cell? ⟨w.heap.size, 6, none⟩ = some (.string ⟨author.toArray⟩) := by rw [HK1.out.cell]; rfl
      have e7 : u.cell? ⟨w.heap.size, 7, none⟩ = some (.int .i64 time) := by rw [HK1.out.cell]; rfl
      have e8 : u.cell? ⟨w.heap.size, 8, none⟩ = some (.string ⟨msg.toArray⟩) := by rw [HK1.out.cell]; rfl
      clear hb HF0
      have HG1 := Lib.hid (HGR.out u HB1.out)
      go_wp2_with fail
      (with_reducible refine (HG1.out).mono ?_)
      rintro e u2 ⟨rfl, hb⟩
      have HB2 := Lib.hid (HB1.out.trans (hb.mono HB1.out.size))
      clear hb
      go_wp2_with fail
      (with_reducible refine (HA.out _).mono ?_)
      rintro e u3 ⟨rfl, hb⟩
      have HB3 := Lib.hid (HB2.out.trans (hb.mono HB2.out.size))
      clear hb
      go_wp2_with fail
      go_ret
      exact ⟨rfl, HB3.out⟩
    | false =>
      go_enter Tryz.func7, Tryz.ntmps7
      go_wp2_with fail
      (with_reducible refine (HF0.out).mono ?_)
      rintro e u ⟨rfl, hb⟩
      rw [← HW0.out] at hb
      have HB1 := Lib.hid (HB0.out.trans (hb.mono HB0.out.size))
      have HK1 := Lib.hid (HK0.out.below hb)
      have e0 : u.cell? ⟨w.heap.size, 0, none⟩ = some (.int .i64 kind) := by rw [HK1.out.cell]; rfl
      have e1 : u.cell? ⟨w.heap.size, 1, none⟩ = some (.string ⟨data.toArray⟩) := by rw [HK1.out.cell]; rfl
      have e2 : u.cell? ⟨w.heap.size, 2, none⟩ = some (.slice ea ne ec) := by rw [HK1.out.cell]; rfl
      have e3 : u.cell? ⟨w.heap.size, 3, none⟩ = some (.int .u64 t1) := by rw [HK1.out.cell]; rfl
      have e4 : u.cell? ⟨w.heap.size, 4, none⟩ = some (.int .u64 t2) := by rw [HK1.out.cell]; rfl
      have e5 : u.cell? ⟨w.heap.size, 5, none⟩ = some (.slice pa n pc) := by rw [HK1.out.cell]; rfl
      have e6 : u.cell? ⟨w.heap.size, 6, none⟩ = some (.string ⟨author.toArray⟩) := by rw [HK1.out.cell]; rfl
      have e7 : u.cell? ⟨w.heap.size, 7, none⟩ = some (.int .i64 time) := by rw [HK1.out.cell]; rfl
      have e8 : u.cell? ⟨w.heap.size, 8, none⟩ = some (.string ⟨msg.toArray⟩) := by rw [HK1.out.cell]; rfl
      clear hb HF0 HW0 HB0 HK0
      have HG1 := Lib.hid (HGR.out u HB1.out)
      go_wp2_with fail
      (with_reducible refine (HG1.out).mono ?_)
      rintro e u1 ⟨rfl, hb⟩
      have HB2 := Lib.hid (bt HB1.out hb)
      have HK2 := Lib.hid (HK1.out.below hb)
      clear hb HG1 HGR HB1 HK1 e0 e1 e2 e3 e4 e5 e6 e7 e8
      have e0 : u1.cell? ⟨w.heap.size, 0, none⟩ = some (.int .i64 kind) := by rw [HK2.out.cell]; rfl
      have e1 : u1.cell? ⟨w.heap.size, 1, none⟩ = some (.string ⟨data.toArray⟩) := by rw [HK2.out.cell]; rfl
      have e2 : u1.cell? ⟨w.heap.size, 2, none⟩ = some (.slice ea ne ec) := by rw [HK2.out.cell]; rfl
      have e3 : u1.cell? ⟨w.heap.size, 3, none⟩ = some (.int .u64 t1) := by rw [HK2.out.cell]; rfl
      have e4 : u1.cell? ⟨w.heap.size, 4, none⟩ = some (.int .u64 t2) := by rw [HK2.out.cell]; rfl
      have e5 : u1.cell? ⟨w.heap.size, 5, none⟩ = some (.slice pa n pc) := by rw [HK2.out.cell]; rfl
      have e6 : u1.cell? ⟨w.heap.size, 6, none⟩ = some (.string ⟨author.toArray⟩) := by rw [HK2.out.cell]; rfl
      have e7 : u1.cell? ⟨w.heap.size, 7, none⟩ = some (.int .i64 time) := by rw [HK2.out.cell]; rfl
      have e8 : u1.cell? ⟨w.heap.size, 8, none⟩ = some (.string ⟨msg.toArray⟩) := by rw [HK2.out.cell]; rfl
      have HC1 := Lib.hid (HPU.out u1 HB2.out)
      clear HPU
      go_wp2_with fail
      (with_reducible refine (HC1.out).mono ?_)
      rintro e u2 ⟨ra, rc, rfl, hpo⟩
      have HI1 := Lib.hid hpo.1
      have HRC := Lib.hid hpo.2.1
      have HB3 := Lib.hid (bt HB2.out hpo.2.2.2)
      have HK3 := Lib.hid (HK2.out.below hpo.2.2.2)
      clear hpo HC1 HB2 HK2 e0 e1 e2 e3 e4 e5 e6 e7 e8
      obtain ⟨u3, hu3⟩ : ∃ u3, u3 = u2.alloc (.cells #[.int .u64 n1, .int .u64 n2] 26) := ⟨_, rfl⟩
      have hs3 : Below u2.heap.size u2 u3 := by rw [hu3]; exact (Below.refl _ _).alloc (Nat.le_refl _) _
      have HN3 : Hid (BK u2.heap.size #[.int .u64 n1, .int .u64 n2] 26 u3) := Lib.hid (by rw [hu3]; exact BK.new _ _ _)
      have HI3 := Lib.hid (HI1.out.ahead hs3)
      have HB4 := Lib.hid (bt HB3.out hs3)
      have HK4 := Lib.hid (HK3.out.below hs3)
      have HU3 := Lib.hid hu3
      clear hs3 HI1 HB3 HK3 hu3
      obtain ⟨zl, hzl⟩ : ∃ zl, zl = zs.length := ⟨_, rfl⟩
      rw [← hzl]
      have HZL := Lib.hid hzl
      have hzb : zl ≤ 100 := by have := HPL.out; have := HXL2.out; omega
      clear hzl
      by_cases hgk : gk = 0
      · subst hgk
        have HGET := Lib.hid (get_any ra zs rc n1 n2 u3 ⟨HI3.out, HRC.out, by rw [← HZL.out]; omega, fun y hy => by have := HL.out.dat rfl y hy; omega⟩ (HL.out.asc rfl))
        rw [HL.out.get rfl, ← HZL.out] at HGET
        rw [HU3.out] at HGET
        have e0 : u3.cell? ⟨u2.heap.size, 0, none⟩ = some (.int .u64 n1) := by rw [HN3.out.cell]; rfl
        have e1 : u3.cell? ⟨u2.heap.size, 1, none⟩ = some (.int .u64 n2) := by rw [HN3.out.cell]; rfl
        rw [HU3.out] at e0 e1
        go_wp2_with fail
        (with_reducible refine (HGET.out).mono ?_)
        rintro e u4 ⟨fa, fc, fp, fq, rfl, hob, hs4⟩
        rw [← HU3.out] at hs4
        have HEN4 := Lib.hid hob.inn.ents
        have HPA4 := Lib.hid hob.inn.pars
        have HI4 := Lib.hid (HI3.out.ahead hs4)
        have HN4 := Lib.hid (HN3.out.below hs4)
        have HB5 := Lib.hid (bt HB4.out hs4)
        have HK5 := Lib.hid (HK4.out.below hs4)
        clear hob hs4 HGET HI3 HN3 HB4 HK4 HU3 e0 e1
        simp only [Ob.val] at HEN4 HPA4 ⊢
        rw [← HNE.out, ← HNP.out]
        obtain ⟨u5, hu5⟩ : ∃ u5, u5 = u4.alloc (.cells #[.int .i64 kind, .string ⟨data.toArray⟩, .slice fa ne fc, .int .u64 t1, .int .u64 t2, .slice fp n fq, .string ⟨author.toArray⟩, .int .i64 time, .string ⟨msg.toArray⟩] 35) := ⟨_, rfl⟩
        have hs5 : Below u4.heap.size u4 u5 := by rw [hu5]; exact (Below.refl _ _).alloc (Nat.le_refl _) _
        have HX5 : Hid (BK u4.heap.size #[.int .i64 kind, .string ⟨data.toArray⟩, .slice fa ne fc, .int .u64 t1, .int .u64 t2, .slice fp n fq, .string ⟨author.toArray⟩, .int .i64 time, .string ⟨msg.toArray⟩] 35 u5) := Lib.hid (by rw [hu5]; exact BK.new _ _ _)
        have HEN5 := Lib.hid ((HEN4.out.below hs5 (Nat.le_refl _)).mono hs5.size)
        have HPA5 := Lib.hid (HPA4.out.ahead hs5)
        have HI5 := Lib.hid (HI4.out.ahead hs5)
        have HN5 := Lib.hid (HN4.out.below hs5)
        have HB6 := Lib.hid (bt HB5.out hs5)
        have HK6 := Lib.hid (HK5.out.below hs5)
        clear hs5 HEN4 HPA4 HI4 HN4 HB5 HK5
        have HHS := Lib.hid (has_any a xs c n1 n2 u5 (HP2.out u5 HB6.out) HAS2.out)
        rw [← HN.out] at HHS
        have HD1 := Lib.hid (HL.out.had rfl)
        have HD2 := Lib.hid (HL.out.new rfl)
        rw [← HN.out, ← HZL.out] at HD1 HD2
        generalize hasS xs (n1, n2) = hb0 at HHS HD1 HD2
        rw [hu5] at HHS
        have e0 : u5.cell? ⟨u2.heap.size, 0, none⟩ = some (.int .u64 n1) := by rw [HN5.out.cell]; rfl
        have e1 : u5.cell? ⟨u2.heap.size, 1, none⟩ = some (.int .u64 n2) := by rw [HN5.out.cell]; rfl
        rw [hu5] at e0 e1
        have HU5 := Lib.hid hu5
        clear hu5
        go_wp2_with fail
        (with_reducible refine (HHS.out).mono ?_)
        rintro e u6 ⟨rfl, hs6⟩
        rw [← HU5.out] at hs6
        have HX6 := Lib.hid (HX5.out.below hs6)
        have HEN6 := Lib.hid ((HEN5.out.below hs6 (Nat.le_refl _)).mono hs6.size)
        have HPA6 := Lib.hid (HPA5.out.ahead hs6)
        have HI6 := Lib.hid (HI5.out.ahead hs6)
        have HB7 := Lib.hid (bt HB6.out hs6)
        have HK7 := Lib.hid (HK6.out.below hs6)
        clear hs6 HHS HU5 HX5 HEN5 HPA5 HI5 HN5 HB6 HK6 e0 e1
        have e0 : u6.cell? ⟨w.heap.size, 0, none⟩ = some (.int .i64 kind) := by rw [HK7.out.cell]; rfl
        have e1 : u6.cell? ⟨w.heap.size, 1, none⟩ = some (.string ⟨data.toArray⟩) := by rw [HK7.out.cell]; rfl
        have e2 : u6.cell? ⟨w.heap.size, 2, none⟩ = some (.slice ea ne ec) := by rw [HK7.out.cell]; rfl
        have e3 : u6.cell? ⟨w.heap.size, 3, none⟩ = some (.int .u64 t1) := by rw [HK7.out.cell]; rfl
        have e4 : u6.cell? ⟨w.heap.size, 4, none⟩ = some (.int .u64 t2) := by rw [HK7.out.cell]; rfl
        have e5 : u6.cell? ⟨w.heap.size, 5, none⟩ = some (.slice pa n pc) := by rw [HK7.out.cell]; rfl
        have e6 : u6.cell? ⟨w.heap.size, 6, none⟩ = some (.string ⟨author.toArray⟩) := by rw [HK7.out.cell]; rfl
        have e7 : u6.cell? ⟨w.heap.size, 7, none⟩ = some (.int .i64 time) := by rw [HK7.out.cell]; rfl
        have e8 : u6.cell? ⟨w.heap.size, 8, none⟩ = some (.string ⟨msg.toArray⟩) := by rw [HK7.out.cell]; rfl
        have f0 : u6.cell? ⟨u4.heap.size, 0, none⟩ = some (.int .i64 kind) := by rw [HX6.out.cell]; rfl
        have f1 : u6.cell? ⟨u4.heap.size, 1, none⟩ = some (.string ⟨data.toArray⟩) := by rw [HX6.out.cell]; rfl
        have f2 : u6.cell? ⟨u4.heap.size, 2, none⟩ = some (.slice fa ne fc) := by rw [HX6.out.cell]; rfl
        have f3 : u6.cell? ⟨u4.heap.size, 3, none⟩ = some (.int .u64 t1) := by rw [HX6.out.cell]; rfl
        have f4 : u6.cell? ⟨u4.heap.size, 4, none⟩ = some (.int .u64 t2) := by rw [HX6.out.cell]; rfl
        have f5 : u6.cell? ⟨u4.heap.size, 5, none⟩ = some (.slice fp n fq) := by rw [HX6.out.cell]; rfl
        have f6 : u6.cell? ⟨u4.heap.size, 6, none⟩ = some (.string ⟨author.toArray⟩) := by rw [HX6.out.cell]; rfl
        have f7 : u6.cell? ⟨u4.heap.size, 7, none⟩ = some (.int .i64 time) := by rw [HX6.out.cell]; rfl
        have f8 : u6.cell? ⟨u4.heap.size, 8, none⟩ = some (.string ⟨msg.toArray⟩) := by rw [HX6.out.cell]; rfl
        have HS1 := Lib.hid (HSM.out fa fc fp fq u6 HB7.out HEN6.out HPA6.out)
        clear HSM HX6 HEN6 HPA6
        have HQC := Lib.hid (fun W (hW : Below u6.heap.size u6 W) => pcheck_any ra zs rc W ⟨HI6.out.ahead hW, HRC.out, by rw [← HZL.out]; omega, fun y hy => by have := HL.out.dat rfl y hy; omega⟩)
        rw [HL.out.chk rfl, ← HZL.out] at HQC
        have HCT : Hid (∀ (x1 x2 : Int) (dt : List UInt8) W, (⟨(x1, x2), dt⟩ : Itm) ∈ xs → Below u6.heap.size u6 W → Calls Tryz.prog 35 #[.slice ra zl rc, .agg #[.int .u64 x1, .int .u64 x2, .string ⟨dt.toArray⟩]] W fun e w' => e = .returned (.bool true) ∧ Below W.heap.size W w') := Lib.hid (fun x1 x2 dt W hx hW => by
          have h := containsI_any ra zs rc x1 x2 dt W (HI6.out.ahead hW) (by rw [← HZL.out]; omega)
          rw [decide_eq_true (HL.out.mem rfl _ hx), ← HZL.out] at h
          exact h)
        clear HL HZL HI6
        go_wp2_with fail
        (with_reducible refine (HS1.out).mono ?_)
        rintro e u7 ⟨rfl, hs7⟩
        have HS7 := Lib.hid hs7
        clear hs7 HS1 e0 e1 e2 e3 e4 e5 e6 e7 e8 f0 f1 f2 f3 f4 f5 f6 f7 f8
        have HQ1 := Lib.hid (HQC.out u7 HS7.out)
        clear HQC
        have key : Hid ((hb0 = true ∧ zl = m) ∨ (hb0 = false ∧ zl = m + 1)) := Lib.hid (by cases hb0; exact .inr ⟨rfl, HD2.out rfl⟩; exact .inl ⟨rfl, HD1.out rfl⟩)
        clear HD1 HD2
        rcases key.out with ⟨hbt, hzm⟩ | ⟨hbt, hzm⟩
        · subst hbt
          have z1 : ((zl : Int) != (m : Int)) = false := by simp [hzm]
          have z2 : (zl != m) = false := by simp [hzm]
          clear key hzm
          go_wp2_with fail
          (with_reducible refine (HQ1.out).mono ?_)
          rintro e u8 ⟨rfl, hs8⟩
          have HS8 := Lib.hid (bt HS7.out hs8)
          clear hs8 HQ1 HS7
          go_wp2_with fail
          go_loopw [92] (fun i wr => ∃ k : Nat, k ≤ m ∧ i = .int .i64 k ∧ Hid (Below u6.heap.size u6 wr)) (fun i _ => m - (intOf i).toNat)
          case atStart => exact ⟨0, by omega, rfl, HS8⟩
          case round =>
            clear HS8
            obtain ⟨k, hk, rfl, HB⟩ := hrel
            have HBW := Lib.hid (bt HB7.out HB.out)
            by_cases hlt : k < m
            · have h1 : k < xs.length := by rw [← HN.out]; exact hlt
              obtain ⟨b0, o0, rfl, hb0, q0, q1, q2⟩ := (HXX.out.ahead HBW.out) k h1
              have HMM := Lib.hid (List.getElem_mem h1)
              generalize xs[k] = it at q0 q1 q2 HMM
              obtain ⟨⟨x1, x2⟩, dt⟩ := it
              simp only at q0 q1 q2
              obtain ⟨v, hv⟩ : ∃ v, v = wr.alloc (.cells #[.int .u64 x1, .int .u64 x2, .string ⟨dt.toArray⟩] 59) := ⟨_, rfl⟩
              have HBV : Hid (Below u6.heap.size u6 v) := Lib.hid (by rw [hv]; exact HB.out.alloc HB.out.size _)
              have HC1 := Lib.hid (HCT.out x1 x2 dt v HMM.out HBV.out)
              rw [hv] at HC1
              have HV := Lib.hid hv
              clear hv
              go_wp2_with fail
              (with_reducible refine (HC1.out).mono ?_)
              rintro e v2 ⟨rfl, hs⟩
              rw [← HV.out] at hs
              have HB2 := Lib.hid (bt HBV.out hs)
              clear hs HC1
              go_wp2_with fail
              go_roundw
              case rel => exact ⟨k + 1, by omega, by go_num, HB2⟩
              case measure => simp [intOf] <;> omega
            · go_wp2_with fail
              (with_reducible refine (HA.out _).mono ?_)
              rintro e v2 ⟨rfl, hs⟩
              have HB2 := Lib.hid (bt HBW.out hs)
              clear hs
              go_wp2_with fail
              go_ret
              exact ⟨rfl, HB2.out⟩
        · subst hbt
          subst hzm
          have z1 : (((m + 1 : Nat) : Int) != (m : Int) + 1) = false := by simp
          have hm63 : (m : Int) + 1 ≤ 1000 := by omega
          have z3 : IntKind.i64.wrap ((m : Int) + 1) = (m : Int) + 1 := wrap_i64 (by omega) (by omega)
          clear key
          go_wp2_with fail
          (with_reducible refine (HQ1.out).mono ?_)
          rintro e u8 ⟨rfl, hs8⟩
          have HS8 := Lib.hid (bt HS7.out hs8)
          clear hs8 HQ1 HS7
          go_wp2_with fail
          go_loopw [92] (fun i wr => ∃ k : Nat, k ≤ m ∧ i = .int .i64 k ∧ Hid (Below u6.heap.size u6 wr)) (fun i _ => m - (intOf i).toNat)
          case atStart => exact ⟨0, by omega, rfl, HS8⟩
          case round =>
            clear HS8
            obtain ⟨k, hk, rfl, HB⟩ := hrel
            have HBW := Lib.hid (bt HB7.out HB.out)
            by_cases hlt : k < m
            · have h1 : k < xs.length := by rw [← HN.out]; exact hlt
              obtain ⟨b0, o0, rfl, hb0, q0, q1, q2⟩ := (HXX.out.ahead HBW.out) k h1
              have HMM := Lib.hid (List.getElem_mem h1)
              generalize xs[k] = it at q0 q1 q2 HMM
              obtain ⟨⟨x1, x2⟩, dt⟩ := it
              simp only at q0 q1 q2
              obtain ⟨v, hv⟩ : ∃ v, v = wr.alloc (.cells #[.int .u64 x1, .int .u64 x2, .string ⟨dt.toArray⟩] 59) := ⟨_, rfl⟩
              have HBV : Hid (Below u6.heap.size u6 v) := Lib.hid (by rw [hv]; exact HB.out.alloc HB.out.size _)
              have HC1 := Lib.hid (HCT.out x1 x2 dt v HMM.out HBV.out)
              rw [hv] at HC1
              have HV := Lib.hid hv
              clear hv
              go_wp2_with fail
              (with_reducible refine (HC1.out).mono ?_)
              rintro e v2 ⟨rfl, hs⟩
              rw [← HV.out] at hs
              have HB2 := Lib.hid (bt HBV.out hs)
              clear hs HC1
              go_wp2_with fail
              go_roundw
              case rel => exact ⟨k + 1, by omega, by go_num, HB2⟩
              case measure => simp [intOf] <;> omega
            · go_wp2_with fail
              (with_reducible refine (HA.out _).mono ?_)
              rintro e v2 ⟨rfl, hs⟩
              have HB2 := Lib.hid (bt HBW.out hs)
              clear hs
              go_wp2_with fail
              go_ret
              exact ⟨rfl, HB2.out⟩
      · have HBAD := Lib.hid (HL.out.bad hgk)
        have hne : (gk != 0) = true := by simpa using hgk
        have hz0 : zl = 0 := by have h := HZL.out; rw [HBAD.out.1] at h; simpa using h
        subst hz0
        have HCK1 := Lib.hid (HCK.out u3 HB4.out)
        rw [HU3.out] at HCK1
        have e0 : u3.cell? ⟨w.heap.size, 0, none⟩ = some (.int .i64 kind) := by rw [HK4.out.cell]; rfl
        have e1 : u3.cell? ⟨w.heap.size, 1, none⟩ = some (.string ⟨data.toArray⟩) := by rw [HK4.out.cell]; rfl
        have e2 : u3.cell? ⟨w.heap.size, 2, none⟩ = some (.slice ea ne ec) := by rw [HK4.out.cell]; rfl
        have e3 : u3.cell? ⟨w.heap.size, 3, none⟩ = some (.int .u64 t1) := by rw [HK4.out.cell]; rfl
        have e4 : u3.cell? ⟨w.heap.size, 4, none⟩ = some (.int .u64 t2) := by rw [HK4.out.cell]; rfl
        have e5 : u3.cell? ⟨w.heap.size, 5, none⟩ = some (.slice pa n pc) := by rw [HK4.out.cell]; rfl
        have e6 : u3.cell? ⟨w.heap.size, 6, none⟩ = some (.string ⟨author.toArray⟩) := by rw [HK4.out.cell]; rfl
        have e7 : u3.cell? ⟨w.heap.size, 7, none⟩ = some (.int .i64 time) := by rw [HK4.out.cell]; rfl
        have e8 : u3.cell? ⟨w.heap.size, 8, none⟩ = some (.string ⟨msg.toArray⟩) := by rw [HK4.out.cell]; rfl
        rw [HU3.out] at e0 e1 e2 e3 e4 e5 e6 e7 e8
        by_cases hgc : gk = ce
        · subst hgc
          clear HL HBAD HCK HSM
          go_wp2_with fail
          (with_reducible refine (HCK1.out).mono ?_)
          rintro e u4 ⟨rfl, hs4⟩
          rw [← HU3.out] at hs4
          have HB5 := Lib.hid (bt HB4.out hs4)
          clear hs4 HCK1 e0 e1 e2 e3 e4 e5 e6 e7 e8
          go_wp2_with fail
          (with_reducible refine (HA.out _).mono ?_)
          rintro e u5 ⟨rfl, hs5⟩
          have HB6 := Lib.hid (bt HB5.out hs5)
          clear hs5
          go_wp2_with fail
          go_ret
          exact ⟨rfl, HB6.out⟩
        · have h16 : gk = 16 := by
            rcases HBAD.out.2 with h | h
            · exact absurd (by rw [h, ← HCE.out]) hgc
            · exact h
          subst h16
          have hc1 : ((16 : Int) == ce) = false := by simpa using hgc
          clear HL HBAD HCK HSM hgc
          go_wp2_with fail
          (with_reducible refine (HCK1.out).mono ?_)
          rintro e u4 ⟨rfl, hs4⟩
          rw [← HU3.out] at hs4
          have HB5 := Lib.hid (bt HB4.out hs4)
          clear hs4 HCK1 e0 e1 e2 e3 e4 e5 e6 e7 e8
          go_wp2_with fail
          (with_reducible refine (HA.out _).mono ?_)
          rintro e u5 ⟨rfl, hs5⟩
          have HB6 := Lib.hid (bt HB5.out hs5)
          clear hs5
          go_wp2_with fail
          go_ret
          exact ⟨rfl, HB6.out⟩

end Go.Proofs.YtlfodnehgedpmaaGreat.poolContents
