/- The walk of PoolOrder. -/
import Derived.Test.YtlfodnehgedpmaaPoOp
import Derived.Test.YtlfodnehgedpmaaPoSm
namespace Go.Proofs.Ytlfodnehgedpmaa.poolOrder
open Go.RowKit Go.Shelf
set_option linter.unusedVariables false

/-- The place that is put second. -/
def kth (n by_ i : Nat) : Nat := n - 1 - (i + by_) % n
theorem kth_lt {n by_ i : Nat} (h : 0 < n) : kth n by_ i < n := by unfold kth; omega
theorem kth_on {n by_ k : Nat} (hk : k < n) : ∃ i, i < n ∧ kth n by_ i = k := by
  have hn : 0 < n := by omega
  have hm : by_ % n < n := Nat.mod_lt _ hn
  refine ⟨(n - 1 - k + (n - by_ % n)) % n, Nat.mod_lt _ hn, ?_⟩
  unfold kth
  have hd := Nat.div_add_mod by_ n
  rw [Nat.mod_add_mod, show n - 1 - k + (n - by_ % n) + by_ = n - 1 - k + n * (by_ / n + 1) by rw [Nat.mul_add, Nat.mul_one]; omega, Nat.add_mul_mod_self_left, Nat.mod_eq_of_lt (by omega)]
  omega
/-- The objects that were put second so far. -/
def snd (os : List Ob) (by_ : Nat) : Nat → List Ob
  | 0 => []
  | i + 1 => snd os by_ i ++ (os[kth os.length by_ i]?).toList
theorem snd_mem (os : List Ob) (by_ : Nat) : ∀ (i : Nat) (o : Ob), o ∈ snd os by_ i ↔ ∃ j, j < i ∧ os[kth os.length by_ j]? = some o
  | 0, o => by simp [snd]
  | i + 1, o => by
    rw [snd, List.mem_append, snd_mem os by_ i o]
    constructor
    · rintro (⟨j, hj, h⟩ | h)
      · exact ⟨j, by omega, h⟩
      · exact ⟨i, by omega, by simpa using h⟩
    · rintro ⟨j, hj, h⟩
      rcases Nat.lt_or_ge j i with h1 | h1
      · exact .inl ⟨j, h1, h⟩
      · obtain rfl : j = i := by omega
        exact .inr (by simpa using h)
theorem snd_all (os : List Ob) (by_ : Nat) (o : Ob) : o ∈ os ↔ o ∈ snd os by_ os.length := by
  rw [snd_mem]
  constructor
  · intro h
    obtain ⟨k, hk, rfl⟩ := List.getElem_of_mem h
    obtain ⟨i, hi, hf⟩ := kth_on (by_ := by_) hk
    exact ⟨i, hi, by rw [hf, List.getElem?_eq_getElem hk]⟩
  · rintro ⟨j, _, h⟩
    exact List.mem_of_getElem? h

theorem ObCame.below {W W' : World} {o : Ob} {ea : Option Addr} {ec : Nat} {pa : Option Addr} {pc : Nat} (h : ObCame W o ea ec pa pc) (hb : Below W.heap.size W W') : ObCame W' o ea ec pa pc :=
  ⟨(h.ents.below hb (Nat.le_refl _)).mono hb.size, (h.pars.below hb (Nat.le_refl _)).mono hb.size, h.ecap, h.pcap, h.ok, h.enam, h.dlen, h.alen, h.mlen⟩
theorem ObsIn.below {W W' : World} {a : Option Addr} {os : List Ob} (h : ObsIn W.heap.size W a os) (hb : Below W.heap.size W W') : ObsIn W'.heap.size W' a os := by
  intro i hi
  obtain ⟨b, off, ea, ec, pa, pc, ha, hlt, hc, ho⟩ := h i hi
  exact ⟨b, off, ea, ec, pa, pc, ha, Nat.lt_of_lt_of_le hlt hb.size, fun j v hj => (hb.cell (p := ⟨b, off + i * 9 + j, none⟩) hlt).trans (hc j v hj), ObCame.below ho hb⟩
theorem item_len {o : Ob} {x : Itm} (h : itemO o = some x) : x.data.length ≤ 65536 := by
  unfold itemO at h
  split at h
  · cases h; exact encodeS_len o
  · cases h
theorem PoolOf.inn {os : List Ob} {xs : List Itm} (h : PoolOf os xs) {W : World} {a : Option Addr} {c : Nat} (hi : Its W.heap.size W a xs) (hc : xs.length ≤ c) (ho : os.length ≤ 1000) : PoolIn W a xs c :=
  ⟨hi, hc, by have := h.len; omega, fun x hx => by obtain ⟨o, _, hx⟩ := (h.mem x).1 hx; have := item_len hx; omega⟩
theorem snd_len (os : List Ob) (by_ : Nat) : ∀ i, (snd os by_ i).length ≤ i
  | 0 => by simp [snd]
  | i + 1 => by
    have := snd_len os by_ i
    rw [snd, List.length_append]
    have h2 : ((os[kth os.length by_ i]?).toList).length ≤ 1 := by cases os[kth os.length by_ i]? <;> simp
    omega
theorem snd_succ {os : List Ob} {by_ i : Nat} (h : kth os.length by_ i < os.length) : snd os by_ (i + 1) = snd os by_ i ++ [os[kth os.length by_ i]] := by
  rw [snd, List.getElem?_eq_getElem h]; rfl
/-- Two pools that hold what was put so far. -/
structure OL (os : List Ob) (by_ : Nat) (w wr : World) (k : Nat) (vp vq : Value) (ap : Option Addr) (cp : Nat) (ps : List Itm) (aq : Option Addr) (cq : Nat) (qs : List Itm) : Prop where
  vp : vp = .slice ap ps.length cp
  vq : vq = .slice aq qs.length cq
  ip : Its wr.heap.size wr ap ps
  iq : Its wr.heap.size wr aq qs
  cp : ps.length ≤ cp
  cq : qs.length ≤ cq
  pp : PoolOf (os.take k) ps
  pq : PoolOf (snd os by_ k) qs
  bel : Below w.heap.size w wr
def OX (os : List Ob) (by_ : Nat) (w : World) (k : Nat) (vp vq : Value) (wr : World) : Prop := ∃ ap cp ps aq cq qs, OL os by_ w wr k vp vq ap cp ps aq cq qs

set_option maxRecDepth 100000 in
set_option maxHeartbeats 4000000 in
theorem walk (a : Option Addr) (os : List Ob) (c : Nat) (b0 : Int) (wb : (Lit.int .u8 b0).wf = true) (w : World) (hO : ObsIn w.heap.size w a os) (hc : os.length ≤ c ∧ c ≤ maxLen) :
    Calls Try.prog 3 #[.slice a os.length c, .int .u8 b0] w fun e w' => e = .returned (.bool true) ∧ Below w.heap.size w w' := by
  have hb0 : 0 ≤ b0 ∧ b0 ≤ 255 := by
    simp [Lit.wf, IntKind.min, IntKind.max, IntKind.bits, IntKind.signed] at wb
    omega
  clear wb
  have HAW := Lib.hid awake_any
  have HO := Lib.hid hO
  obtain ⟨n, hn⟩ : ∃ n, n = os.length := ⟨_, rfl⟩
  rw [← hn] at hc ⊢
  have HN := Lib.hid hn
  unfold maxLen at hc
  obtain ⟨hc1, hc2⟩ := hc
  obtain ⟨by_, rfl⟩ : ∃ m : Nat, b0 = (m : Int) := ⟨b0.toNat, by omega⟩
  obtain ⟨hb1, hb2⟩ := hb0
  have hby : by_ ≤ 255 := by omega
  clear hO hn
  by_cases h8 : (8 : Int) < (n : Int)
  · have d8 : decide ((8 : Int) < (n : Int)) = true := by simpa using h8
    go_enter Try.func3, Try.ntmps3
    go_wp2_with fail
    have hx := HAW.out w
    (with_reducible refine hx.mono ?_)
    clear hx
    rintro e w' ⟨rfl, hb⟩
    have HB := Lib.hid hb
    clear hb
    go_wp2_with fail
    go_ret
    exact ⟨rfl, HB.out⟩
  · have d8 : decide ((8 : Int) < (n : Int)) = false := by simpa using h8
    have hn8 : n ≤ 8 := by omega
    go_enter Try.func3, Try.ntmps3
    go_wp2_with fail
    go_loopw [5, 6, 21] (fun vp vq i wr => ∃ k : Nat, k ≤ n ∧ i = .int .i64 k ∧ Hid (OX os by_ w k vp vq wr)) (fun _ _ i _ => n - (intOf i).toNat)
    case atStart => exact ⟨0, by omega, rfl, Lib.hid ⟨none, 0, [], none, 0, [], rfl, rfl, Its.nil _ _ _, Its.nil _ _ _, Nat.le_refl _, Nat.le_refl _, PoolOf.nil, PoolOf.nil, Below.refl _ _⟩⟩
    case round =>
      obtain ⟨k, hk, rfl, HX⟩ := hrel
      obtain ⟨ap, cp, ps, aq, cq, qs, hOL⟩ := HX.out
      obtain ⟨rfl, rfl, hip, hiq, hcp, hcq, hpp, hpq, hbel⟩ := hOL
      have HIP := Lib.hid hip
      have HIQ := Lib.hid hiq
      have HPP := Lib.hid hpp
      have HPQ := Lib.hid hpq
      have HBE := Lib.hid hbel
      have hws := hbel.size
      clear hip hiq hpp hpq hbel HX
      by_cases hlt : k < n
      · have h1 : k < os.length := by have := HN.out; omega
        have h2 : kth os.length by_ k < os.length := kth_lt (by omega)
        obtain ⟨k2, hk2⟩ : ∃ k2, k2 = kth os.length by_ k := ⟨_, rfl⟩
        have hkk : (n : Int) - 1 - ((k : Int) + (by_ : Int)) % (n : Int) = (k2 : Int) := by
          rw [hk2]; unfold kth
          have := Nat.mod_lt (k + by_) (show 0 < os.length by omega)
          rw [← HN.out] at this ⊢
          have e : ((k : Int) + (by_ : Int)) % (n : Int) = (((k + by_) % n : Nat) : Int) := by simp
          rw [e]
          omega
        have HKK := Lib.hid hkk
        have HSS := Lib.hid (snd_succ h2)
        rw [← hk2] at h2
        have hk2n : (k2 : Int) < (n : Int) := by have := HN.out; omega
        have HTS : Hid (os.take (k + 1) = os.take k ++ [os[k]]) := Lib.hid (List.take_succ_eq_append_getElem h1)
        obtain ⟨bk, ok, ea, ec, pa, pc, rfl, hbk, hcel, hcam⟩ := (ObsIn.below HO.out HBE.out) k h1
        obtain ⟨bk', ok', ea', ec', pa', pc', hbe, _, hcel', hcam'⟩ := (ObsIn.below HO.out HBE.out) k2 h2
        cases hbe
        have hs2 : os[kth os.length by_ k]'(by rw [← hk2]; exact h2) = os[k2] := by simp only [hk2]
        rw [hs2] at HSS
        clear hs2 hk2 hkk
        have HC := Lib.hid hcam
        have HC' := Lib.hid hcam'
        generalize os[k] = o at hcel HC HTS
        generalize os[k2] = o' at hcel' HC' HSS
        clear hcam hcam'
        have HGR := Lib.hid (great_any o ea ec pa pc wr HC.out)
        have HPU := Lib.hid (fun W (hW : Below wr.heap.size wr W) => put_any ap ps cp o ea ec pa pc W (PoolOf.inn HPP.out (HIP.out.ahead hW) hcp (by rw [List.length_take]; omega)) HPP.out.asc (ObCame.below HC.out hW).inn)
        have HPU' := Lib.hid (fun W (hW : Below wr.heap.size wr W) => put_any aq qs cq o' ea' ec' pa' pc' W (PoolOf.inn HPQ.out (HIQ.out.ahead hW) hcq (by have := snd_len os by_ k; omega)) HPQ.out.asc (ObCame.below HC'.out hW).inn)
        have HL := Lib.hid (put_law HPP.out.asc o)
        have HL' := Lib.hid (put_law HPQ.out.asc o')
        have HPA := Lib.hid (fun h => HPP.out.skip (o := o) h)
        have HPB := Lib.hid (fun (x : Itm) ys h1 h2 h3 h4 => HPP.out.add (o := o) (x := x) (ys := ys) h1 h2 h3 h4)
        have HQA := Lib.hid (fun h => HPQ.out.skip (o := o') h)
        have HQB := Lib.hid (fun (x : Itm) ys h1 h2 h3 h4 => HPQ.out.add (o := o') (x := x) (ys := ys) h1 h2 h3 h4)
        rw [← HTS.out] at HPA HPB
        rw [← HSS.out] at HQA HQB
        generalize greatS o = gr at HGR
        generalize putS ps o = P1 at HPU HL
        generalize putS qs o' = P2 at HPU' HL'
        generalize itemO o = io at HL HPA HPB
        generalize itemO o' = io' at HL' HQA HQB
        clear HC HC' HTS HSS
        obtain ⟨ys, ⟨e1, e2⟩, er⟩ := P1
        obtain ⟨zs, ⟨f1, f2⟩, fr⟩ := P2
        obtain ⟨kind, data, ents, ⟨t1, t2⟩, pars, author, time, msg⟩ := o
        obtain ⟨kind', data', ents', ⟨t1', t2'⟩, pars', author', time', msg'⟩ := o'
        simp only [Ob.val] at HGR HPU HPU'
        simp only at HL HL'
        have q0 : wr.cell? ⟨bk, ok + k * 9, none⟩ = some (.int .i64 kind) := hcel 0 _ rfl
        have q1 : wr.cell? ⟨bk, ok + k * 9 + 1, none⟩ = some (.string ⟨data.toArray⟩) := hcel 1 _ rfl
        have q2 : wr.cell? ⟨bk, ok + k * 9 + 2, none⟩ = some (.slice ea ents.length ec) := hcel 2 _ rfl
        have q3 : wr.cell? ⟨bk, ok + k * 9 + 3, none⟩ = some (.int .u64 t1) := hcel 3 _ rfl
        have q4 : wr.cell? ⟨bk, ok + k * 9 + 4, none⟩ = some (.int .u64 t2) := hcel 4 _ rfl
        have q5 : wr.cell? ⟨bk, ok + k * 9 + 5, none⟩ = some (.slice pa pars.length pc) := hcel 5 _ rfl
        have q6 : wr.cell? ⟨bk, ok + k * 9 + 6, none⟩ = some (.string ⟨author.toArray⟩) := hcel 6 _ rfl
        have q7 : wr.cell? ⟨bk, ok + k * 9 + 7, none⟩ = some (.int .i64 time) := hcel 7 _ rfl
        have q8 : wr.cell? ⟨bk, ok + k * 9 + 8, none⟩ = some (.string ⟨msg.toArray⟩) := hcel 8 _ rfl
        have r0 : wr.cell? ⟨bk, ok + k2 * 9, none⟩ = some (.int .i64 kind') := hcel' 0 _ rfl
        have r1 : wr.cell? ⟨bk, ok + k2 * 9 + 1, none⟩ = some (.string ⟨data'.toArray⟩) := hcel' 1 _ rfl
        have r2 : wr.cell? ⟨bk, ok + k2 * 9 + 2, none⟩ = some (.slice ea' ents'.length ec') := hcel' 2 _ rfl
        have r3 : wr.cell? ⟨bk, ok + k2 * 9 + 3, none⟩ = some (.int .u64 t1') := hcel' 3 _ rfl
        have r4 : wr.cell? ⟨bk, ok + k2 * 9 + 4, none⟩ = some (.int .u64 t2') := hcel' 4 _ rfl
        have r5 : wr.cell? ⟨bk, ok + k2 * 9 + 5, none⟩ = some (.slice pa' pars'.length pc') := hcel' 5 _ rfl
        have r6 : wr.cell? ⟨bk, ok + k2 * 9 + 6, none⟩ = some (.string ⟨author'.toArray⟩) := hcel' 6 _ rfl
        have r7 : wr.cell? ⟨bk, ok + k2 * 9 + 7, none⟩ = some (.int .i64 time') := hcel' 7 _ rfl
        have r8 : wr.cell? ⟨bk, ok + k2 * 9 + 8, none⟩ = some (.string ⟨msg'.toArray⟩) := hcel' 8 _ rfl
        clear hcel hcel'
        generalize ents.length = ne at HGR HPU q2
        generalize pars.length = np at HGR HPU q5
        generalize ents'.length = ne' at HPU' r2
        generalize pars'.length = np' at HPU' r5
        generalize hps : ps.length = pl at HPU
        generalize hqs : qs.length = ql at HPU'
        have HPS := Lib.hid hps
        have HQS := Lib.hid hqs
        try rw [hps]
        try rw [hqs]
        clear hps hqs
        have hlt' : (k : Int) < (n : Int) := by omega
        go_wp2_with fail
        have hx := HGR.out
        (with_reducible refine hx.mono ?_)
        clear hx HGR
        rintro e w1 ⟨rfl, hg1⟩
        have HG1 := Lib.hid hg1
        have HB1 : Hid (Below w.heap.size w w1) := Lib.hid (HBE.out.trans (hg1.mono hws))
        have hz1 := hg1.size
        have s0 := (HG1.out.cell (p := ⟨bk, ok + k * 9, none⟩) hbk).trans q0
        have s1 := (HG1.out.cell (p := ⟨bk, ok + k * 9 + 1, none⟩) hbk).trans q1
        have s2 := (HG1.out.cell (p := ⟨bk, ok + k * 9 + 2, none⟩) hbk).trans q2
        have s3 := (HG1.out.cell (p := ⟨bk, ok + k * 9 + 3, none⟩) hbk).trans q3
        have s4 := (HG1.out.cell (p := ⟨bk, ok + k * 9 + 4, none⟩) hbk).trans q4
        have s5 := (HG1.out.cell (p := ⟨bk, ok + k * 9 + 5, none⟩) hbk).trans q5
        have s6 := (HG1.out.cell (p := ⟨bk, ok + k * 9 + 6, none⟩) hbk).trans q6
        have s7 := (HG1.out.cell (p := ⟨bk, ok + k * 9 + 7, none⟩) hbk).trans q7
        have s8 := (HG1.out.cell (p := ⟨bk, ok + k * 9 + 8, none⟩) hbk).trans q8
        clear q0 q1 q2 q3 q4 q5 q6 q7 q8 hg1
        cases gr with
        | true =>
          go_wp2_with fail
          have hx := HAW.out w1
          (with_reducible refine hx.mono ?_)
          clear hx
          rintro e w' ⟨rfl, hb⟩
          have HB := Lib.hid (HB1.out.trans (hb.mono (by omega)))
          clear hb
          go_wp2_with fail
          go_ret
          exact ⟨rfl, HB.out⟩
        | false =>
          go_upto_region 10 with (fail)
          have hwk : wrap64 (k2 : Int) = (k2 : Int) := by unfold wrap64; omega
          rw [HKK.out, hwk]
          clear hwk
          go_wp2_with fail
          have hx := HPU.out w1 HG1.out
          (with_reducible refine hx.mono ?_)
          clear hx HPU s0 s1 s2 s3 s4 s5 s6 s7 s8
          rintro e w2 ⟨ra, rc, rfl, hpo⟩
          simp only at hpo
          have HB3 : Hid (Below w.heap.size w (w2.alloc (.cells #[.int .u64 e1, .int .u64 e2] 30))) := Lib.hid ((HB1.out.trans (hpo.2.2.2.mono (by omega))).alloc (by have := hpo.2.2.2.size; omega) _)
          have HW3 : Hid (Below wr.heap.size wr (w2.alloc (.cells #[.int .u64 e1, .int .u64 e2] 30))) := Lib.hid ((HG1.out.trans (hpo.2.2.2.mono hz1)).alloc (by have := hpo.2.2.2.size; omega) _)
          have HIY : Hid (Its (w2.alloc (.cells #[.int .u64 e1, .int .u64 e2] 30)).heap.size (w2.alloc (.cells #[.int .u64 e1, .int .u64 e2] 30)) ra ys) := Lib.hid (hpo.1.ahead ((Below.refl _ _).alloc (Nat.le_refl _) _))
          have hrc := hpo.2.1
          have hz2 : wr.heap.size ≤ w2.heap.size := by have := hpo.2.2.2.size; omega
          have hz3 : w.heap.size ≤ w2.heap.size := by omega
          have v0 := (HW3.out.cell (p := ⟨bk, ok + k2 * 9, none⟩) hbk).trans r0
          have v1 := (HW3.out.cell (p := ⟨bk, ok + k2 * 9 + 1, none⟩) hbk).trans r1
          have v2 := (HW3.out.cell (p := ⟨bk, ok + k2 * 9 + 2, none⟩) hbk).trans r2
          have v3 := (HW3.out.cell (p := ⟨bk, ok + k2 * 9 + 3, none⟩) hbk).trans r3
          have v4 := (HW3.out.cell (p := ⟨bk, ok + k2 * 9 + 4, none⟩) hbk).trans r4
          have v5 := (HW3.out.cell (p := ⟨bk, ok + k2 * 9 + 5, none⟩) hbk).trans r5
          have v6 := (HW3.out.cell (p := ⟨bk, ok + k2 * 9 + 6, none⟩) hbk).trans r6
          have v7 := (HW3.out.cell (p := ⟨bk, ok + k2 * 9 + 7, none⟩) hbk).trans r7
          have v8 := (HW3.out.cell (p := ⟨bk, ok + k2 * 9 + 8, none⟩) hbk).trans r8
          clear hpo HG1 HB1 r0 r1 r2 r3 r4 r5 r6 r7 r8
          rcases HL.out with ⟨g1, g2, g3⟩ | g1 | ⟨g1, x, g3, g4, g5, g6⟩
          · have c1 : (er == 0) = false := by simpa using g1
            have c2 : (er == 16) = false := by simpa using g2
            have HPN : Hid (PoolOf (os.take (k + 1)) ps) := Lib.hid (HPA.out g3)
            have HIN : Hid (Its (w2.alloc (.cells #[.int .u64 e1, .int .u64 e2] 30)).heap.size (w2.alloc (.cells #[.int .u64 e1, .int .u64 e2] 30)) ap ps) := Lib.hid (HIP.out.ahead HW3.out)
            clear g1 g2 g3 HPA HPB HL HIY
            go_wp2_with fail
            have hx := HPU'.out _ HW3.out
            (with_reducible refine hx.mono ?_)
            clear hx HPU' v0 v1 v2 v3 v4 v5 v6 v7 v8
            rintro e w4 ⟨ra', rc', rfl, hpo⟩
            simp only at hpo
            have HB5 : Hid (Below w.heap.size w (w4.alloc (.cells #[.int .u64 f1, .int .u64 f2] 30))) := Lib.hid ((HB3.out.trans (hpo.2.2.2.mono (by simp; omega))).alloc (by have := hpo.2.2.2.size; simp at this; omega) _)
            have HW5 : Hid (Below wr.heap.size wr (w4.alloc (.cells #[.int .u64 f1, .int .u64 f2] 30))) := Lib.hid ((HW3.out.trans (hpo.2.2.2.mono (by simp; omega))).alloc (by have := hpo.2.2.2.size; simp at this; omega) _)
            have HIP5 : Hid (Its (w4.alloc (.cells #[.int .u64 f1, .int .u64 f2] 30)).heap.size (w4.alloc (.cells #[.int .u64 f1, .int .u64 f2] 30)) ap ps) := Lib.hid (HIN.out.ahead (hpo.2.2.2.alloc (by have := hpo.2.2.2.size; exact this) _))
            have HIZ : Hid (Its (w4.alloc (.cells #[.int .u64 f1, .int .u64 f2] 30)).heap.size (w4.alloc (.cells #[.int .u64 f1, .int .u64 f2] 30)) ra' zs) := Lib.hid (hpo.1.ahead ((Below.refl _ _).alloc (Nat.le_refl _) _))
            have hrc' := hpo.2.1
            have hz4 : w.heap.size ≤ w4.heap.size := by have := hpo.2.2.2.size; simp at this; omega
            clear hpo
            rcases HL'.out with ⟨g1, g2, g3⟩ | g1 | ⟨g1, x, g3, g4, g5, g6⟩
            · have c1' : (fr == 0) = false := by simpa using g1
              have c2' : (fr == 16) = false := by simpa using g2
              have HF : Hid (OX os by_ w (k + 1) (.slice ap pl cp) (.slice aq ql cq) (w4.alloc (.cells #[.int .u64 f1, .int .u64 f2] 30))) := Lib.hid ⟨ap, cp, ps, aq, cq, qs, by rw [HPS.out], by rw [HQS.out], HIP5.out, HIQ.out.ahead HW5.out, by first | exact hcp | (rw [HPS.out]; exact hrc), hcq, HPN.out, HQA.out g3, HB5.out⟩
              clear g1 g2 g3 HQA HQB HL' HIZ HIP5 HB5 HW5
              go_wp2_with fail
              go_roundw
              case rel => exact ⟨k + 1, by omega, by go_num, HF⟩
              case measure => simp [intOf]; omega
            · subst g1
              go_wp2_with fail
              have hx := HAW.out (w4.alloc (.cells #[.int .u64 f1, .int .u64 f2] 30))
              (with_reducible refine hx.mono ?_)
              clear hx
              rintro e w' ⟨rfl, hb⟩
              have HB := Lib.hid (HB5.out.trans (hb.mono (by simp; omega)))
              clear hb
              go_wp2_with fail
              go_ret
              exact ⟨rfl, HB.out⟩
            · subst g1
              have HF : Hid (OX os by_ w (k + 1) (.slice ap pl cp) (.slice ra' zs.length rc') (w4.alloc (.cells #[.int .u64 f1, .int .u64 f2] 30))) := Lib.hid ⟨ap, cp, ps, ra', rc', zs, by rw [HPS.out], rfl, HIP5.out, HIZ.out, by first | exact hcp | (rw [HPS.out]; exact hrc), hrc', HPN.out, HQB.out x zs g3 g4 g5 g6, HB5.out⟩
              clear g3 g4 g5 g6 HQA HQB HL' HIZ HIP5 HB5 HW5
              generalize zs.length = zl at HF ⊢
              go_wp2_with fail
              go_roundw
              case rel => exact ⟨k + 1, by omega, by go_num, HF⟩
              case measure => simp [intOf]; omega
          · subst g1
            clear HPA HPB HL HIY
            go_wp2_with fail
            have hx := HAW.out (w2.alloc (.cells #[.int .u64 e1, .int .u64 e2] 30))
            (with_reducible refine hx.mono ?_)
            clear hx
            rintro e w' ⟨rfl, hb⟩
            have HB := Lib.hid (HB3.out.trans (hb.mono (by simp; omega)))
            clear hb
            go_wp2_with fail
            go_ret
            exact ⟨rfl, HB.out⟩
          · subst g1
            have HPN : Hid (PoolOf (os.take (k + 1)) ys) := Lib.hid (HPB.out x ys g3 g4 g5 g6)
            have HIN := Lib.hid HIY.out
            clear g3 g4 g5 g6 HPA HPB HL HIY
            obtain ⟨yl, hyl⟩ : ∃ yl, yl = ys.length := ⟨_, rfl⟩
            have HPS2 : Hid (ys.length = yl) := Lib.hid hyl.symm
            rw [← hyl] at hrc ⊢
            clear hyl
            go_wp2_with fail
            have hx := HPU'.out _ HW3.out
            (with_reducible refine hx.mono ?_)
            clear hx HPU' v0 v1 v2 v3 v4 v5 v6 v7 v8
            rintro e w4 ⟨ra', rc', rfl, hpo⟩
            simp only at hpo
            have HB5 : Hid (Below w.heap.size w (w4.alloc (.cells #[.int .u64 f1, .int .u64 f2] 30))) := Lib.hid ((HB3.out.trans (hpo.2.2.2.mono (by simp; omega))).alloc (by have := hpo.2.2.2.size; simp at this; omega) _)
            have HW5 : Hid (Below wr.heap.size wr (w4.alloc (.cells #[.int .u64 f1, .int .u64 f2] 30))) := Lib.hid ((HW3.out.trans (hpo.2.2.2.mono (by simp; omega))).alloc (by have := hpo.2.2.2.size; simp at this; omega) _)
            have HIP5 : Hid (Its (w4.alloc (.cells #[.int .u64 f1, .int .u64 f2] 30)).heap.size (w4.alloc (.cells #[.int .u64 f1, .int .u64 f2] 30)) ra ys) := Lib.hid (HIN.out.ahead (hpo.2.2.2.alloc (by have := hpo.2.2.2.size; exact this) _))
            have HIZ : Hid (Its (w4.alloc (.cells #[.int .u64 f1, .int .u64 f2] 30)).heap.size (w4.alloc (.cells #[.int .u64 f1, .int .u64 f2] 30)) ra' zs) := Lib.hid (hpo.1.ahead ((Below.refl _ _).alloc (Nat.le_refl _) _))
            have hrc' := hpo.2.1
            have hz4 : w.heap.size ≤ w4.heap.size := by have := hpo.2.2.2.size; simp at this; omega
            clear hpo
            rcases HL'.out with ⟨g1, g2, g3⟩ | g1 | ⟨g1, x, g3, g4, g5, g6⟩
            · have c1' : (fr == 0) = false := by simpa using g1
              have c2' : (fr == 16) = false := by simpa using g2
              have HF : Hid (OX os by_ w (k + 1) (.slice ra yl rc) (.slice aq ql cq) (w4.alloc (.cells #[.int .u64 f1, .int .u64 f2] 30))) := Lib.hid ⟨ra, rc, ys, aq, cq, qs, by rw [HPS2.out], by rw [HQS.out], HIP5.out, HIQ.out.ahead HW5.out, by first | exact hcp | (rw [HPS2.out]; exact hrc), hcq, HPN.out, HQA.out g3, HB5.out⟩
              clear g1 g2 g3 HQA HQB HL' HIZ HIP5 HB5 HW5
              go_wp2_with fail
              go_roundw
              case rel => exact ⟨k + 1, by omega, by go_num, HF⟩
              case measure => simp [intOf]; omega
            · subst g1
              go_wp2_with fail
              have hx := HAW.out (w4.alloc (.cells #[.int .u64 f1, .int .u64 f2] 30))
              (with_reducible refine hx.mono ?_)
              clear hx
              rintro e w' ⟨rfl, hb⟩
              have HB := Lib.hid (HB5.out.trans (hb.mono (by simp; omega)))
              clear hb
              go_wp2_with fail
              go_ret
              exact ⟨rfl, HB.out⟩
            · subst g1
              have HF : Hid (OX os by_ w (k + 1) (.slice ra yl rc) (.slice ra' zs.length rc') (w4.alloc (.cells #[.int .u64 f1, .int .u64 f2] 30))) := Lib.hid ⟨ra, rc, ys, ra', rc', zs, by rw [HPS2.out], rfl, HIP5.out, HIZ.out, by first | exact hcp | (rw [HPS2.out]; exact hrc), hrc', HPN.out, HQB.out x zs g3 g4 g5 g6, HB5.out⟩
              clear g3 g4 g5 g6 HQA HQB HL' HIZ HIP5 HB5 HW5
              generalize zs.length = zl at HF ⊢
              go_wp2_with fail
              go_roundw
              case rel => exact ⟨k + 1, by omega, by go_num, HF⟩
              case measure => simp [intOf]; omega
      · obtain rfl : n = k := by omega
        have HSM := Lib.hid (same_any ap aq ps qs cp cq wr HIP.out HIQ.out (by have := HPP.out.len; rw [List.length_take] at this; omega) (by have := HPQ.out.len; have := snd_len os by_ n; omega))
        have heq : ps = qs := PoolOf.same HPP.out HPQ.out (fun o => by
          rw [List.take_of_length_le (by have := HN.out; omega), HN.out]
          exact snd_all os by_ o)
        rw [decide_eq_true heq] at HSM
        generalize ps.length = pl at HSM ⊢
        generalize qs.length = ql at HSM ⊢
        clear heq
        go_wp2_with fail
        have hx := HSM.out
        (with_reducible refine hx.mono ?_)
        clear hx HSM
        rintro e w1 ⟨rfl, hb⟩
        have HB1 := Lib.hid (HBE.out.trans (hb.mono hws))
        have hz1 := HB1.out.size
        clear hb
        go_wp2_with fail
        have hx := HAW.out w1
        (with_reducible refine hx.mono ?_)
        clear hx
        rintro e w' ⟨rfl, hb⟩
        have HB := Lib.hid (HB1.out.trans (hb.mono hz1))
        clear hb
        go_wp2_with fail
        go_ret
        exact ⟨rfl, HB.out⟩

end Go.Proofs.Ytlfodnehgedpmaa.poolOrder
