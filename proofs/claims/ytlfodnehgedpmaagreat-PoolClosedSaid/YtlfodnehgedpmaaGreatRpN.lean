/- cordwoodref08.Reach. -/
import Derived.Test.YtlfodnehgedpmaaGreatRpM
namespace Go.Proofs.YtlfodnehgedpmaaGreat
open Go.RowKit Go.Shelf
set_option linter.unusedVariables false

def GotDD (w : World) (r : List (Int × Int) × List (Int × Int)) (e : Ending) (w' : World) : Prop :=
  ∃ a c a' c', e = .returned (.tuple #[.slice a r.1.length c, .slice a' r.2.length c']) ∧ Digs w'.heap.size w' a r.1 ∧ Digs w'.heap.size w' a' r.2 ∧ Below w.heap.size w w'
theorem withS_len : ∀ (l : List (Int × Int)) (d : Int × Int), (withS l d).length ≤ l.length + 1
  | [], d => by simp [withS, posD]
  | y :: l, d => by
    rw [withS_cons]
    have := withS_len l d
    split
    · simp; omega
    · split <;> simp
/-- The search in memory. -/
structure RMem (w wr : World) (ta : Option Addr) (tc : Nat) (ma : Option Addr) (mc : Nat) (v : Value) (WL T M : List (Int × Int)) : Prop where
  dt : Digs wr.heap.size wr ta T
  dm : Digs wr.heap.size wr ma M
  tc : T.length ≤ tc
  mc : M.length ≤ mc
  ow : wr.ownsRow w.heap.size 26 2 v WL.length (dcells WL)
  at' : ∀ ad, ta = some ad → ad.block < wr.heap.size ∧ v.ownBlock ≠ some ad.block
  am : ∀ ad, ma = some ad → ad.block < wr.heap.size ∧ v.ownBlock ≠ some ad.block
  be : Below w.heap.size w wr
section
variable {w wr W' : World} {ta ma a : Option Addr} {tc mc c : Nat} {v v' : Value} {WL T M T' M' WL' : List (Int × Int)}
theorem RMem.below (h : RMem w wr ta tc ma mc v WL T M) (hb : Below wr.heap.size wr W') : RMem w W' ta tc ma mc v WL T M :=
  ⟨h.dt.ahead hb, h.dm.ahead hb, h.tc, h.mc, own_below h.ow hb, fun ad e => ⟨Nat.lt_of_lt_of_le (h.at' ad e).1 hb.size, (h.at' ad e).2⟩, fun ad e => ⟨Nat.lt_of_lt_of_le (h.am ad e).1 hb.size, (h.am ad e).2⟩, h.be.trans (hb.mono h.be.size)⟩
theorem RMem.alloc (h : RMem w wr ta tc ma mc v WL T M) (o : Obj) : RMem w (wr.alloc o) ta tc ma mc v WL T M := h.below ((Below.refl _ _).alloc (Nat.le_refl _) _)
theorem digs_lt {B : Nat} {W : World} {ds : List (Int × Int)} {d : Int × Int} (h : Digs B W a ds) (hd : d ∈ ds) : ∀ ad, a = some ad → ad.block < B := by
  intro ad e
  obtain ⟨b, off, h1, h2, _⟩ := h 0 (List.length_pos_of_mem hd)
  rw [h1] at e
  cases e
  exact h2
theorem RMem.new (h : RMem w wr ta tc ma mc v WL T M) (hb : Below wr.heap.size wr W') {d : Int × Int} {L : List (Int × Int)} {pa : Option Addr} (hpa : ∀ ad, pa = some ad → ad.block < wr.heap.size ∧ v.ownBlock ≠ some ad.block) (hd : Digs W'.heap.size W' a L) (hm : d ∈ L) (ho : a = pa ∨ ∀ ad, a = some ad → wr.heap.size ≤ ad.block) : ∀ ad, a = some ad → ad.block < W'.heap.size ∧ v.ownBlock ≠ some ad.block := by
  intro ad e
  refine ⟨digs_lt hd hm ad e, fun hv => ?_⟩
  rcases ho with h1 | h1
  · exact (hpa ad (by rw [← h1, e])).2 hv
  · have h2 := (h.ow.lt _ hv).2
    have h3 := h1 ad e
    omega
theorem RMem.putT (h : RMem w wr ta tc ma mc v WL T M) (hb : Below wr.heap.size wr W') {d : Int × Int} (hd : Digs W'.heap.size W' a T') (hc : T'.length ≤ c) (hm : d ∈ T') (ho : a = ta ∨ ∀ ad, a = some ad → wr.heap.size ≤ ad.block) : RMem w W' a c ma mc v WL T' M :=
  have g := h.below hb
  ⟨hd, g.dm, hc, g.mc, g.ow, h.new hb h.at' hd hm ho, g.am, g.be⟩
theorem RMem.putM (h : RMem w wr ta tc ma mc v WL T M) (hb : Below wr.heap.size wr W') {d : Int × Int} (hd : Digs W'.heap.size W' a M') (hc : M'.length ≤ c) (hm : d ∈ M') (ho : a = ma ∨ ∀ ad, a = some ad → wr.heap.size ≤ ad.block) : RMem w W' ta tc a c v WL T M' :=
  have g := h.below hb
  ⟨g.dt, hd, g.tc, hc, g.ow, g.at', h.new hb h.am hd hm ho, g.be⟩
theorem RMem.push (h : RMem w wr ta tc ma mc v WL T M) (hown : W'.ownsRow w.heap.size 26 2 v' WL'.length (dcells WL')) (hg : wr.grownBy W' v.ownBlock) (hat : v'.ownBlock = v.ownBlock ∨ v'.ownBlock = some wr.heap.size) : RMem w W' ta tc ma mc v' WL' T M := by
  have key : ∀ ad : Addr, (ad.block < wr.heap.size ∧ v.ownBlock ≠ some ad.block) → ad.block < W'.heap.size ∧ v'.ownBlock ≠ some ad.block := fun ad h1 => by
    refine ⟨Nat.lt_of_lt_of_le h1.1 hg.size, fun e => ?_⟩
    rcases hat with h2 | h2
    · exact h1.2 (by rw [← h2]; exact e)
    · rw [h2] at e
      have := Option.some.inj e
      omega
  exact ⟨h.dt.kept hg (fun _ ad e => (h.at' ad e).2), h.dm.kept hg (fun _ ad e => (h.am ad e).2), h.tc, h.mc, hown, fun ad e => key ad (h.at' ad e), fun ad e => key ad (h.am ad e), below_own h.be h.ow hg (Nat.le_refl _)⟩
end
/-- The search on paper. -/
structure REq (xs : List Itm) (R : List (Int × Int) × List (Int × Int)) (F f j : Nat) (WL T M : List (Int × Int)) : Prop where
  kl : j ≤ WL.length
  eq : R = refF xs f (WL.drop j) T M
  me : mea xs (WL.drop j) T ≤ f
  jf : j + f ≤ F
  tm : T.length + M.length + f ≤ F
section
variable {xs : List Itm} {R : List (Int × Int) × List (Int × Int)} {F f j : Nat} {WL T M : List (Int × Int)}
theorem REq.len (h : REq xs R F f j WL T M) : WL.length ≤ F := by
  have h1 := h.me
  have h2 := h.jf
  have h3 := h.kl
  unfold mea at h1
  rw [List.length_drop] at h1
  omega
theorem REq.pos (h : REq xs R F f j WL T M) (hj : j < WL.length) : ∃ g, f = g + 1 := by
  have h1 := h.me
  unfold mea at h1
  rw [List.length_drop] at h1
  exact ⟨f - 1, by omega⟩
theorem REq.fin (h : REq xs R F f j WL T M) (hj : ¬ j < WL.length) : R = (T, M) := by
  rw [h.eq, List.drop_of_length_le (by omega)]
  cases f <;> rfl
theorem REq.skip (h : REq xs R F (f + 1) j WL T M) (hj : j < WL.length) (hd : WL[j] = (0, 0) ∨ WL[j] ∈ T) : REq xs R F f (j + 1) WL T M := by
  have h1 := h.eq
  have h2 := h.me
  rw [List.drop_eq_getElem_cons hj] at h1 h2
  rw [refF, if_pos hd] at h1
  rw [mea_cons] at h2
  have h3 := mea_pop xs (WL.drop (j + 1)) T WL[j]
  exact ⟨hj, h1, by omega, by have := h.jf; omega, by have := h.tm; omega⟩
theorem REq.miss (h : REq xs R F (f + 1) j WL T M) (hj : j < WL.length) (hd : ¬ (WL[j] = (0, 0) ∨ WL[j] ∈ T)) (he : (getS xs WL[j]).2 ≠ 0) : REq xs R F f (j + 1) WL T (withS M WL[j]) := by
  have h1 := h.eq
  have h2 := h.me
  rw [List.drop_eq_getElem_cons hj] at h1 h2
  rw [refF, if_neg hd, if_pos he] at h1
  rw [mea_cons] at h2
  have h3 := mea_pop xs (WL.drop (j + 1)) T WL[j]
  exact ⟨hj, h1, by omega, by have := h.jf; omega, by have := h.tm; have := withS_len M WL[j]; omega⟩
theorem REq.hit (h : REq xs R F (f + 1) j WL T M) (hj : j < WL.length) (hd : ¬ (WL[j] = (0, 0) ∨ WL[j] ∈ T)) (he : (getS xs WL[j]).2 = 0) : REq xs R F f (j + 1) (WL ++ linksS (getS xs WL[j]).1) (withS T WL[j]) M := by
  have h1 := h.eq
  have h2 := h.me
  rw [List.drop_eq_getElem_cons hj] at h1 h2
  rw [refF, if_neg hd, if_neg (by simpa using he)] at h1
  rw [mea_cons] at h2
  have h3 := mea_hit (op := WL.drop (j + 1)) (fun e => hd (.inr e)) he (links_le (getS xs WL[j]).1)
  refine ⟨by rw [List.length_append]; omega, ?_, ?_, by have := h.jf; omega, by have := h.tm; have := withS_len T WL[j]; omega⟩
  · rw [List.drop_append_of_le_length hj]; exact h1
  · rw [List.drop_append_of_le_length hj, mea_with]; exact Nat.le_of_succ_le_succ (Nat.le_trans h3 h2)
end
def RY (xs : List Itm) (R : List (Int × Int) × List (Int × Int)) (F : Nat) (w : World) (f : Nat) (v6 v7 v8 iv : Value) (wr : World) : Prop :=
  ∃ j WL T M ta tc ma mc, v6 = .slice ta T.length tc ∧ v7 = .slice ma M.length mc ∧ iv = .int .i64 (j : Nat) ∧ RMem w wr ta tc ma mc v8 WL T M ∧ REq xs R F f j WL T M
theorem get_okO {xs : List Itm} {d : Int × Int} (h : (getS xs d).2 = 0) : OkO (getS xs d).1 := by
  obtain ⟨x, _, _, hd⟩ := getS_good h
  have hg : decodeS x.data = ((getS xs d).1, 0) := by rw [hd, ← h]
  exact (decode_good hg).2

set_option maxRecDepth 100000 in
set_option maxHeartbeats 8000000 in
theorem rreach_any (a : Option Addr) (xs : List Itm) (c : Nat) (ra : Option Addr) (roots : List (Int × Int)) (rc : Nat) (w : World) (hp : Its w.heap.size w a xs) (ha : Asc xs) (hr : Digs w.heap.size w ra roots) (hxl : (xs.length : Int) ≤ 80) (hrl : (roots.length : Int) ≤ 10000) (hd : ∀ x ∈ xs, (x.data.length : Int) ≤ 1000000) :
    Calls Tryz.prog 36 #[.slice a xs.length c, .slice ra roots.length rc] w (GotDD w (reachS xs roots)) := by
  have HG := Lib.hid (fun d1 d2 W (hW : Below w.heap.size w W) => rget_any a xs c d1 d2 W (hp.ahead hW) ha (by omega) hd)
  have hfu : ((fuelR xs roots : Nat) : Int) ≤ 90000 := by unfold fuelR; omega
  obtain ⟨R, hR⟩ : ∃ R, R = reachS xs roots := ⟨_, rfl⟩
  have HE0 : Hid (REq xs R (fuelR xs roots) (fuelR xs roots) 0 roots [] []) := Lib.hid ⟨by omega, by rw [hR, ← refF_eq]; rfl, mea_nil xs roots, by omega, by simp⟩
  rw [← hR]
  generalize fuelR xs roots = F at HE0 hfu
  obtain ⟨n, hn⟩ : ∃ n, n = xs.length := ⟨_, rfl⟩
  obtain ⟨rn, hrn⟩ : ∃ rn, rn = roots.length := ⟨_, rfl⟩
  obtain ⟨w1, hw1⟩ : ∃ w1, w1 = w.alloc (.cells #[] 26) := ⟨_, rfl⟩
  have hb1 : Below w.heap.size w w1 := by rw [hw1]; exact (Below.refl _ w).alloc (Nat.le_refl _) _
  have hoe : w1.ownsRow w.heap.size 26 2 (.slice (some ⟨w.heap.size, 0, none⟩) 0 0) 0 [] := by rw [hw1]; exact own_empty _ _ _ _ (Nat.le_refl _)
  obtain ⟨v', W1, hrun, hown, hg1, hat⟩ := append_digs w1 w.heap.size 33 (.slice (some ⟨w.heap.size, 0, none⟩) 0 0) [] hoe ra roots rc (hr.ahead hb1) (by simp; omega) hb1.size
  have HM0 : Hid (RMem w W1 none 0 none 0 v' roots [] []) := Lib.hid ⟨Digs.nil _ _ _, Digs.nil _ _ _, Nat.le_refl _, Nat.le_refl _, hown, fun ad e => (by cases e), fun ad e => (by cases e), below_own hb1 hoe hg1 (Nat.le_refl _)⟩
  rw [← hrn, hw1] at hrun
  have HRUN := Lib.hid hrun
  rw [← hn] at HG ⊢
  rw [← hrn]
  clear hp ha hr hn hrn hrun hown hg1 hat hb1 hoe hw1 hR hxl hrl hd w1
  go_enter Tryz.func36, Tryz.ntmps36
  go_wp2_with (at_builtin; refine Lib.wpList_append_run _ rfl _ _ _ _ rfl _ _ rfl rfl _ _ HRUN.out ?_)
  go_loopg [6, 7, 8, 9] F (fun k v6 v7 v8 iv wr => Hid (RY xs R F w k v6 v7 v8 iv wr))
  case atStart => exact Lib.hid ⟨0, roots, [], [], none, 0, none, 0, rfl, rfl, rfl, HM0.out, HE0.out⟩
  case round =>
    clear HM0 HE0 HRUN
    obtain ⟨j, WL, T, M, ta, tc, ma, mc, rfl, rfl, rfl, hm, he⟩ := hrel.out
    have HM := Lib.hid hm
    have HE := Lib.hid he
    clear hm he hrel
    have hwl := HE.out.len
    have htm := HE.out.tm
    obtain ⟨wa, wc, rfl, hwc⟩ := ownsRow_sliceN HM.out.ow
    obtain ⟨len, hlen⟩ : ∃ len, len = WL.length := ⟨_, rfl⟩
    have HL := Lib.hid hlen
    by_cases hj : j < WL.length
    · obtain ⟨gk2, rfl⟩ := HE.out.pos hj
      have hdg := ownsRow_digs HM.out.ow
      obtain ⟨b0, o0, haa, hb0, q0, q1⟩ := hdg j hj
      subst haa
      have HSK := Lib.hid (fun h => HE.out.skip hj h)
      have HMI := Lib.hid (fun h1 h2 => HE.out.miss hj h1 h2)
      have HHI := Lib.hid (fun h1 h2 => HE.out.hit hj h1 h2)
      have hj' : j < len := by omega
      have hjb : j < 90000 := by omega
      rw [← hlen] at hwc ⊢
      clear hdg hlen HE
      generalize WL[j] = d at q0 q1 HSK HMI HHI
      clear hj
      obtain ⟨d1, d2⟩ := d
      simp only at q0 q1
      obtain ⟨u0, hu0⟩ : ∃ u0, u0 = wr.alloc (.cells #[.int .u64 d1, .int .u64 d2] 26) := ⟨_, rfl⟩
      have HM0 : Hid (RMem w u0 ta tc ma mc _ WL T M) := Lib.hid (by rw [hu0]; exact HM.out.alloc _)
      have HK0 : Hid (BK wr.heap.size #[.int .u64 d1, .int .u64 d2] 26 u0) := Lib.hid (by rw [hu0]; exact BK.new _ _ _)
      have HIN := Lib.hid (rin_any ta T tc d1 d2 u0 HM0.out.dt (by omega))
      have hq := fun W => eql_dig d1 d2 0 0 W
      rw [hu0] at HIN
      have HU0 := Lib.hid hu0
      clear hu0 HM
      cases hz : (d1 == 0 && d2 == 0) with
      | true =>
        rw [hz] at hq
        have HE1 := Lib.hid (HSK.out (.inl (by simp only [Bool.and_eq_true, beq_iff_eq] at hz; rw [hz.1, hz.2])))
        clear HSK HMI HHI hz HIN
        have HRY : Hid (RY xs R F w gk2 (.slice ta T.length tc) (.slice ma M.length mc) (.slice (some ⟨b0, o0, none⟩) len wc) (.int .i64 ((j + 1 : Nat) : Int)) u0) := Lib.hid ⟨j + 1, WL, T, M, ta, tc, ma, mc, rfl, rfl, rfl, by rw [HL.out]; exact HM0.out, HE1.out⟩
        rw [HU0.out] at HRY
        rw [show (((j + 1 : Nat) : Int)) = (j : Int) + 1 by omega] at HRY
        clear HM0 HE1 HU0 HK0
        go_wp2_with fail
        go_roundg gk2
        case measure => omega
        case rel => exact HRY
      | false =>
        rw [hz] at hq
        have hz0 : (d1, d2) ≠ (0, 0) := by
          intro e
          simp only [Prod.mk.injEq] at e
          simp [e.1, e.2] at hz
        cases hin : decide ((d1, d2) ∈ T) with
        | true =>
          rw [hin] at HIN
          have HE1 := Lib.hid (HSK.out (.inr (by simpa using hin)))
          clear HSK HMI HHI hz hin
          go_wp2_with fail
          (with_reducible refine (HIN.out).mono ?_)
          rintro e u1 ⟨rfl, hb⟩
          rw [← HU0.out] at hb
          have HRY : Hid (RY xs R F w gk2 (.slice ta T.length tc) (.slice ma M.length mc) (.slice (some ⟨b0, o0, none⟩) len wc) (.int .i64 ((j + 1 : Nat) : Int)) u1) := Lib.hid ⟨j + 1, WL, T, M, ta, tc, ma, mc, rfl, rfl, rfl, by rw [HL.out]; exact HM0.out.below hb, HE1.out⟩
          rw [show (((j + 1 : Nat) : Int)) = (j : Int) + 1 by omega] at HRY
          clear hb HIN HM0 HE1 HU0 HK0
          go_wp2_with fail
          go_roundg gk2
          case measure => omega
          case rel => exact HRY
        | false =>
          rw [hin] at HIN
          have hns : ¬ ((d1, d2) = (0, 0) ∨ (d1, d2) ∈ T) := fun h => by
            rcases h with h | h
            · exact hz0 h
            · simp [h] at hin
          have HMI2 := Lib.hid (HMI.out hns)
          have HHI2 := Lib.hid (HHI.out hns)
          have HOK := Lib.hid (fun h => get_okO (xs := xs) (d := (d1, d2)) h)
          clear HSK HMI HHI hz hin hz0 hns
          have HG0 := Lib.hid (fun W hW => HG.out d1 d2 W hW)
          generalize getS xs (d1, d2) = OE at HG0 HMI2 HHI2 HOK
          obtain ⟨o, er⟩ := OE
          simp only at HG0 HMI2 HHI2 HOK
          go_wp2_with fail
          (with_reducible refine (HIN.out).mono ?_)
          rintro e u1 ⟨rfl, hb⟩
          rw [← HU0.out] at hb
          have HM1 := Lib.hid (HM0.out.below hb)
          have HK1 := Lib.hid (HK0.out.below hb)
          clear hb HIN HM0 HK0 HU0 u0
          have e0 : u1.cell? ⟨wr.heap.size, 0, none⟩ = some (.int .u64 d1) := by rw [HK1.out.cell]; rfl
          have e1 : u1.cell? ⟨wr.heap.size, 1, none⟩ = some (.int .u64 d2) := by rw [HK1.out.cell]; rfl
          have HGT := Lib.hid (HG0.out u1 HM1.out.be)
          go_wp2_with fail
          (with_reducible refine (HGT.out).mono ?_)
          rintro e u2 ⟨ea, ec, pa, pc, rfl, hob, hb⟩
          have HM2 := Lib.hid (HM1.out.below hb)
          have HK2 := Lib.hid (HK1.out.below hb)
          have HOB := Lib.hid hob
          clear hb hob HM1 HK1 HGT HG0 e0 e1
          obtain ⟨kind, data, ents, ⟨t1, t2⟩, pars, author, time, msg⟩ := o
          simp only [Ob.val]
          obtain ⟨ne, hne⟩ : ∃ ne, ne = ents.length := ⟨_, rfl⟩
          obtain ⟨n, hnp⟩ : ∃ n, n = pars.length := ⟨_, rfl⟩
          rw [← hne, ← hnp]
          have HNE := Lib.hid hne
          have HNP := Lib.hid hnp
          clear hne hnp
          obtain ⟨u3, hu3⟩ : ∃ u3, u3 = u2.alloc (.cells #[.int .i64 kind, .string ⟨data.toArray⟩, .slice ea ne ec, .int .u64 t1, .int .u64 t2, .slice pa n pc, .string ⟨author.toArray⟩, .int .i64 time, .string ⟨msg.toArray⟩] 35) := ⟨_, rfl⟩
          have HM3 := Lib.hid (HM2.out.alloc (.cells #[.int .i64 kind, .string ⟨data.toArray⟩, .slice ea ne ec, .int .u64 t1, .int .u64 t2, .slice pa n pc, .string ⟨author.toArray⟩, .int .i64 time, .string ⟨msg.toArray⟩] 35))
          have HK3 : Hid (BK wr.heap.size #[.int .u64 d1, .int .u64 d2] 26 u3) := Lib.hid (by rw [hu3]; exact HK2.out.alloc _)
          have HKO : Hid (BK u2.heap.size #[.int .i64 kind, .string ⟨data.toArray⟩, .slice ea ne ec, .int .u64 t1, .int .u64 t2, .slice pa n pc, .string ⟨author.toArray⟩, .int .i64 time, .string ⟨msg.toArray⟩] 35 u3) := Lib.hid (by rw [hu3]; exact BK.new _ _ _)
          have HOB3 : Hid (ObOwn u1.heap.size u3 _ _ _ _ _) := Lib.hid (by rw [hu3]; exact HOB.out.below ((Below.refl _ _).alloc (Nat.le_refl _) _))
          rw [← hu3] at HM3
          have HU3 := Lib.hid hu3
          have e0 : u2.cell? ⟨wr.heap.size, 0, none⟩ = some (.int .u64 d1) := by rw [HK2.out.cell]; rfl
          have e1 : u2.cell? ⟨wr.heap.size, 1, none⟩ = some (.int .u64 d2) := by rw [HK2.out.cell]; rfl
          have p0 := fun z => cell_a1 e0 z
          have p1 := fun z => cell_a1 e1 z
          clear hu3 HM2 HOB
          by_cases he : er = 0
          · subst he
            have HE1 := Lib.hid (HHI2.out rfl)
            have HWM := Lib.hid (rwith_any ta T tc d1 d2 u3 HM3.out.dt HM3.out.tc (by omega))
            rw [HU3.out] at HWM
            have hmm := (withS_mem T (d1, d2) (d1, d2)).2 (.inr rfl)
            have HOK2 := Lib.hid (HOK.out rfl)
            have hll := links_le ⟨kind, data, ents, (t1, t2), pars, author, time, msg⟩
            have HBB := Lib.hid HOB3.out.bb
            clear HMI2 HHI2 HOK
            generalize withS T (d1, d2) = T2 at HE1 HWM hmm
            go_wp2_with fail
            (with_reducible refine (HWM.out).mono ?_)
            rintro e u4 ⟨qa, qc, rfl, hdg, hqc, hfr, hb⟩
            rw [← HU3.out] at hb
            rw [← HU3.out] at hfr
            have HM4 := Lib.hid (HM3.out.putT hb hdg hqc hmm hfr)
            have HKO4 := Lib.hid (HKO.out.below hb)
            have HOB4 := Lib.hid (HOB3.out.below hb)
            have HLK := Lib.hid (rlinks_any _ ea ec pa pc u4 HOB4.out.inn HBB.out HOK2.out)
            simp only [Ob.val] at HLK
            rw [← HNE.out, ← HNP.out] at HLK
            clear hb hdg hqc hfr HWM HM3 HU3 HK2 HK3 HKO HOB3 e0 e1 p0 p1 hmm HOB4 HBB HOK2
            generalize linksS ⟨kind, data, ents, (t1, t2), pars, author, time, msg⟩ = ls at HLK hll HE1
            have e0 : u4.cell? ⟨u2.heap.size, 0, none⟩ = some (.int .i64 kind) := by rw [HKO4.out.cell]; rfl
            have e1 : u4.cell? ⟨u2.heap.size, 1, none⟩ = some (.string ⟨data.toArray⟩) := by rw [HKO4.out.cell]; rfl
            have e2 : u4.cell? ⟨u2.heap.size, 2, none⟩ = some (.slice ea ne ec) := by rw [HKO4.out.cell]; rfl
            have e3 : u4.cell? ⟨u2.heap.size, 3, none⟩ = some (.int .u64 t1) := by rw [HKO4.out.cell]; rfl
            have e4 : u4.cell? ⟨u2.heap.size, 4, none⟩ = some (.int .u64 t2) := by rw [HKO4.out.cell]; rfl
            have e5 : u4.cell? ⟨u2.heap.size, 5, none⟩ = some (.slice pa n pc) := by rw [HKO4.out.cell]; rfl
            have e6 : u4.cell? ⟨u2.heap.size, 6, none⟩ = some (.string ⟨author.toArray⟩) := by rw [HKO4.out.cell]; rfl
            have e7 : u4.cell? ⟨u2.heap.size, 7, none⟩ = some (.int .i64 time) := by rw [HKO4.out.cell]; rfl
            have e8 : u4.cell? ⟨u2.heap.size, 8, none⟩ = some (.string ⟨msg.toArray⟩) := by rw [HKO4.out.cell]; rfl
            go_wp2_with fail
            (with_reducible refine (HLK.out).mono ?_)
            rintro e u5 ⟨la, lc, rfl, hols, hb⟩
            have HM5 := Lib.hid (HM4.out.below hb)
            obtain ⟨v2, u6, hrun, hown, hg, hat⟩ := append_digs u5 w.heap.size 33 _ WL HM5.out.ow la ls lc (ownsRow_digs hols) (by push_cast; omega) HM5.out.be.size
            have HM6 := Lib.hid (HM5.out.push hown hg hat)
            have HRY : Hid (RY xs R F w gk2 (.slice qa T2.length qc) (.slice ma M.length mc) v2 (.int .i64 ((j + 1 : Nat) : Int)) u6) := Lib.hid ⟨j + 1, _, T2, M, qa, qc, ma, mc, rfl, rfl, rfl, HM6.out, HE1.out⟩
            rw [show (((j + 1 : Nat) : Int)) = (j : Int) + 1 by omega] at HRY
            rw [← HL.out] at hrun
            have HRUN := Lib.hid hrun
            clear hols hb hown hg hat HM5 HM6 HM4 HLK hrun HE1 HKO4 e0 e1 e2 e3 e4 e5 e6 e7 e8
            generalize T2.length = m2 at HRY ⊢
            generalize ls.length = m3 at HRUN ⊢
            go_wp2_with (at_builtin; refine Lib.wpList_append_run _ rfl _ _ _ _ rfl _ _ rfl rfl _ _ HRUN.out ?_)
            go_roundg gk2
            case measure => omega
            case rel => exact HRY
          · have hne : (er != 0) = true := by simpa using he
            have HE1 := Lib.hid (HMI2.out he)
            have HWM := Lib.hid (rwith_any ma M mc d1 d2 u3 HM3.out.dm HM3.out.mc (by omega))
            rw [HU3.out] at HWM
            have hmm := (withS_mem M (d1, d2) (d1, d2)).2 (.inr rfl)
            clear HMI2 HHI2 HOK he
            generalize withS M (d1, d2) = M2 at HE1 HWM hmm
            go_wp2_with fail
            (with_reducible refine (HWM.out).mono ?_)
            rintro e u4 ⟨qa, qc, rfl, hdg, hqc, hfr, hb⟩
            rw [← HU3.out] at hb
            rw [← HU3.out] at hfr
            have HM4 := Lib.hid (HM3.out.putM hb hdg hqc hmm hfr)
            have HRY : Hid (RY xs R F w gk2 (.slice ta T.length tc) (.slice qa M2.length qc) (.slice (some ⟨b0, o0, none⟩) len wc) (.int .i64 ((j + 1 : Nat) : Int)) u4) := Lib.hid ⟨j + 1, WL, T, M2, ta, tc, qa, qc, rfl, rfl, rfl, by rw [HL.out]; exact HM4.out, HE1.out⟩
            rw [show (((j + 1 : Nat) : Int)) = (j : Int) + 1 by omega] at HRY
            clear hb hdg hqc hfr HWM HM3 HM4 HE1 HU3 HK2 HK3 HKO HOB3 e0 e1 p0 p1 hmm
            generalize M2.length = m2 at HRY ⊢
            go_wp2_with fail
            go_roundg gk2
            case measure => omega
            case rel => exact HRY
    · have HF := Lib.hid (HE.out.fin hj)
      rw [← hlen]
      have hjl : ¬ (j < len) := by rw [hlen]; exact hj
      go_wp2_with fail
      go_ret2
      rw [HF.out]
      exact ⟨ta, tc, ma, mc, rfl, HM.out.dt, HM.out.dm, HM.out.be⟩

end Go.Proofs.YtlfodnehgedpmaaGreat
