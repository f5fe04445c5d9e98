/- pool.Reach. -/
import Derived.Test.YtlfodnehgedpmaaPoRs
namespace Go.Proofs.Ytlfodnehgedpmaa
open Go.RowKit Go.Shelf
set_option linter.unusedVariables false

def GotRM (w : World) (r : List (Int × Int) × List (Int × Int)) (e : Ending) (w' : World) : Prop :=
  ∃ a c a' c', e = .returned (.tuple #[.slice a r.1.length c, .slice a' r.2.length c']) ∧ w'.ownsRow w.heap.size 30 2 (.slice a r.1.length c) r.1.length (dcells r.1) ∧ w'.ownsRow w.heap.size 30 2 (.slice a' r.2.length c') r.2.length (dcells r.2) ∧ Below w.heap.size w w'
theorem MapD.eq {b n : Nat} {M M' : Int × Int → Bool} {W : World} (h : MapD b n M W) (e : ∀ d, M d = M' d) : MapD b n M' W := by
  have : M = M' := funext e
  rw [← this]; exact h
theorem met_or (met : List (Int × Int)) (e d : Int × Int) : (decide (d ∈ met) || decide (d = e)) = decide (d ∈ e :: met) := by
  by_cases h1 : d = e <;> by_cases h2 : d ∈ met <;> simp [h1, h2]
theorem ObOwn.keptR {base : Nat} {W W' : World} {o : Ob} {ea : Option Addr} {ec : Nat} {pa : Option Addr} {pc : Nat} {row : Option Nat} (h : ObOwn base W o ea ec pa pc) (hg : W.grownBy W' row) (hb : ∀ k, row = some k → k < base) : ObOwn base W' o ea ec pa pc := by
  cases row with
  | none => exact h.below ⟨hg.os, hg.tape, hg.output, hg.size, fun k hk => hg.block k hk (by simp)⟩
  | some b => exact h.kept hg (hb b rfl)
/-- What holds when at most k rounds are to come. -/
structure RL (xs : List Itm) (roots : List (Int × Int)) (w wr : World) (k : Nat) (vo vr vm : Value) (op R Ms met : List (Int × Int)) (nm : Nat) : Prop where
  st : RchSt w wr (fun d => decide (d ∈ met)) nm vo vr vm op R Ms
  eq : reachF xs (fuelR xs roots) roots [(0, 0)] [] [] = reachF xs k op met R Ms
  me : mea xs op met ≤ k
  nk : nm + k ≤ fuelR xs roots + 1
  rk : R.length + Ms.length + k ≤ fuelR xs roots
  ok : ∀ d ∈ op, OkD d
theorem filter_take_succ {α : Type} (F : α → Bool) (ls : List α) (j : Nat) (h : j < ls.length) : (ls.take (j + 1)).filter F = (ls.take j).filter F ++ (if F ls[j] then [ls[j]] else []) := by
  rw [List.take_succ_eq_append_getElem h, List.filter_append]
  congr 1
  by_cases hf : F ls[j] = true <;> simp [hf]
def RX (xs : List Itm) (roots : List (Int × Int)) (w : World) (k : Nat) (vr vm vo : Value) (wr : World) : Prop := ∃ op R Ms met nm, RL xs roots w wr k vo vr vm op R Ms met nm

set_option maxRecDepth 100000 in
set_option maxHeartbeats 4000000 in
theorem reach_any (a : Option Addr) (xs : List Itm) (c : Nat) (ra : Option Addr) (roots : List (Int × Int)) (rc : Nat) (w : World) (hp : PoolIn w a xs c) (ha : Asc xs) (hr : Digs w.heap.size w ra roots) (hok : ∀ d ∈ roots, OkD d) (hxl : (xs.length : Int) ≤ 500) (hrl : (roots.length : Int) ≤ 10000) :
    Calls Try.prog 9 #[.slice a xs.length c, .slice ra roots.length rc] w (GotRM w (reachS xs roots)) := by
  have HG := Lib.hid (fun d1 d2 W (hW : Below w.heap.size w W) => get_any a xs c d1 d2 W (hp.below hW) ha)
  have HCL := Lib.hid (fun W (hW : Below w.heap.size w W) => cloneD_any ra roots rc W ((hr.below hW (Nat.le_refl _)).mono hW.size) (by omega))
  have hfu : ((fuelR xs roots : Nat) : Int) ≤ 510000 := by unfold fuelR; omega
  have HOK := Lib.hid hok
  obtain ⟨W1, hrun1, hmap1, hg1⟩ := (MapD.made w).put OkD_zero (by omega)
  have HM1 := Lib.hid (hmap1.eq (M' := fun d => decide (d ∈ [((0 : Int), (0 : Int))])) (fun d => by simp))
  have HB1 : Hid (Below w.heap.size w W1) := Lib.hid (below_of_grown ((Below.refl _ w).alloc (Nat.le_refl _) _) hg1 (Nat.le_refl _))
  have hz1 : w.heap.size + 1 ≤ W1.heap.size := by have := hg1.size; simpa using this
  have hrun1' := hrun1
  have hmm := @run_makeMap Try.prog
  have HC1 := Lib.hid (HCL.out W1 HB1.out)
  obtain ⟨n, hn⟩ : ∃ n, n = xs.length := ⟨_, rfl⟩
  obtain ⟨rn, hrn⟩ : ∃ rn, rn = roots.length := ⟨_, rfl⟩
  rw [← hn] at HG ⊢
  rw [← hrn] at HC1 ⊢
  clear hp ha hr hok hmap1 hg1 HCL hrun1' hn hrn hxl hrl
  go_enter Try.func9, Try.ntmps9
  go_wp2_with fail
  have hx := HC1.out
  (with_reducible refine hx.mono ?_)
  clear hx HC1 hrun1
  rintro e W2 ⟨oa, oc, rfl, hown2, hb2⟩
  have HRX : Hid (RX xs roots w (fuelR xs roots) (.slice none 0 0) (.slice none 0 0) (.slice oa roots.length oc) W2) := Lib.hid
    ⟨roots, [], [], [(0, 0)], 1, ⟨⟨HM1.out.below hb2, own_le hown2 (by omega), World.ownsRow_nil _ _ _ _, World.ownsRow_nil _ _ _ _, (Apart.nil _).symm, (Apart.nil _).symm, Apart.nil _, HB1.out.trans (hb2.mono (by omega))⟩, rfl, mea_start xs roots, by omega, by simp, HOK.out⟩⟩
  clear hown2 hb2 HM1 HB1 hz1 hmm W1
  go_wp2_with fail
  go_loopg [6, 7, 9] (fuelR xs roots) (fun k vr vm vo wr => Hid (RX xs roots w k vr vm vo wr))
  case atStart => exact HRX
  case round =>
    clear HRX
    obtain ⟨op, R, Ms, met, nm, hRL⟩ := hrel.out
    have HRL := Lib.hid hRL
    clear hRL hrel
    rcases List.eq_nil_or_concat op with hop | ⟨op', d, hop⟩
    · subst hop
      have HE : Hid (reachS xs roots = (sortS R, sortS Ms)) := Lib.hid (by unfold reachS; rw [HRL.out.eq, reachF_nil])
      have hkk := HRL.out.rk
      obtain ⟨ao, co, rfl, _⟩ := ownsRow_sliceN HRL.out.st.oo
      obtain ⟨ar, cr, rfl, _⟩ := ownsRow_sliceN HRL.out.st.orr
      obtain ⟨am, cm, rfl, _⟩ := ownsRow_sliceN HRL.out.st.om
      have HS1 := Lib.hid (sortD_any ar R cr wr HRL.out.st.orr (by omega))
      go_wp2_with fail
      have hx := HS1.out
      (with_reducible refine hx.mono ?_)
      clear hx HS1
      rintro e x1 ⟨rfl, ho1, hg1⟩
      have hom1 := own_apart HRL.out.st.om HRL.out.st.a3.symm hg1
      have HS2 := Lib.hid (sortD_any am Ms cm x1 hom1 (by omega))
      have HO1 := Lib.hid ho1
      have HB1 : Hid (Below w.heap.size w x1) := Lib.hid (RchSt.bel' HRL.out.st.bel HRL.out.st.orr (by omega) hg1)
      have HOM := Lib.hid hom1
      clear ho1 hg1 hom1
      go_wp2_with fail
      have hx := HS2.out
      (with_reducible refine hx.mono ?_)
      clear hx HS2
      rintro e x2 ⟨rfl, ho2, hg2⟩
      have HO2 := Lib.hid ho2
      have HO1' := Lib.hid (own_apart HO1.out HRL.out.st.a3 hg2)
      have HB2 : Hid (Below w.heap.size w x2) := Lib.hid (RchSt.bel' HB1.out HOM.out (by omega) hg2)
      clear ho2 hg2
      have l1 := sortS_length R
      have l2 := sortS_length Ms
      have HF : Hid (GotRM w (sortS R, sortS Ms) (.returned (.tuple #[.slice ar R.length cr, .slice am Ms.length cm])) x2) := Lib.hid ⟨ar, cr, am, cm, by rw [l1, l2], by rw [l1]; exact own_le HO1'.out (by omega), by rw [l2]; exact own_le HO2.out (by omega), HB2.out⟩
      clear l1 l2 HO1 HO2 HO1' HB1 HB2 HOM HRL
      go_wp2_with fail
      go_ret2
      rw [HE.out]
      exact HF.out
    · rw [List.concat_eq_append] at hop
      subst hop
      obtain ⟨d1, d2⟩ := d
      obtain ⟨gk, rfl⟩ : ∃ f, gk = f + 1 := ⟨gk - 1, by
        have h1 := HRL.out.me
        have h2 := mea_pop xs op' met (d1, d2)
        omega⟩
      have hokd : OkD (d1, d2) := HRL.out.ok _ (by simp)
      have HOK' : Hid (∀ d ∈ op', OkD d) := Lib.hid (fun d hd => HRL.out.ok d (by simp [hd]))
      obtain ⟨g, co, hvo, hco, q0, q1, hst⟩ := HRL.out.st.pop
      have hfm : mea xs op' met + 1 ≤ gk + 1 := by have h1 := HRL.out.me; have h2 := mea_pop xs op' met (d1, d2); omega
      have hnk := HRL.out.nk
      have hrk := HRL.out.rk
      have HEQ := Lib.hid HRL.out.eq
      have HME := Lib.hid HRL.out.me
      obtain ⟨m, hm⟩ : ∃ m, m = op'.length := ⟨_, rfl⟩
      rw [← hm] at hvo hco q0 q1 hst
      subst hvo
      obtain ⟨ar, cr, rfl, _⟩ := ownsRow_sliceN hst.orr
      obtain ⟨am, cm, rfl, _⟩ := ownsRow_sliceN hst.om
      have HST := Lib.hid hst
      have hml : m ≤ 510000 := by
        have : op'.length ≤ mea xs op' met := by unfold mea; omega
        omega
      have hpop := fun W => dpop_run g (m + 1) co m (by omega) (by omega) W
      have hsub : ((m : Int) + 1 - 1) = (m : Int) := by omega
      have hwr := HST.out.lt
      obtain ⟨u0, hu0⟩ : ∃ u0, u0 = wr.alloc (.cells #[.int .u64 d1, .int .u64 d2] 30) := ⟨_, rfl⟩
      have HST0 : Hid (RchSt w u0 (fun d => decide (d ∈ met)) nm (.slice (some ⟨g, 0, none⟩) m co) (.slice ar R.length cr) (.slice am Ms.length cm) op' R Ms) := Lib.hid (by rw [hu0]; exact HST.out.alloc _)
      have HK0 : Hid (BK wr.heap.size #[.int .u64 d1, .int .u64 d2] 30 u0) := Lib.hid (by rw [hu0]; exact BK.new _ _ _)
      have hlk := HST0.out.mp.look hokd
      have HM := Lib.hid hm
      clear hst hm HRL
      by_cases hmet : (d1, d2) ∈ met
      · rw [decide_eq_true hmet, hu0] at hlk
        have HRX : Hid (RX xs roots w gk (.slice ar R.length cr) (.slice am Ms.length cm) (.slice (some ⟨g, 0, none⟩) m co) (wr.alloc (.cells #[.int .u64 d1, .int .u64 d2] 30))) := Lib.hid (by
          rw [← hu0]
          exact ⟨op', R, Ms, met, nm, HST0.out, by rw [HEQ.out, reachF_met hmet], by omega, by omega, by omega, HOK'.out⟩)
        clear hu0 hmet
        go_wp2_with fail
        go_roundg gk
        case measure => omega
        case rel => exact HRX
      · obtain ⟨u1, hup, hmp1, hgu⟩ := HST0.out.mp.put hokd (by omega)
        have hmp1' := hmp1.eq (M' := fun d => decide (d ∈ (d1, d2) :: met)) (fun d => met_or met (d1, d2) d)
        have HST1 := Lib.hid (HST0.out.put hmp1' hgu)
        have HK1 : Hid (BK wr.heap.size #[.int .u64 d1, .int .u64 d2] 30 u1) := Lib.hid (HK0.out.grow1 hgu (by omega))
        have HGT := Lib.hid (HG.out d1 d2 u1 HST1.out.bel)
        rw [decide_eq_false hmet, hu0] at hlk
        rw [hu0] at hup
        have HMT := Lib.hid hmet
        clear hmp1 hmp1' hgu hu0 hmet HST0 HK0 HST
        have b0 : u1.cell? ⟨wr.heap.size, 0, none⟩ = some (.int .u64 d1) := by rw [HK1.out.cell]; rfl
        have b1 : u1.cell? ⟨wr.heap.size, 1, none⟩ = some (.int .u64 d2) := by rw [HK1.out.cell]; rfl
        have HLO := Lib.hid (fun h => links_ok (xs := xs) (d := (d1, d2)) h)
        have HRM := Lib.hid (fun h => reachF_miss (xs := xs) (f := gk) (op := op') (R := R) (M := Ms) HMT.out h)
        have HRH := Lib.hid (fun h => reachF_hit (xs := xs) (f := gk) (op := op') (R := R) (M := Ms) HMT.out h)
        have HMH := Lib.hid (fun (ls : List (Int × Int)) h hl => mea_hit (xs := xs) (op := op') (ls := ls) HMT.out h hl)
        generalize getS xs (d1, d2) = OE at HGT HLO HRM HRH HMH
        obtain ⟨o, er⟩ := OE
        simp only at HGT HLO HRM HRH HMH
        go_wp2_with fail
        have hx := HGT.out
        (with_reducible refine hx.mono ?_)
        clear hx HGT hlk hup hpop q0 q1
        rintro e u2 ⟨ea, ec, pa, pc, rfl, hob, hb2⟩
        have HST2 := Lib.hid (HST1.out.below hb2)
        have HK2 := Lib.hid (HK1.out.below hb2)
        have hz2 := hb2.size
        have HOB := Lib.hid hob
        have hl1 := HK1.out.lt
        obtain ⟨kind, data, ents, ⟨t1, t2⟩, pars, author, time, msg⟩ := o
        simp only [Ob.val]
        obtain ⟨u3, hu3⟩ : ∃ u3, u3 = u2.alloc (.cells #[.int .i64 kind, .string ⟨data.toArray⟩, .slice ea ents.length ec, .int .u64 t1, .int .u64 t2, .slice pa pars.length pc, .string ⟨author.toArray⟩, .int .i64 time, .string ⟨msg.toArray⟩] 33) := ⟨_, rfl⟩
        have HST3 : Hid (RchSt w u3 _ _ _ _ _ _ _ _) := Lib.hid (by rw [hu3]; exact HST2.out.alloc _)
        have HK3 : Hid (BK wr.heap.size #[.int .u64 d1, .int .u64 d2] 30 u3) := Lib.hid (by rw [hu3]; exact HK2.out.alloc _)
        have HKO : Hid (BK u2.heap.size #[.int .i64 kind, .string ⟨data.toArray⟩, .slice ea ents.length ec, .int .u64 t1, .int .u64 t2, .slice pa pars.length pc, .string ⟨author.toArray⟩, .int .i64 time, .string ⟨msg.toArray⟩] 33 u3) := Lib.hid (by rw [hu3]; exact BK.new _ _ _)
        have HOB3 : Hid (ObOwn u1.heap.size u3 _ _ _ _ _) := Lib.hid (by rw [hu3]; exact HOB.out.below ((Below.refl _ _).alloc (Nat.le_refl _) _))
        have hz3 : u3.heap.size = u2.heap.size + 1 := by rw [hu3]; simp
        have k0 : u2.cell? ⟨wr.heap.size, 0, none⟩ = some (.int .u64 d1) := by rw [HK2.out.cell]; rfl
        have k1 : u2.cell? ⟨wr.heap.size, 1, none⟩ = some (.int .u64 d2) := by rw [HK2.out.cell]; rfl
        have p0 := fun z => cell_a1 k0 z
        have p1 := fun z => cell_a1 k1 z
        clear hob hb2 HK1 HK2 HST2 HOB b0 b1
        by_cases he : er = 0
        · subst he
          obtain ⟨v', u4, hrun, hown', hg', hat'⟩ := append_one HST3.out.orr d1 d2 (by omega) (by have := HST3.out.lt; omega)
          have HST4 := Lib.hid ((HST3.out.alloc (.cells #[.int .u64 d1, .int .u64 d2] 30)).pushR hown' hg' (by simpa using hat'))
          have hrb : ∀ k, (Value.slice ar R.length cr).ownBlock = some k → k < u1.heap.size := fun k hk => (HST1.out.orr.lt k hk).2
          have HKO4 : Hid (BK u2.heap.size #[.int .i64 kind, .string ⟨data.toArray⟩, .slice ea ents.length ec, .int .u64 t1, .int .u64 t2, .slice pa pars.length pc, .string ⟨author.toArray⟩, .int .i64 time, .string ⟨msg.toArray⟩] 33 u4) := Lib.hid ((HKO.out.alloc _).grow hg' (fun k hk e => by have := hrb k hk; omega))
          have HOB4 := Lib.hid ((HOB3.out.below ((Below.refl _ _).alloc (Nat.le_refl _) (.cells #[.int .u64 d1, .int .u64 d2] 30))).keptR hg' hrb)
          have HLK := Lib.hid (links_any _ ea ec pa pc u4 HOB4.out.inn HOB4.out.bb)
          have hll := links_le ⟨kind, data, ents, (t1, t2), pars, author, time, msg⟩
          have HLO2 := Lib.hid (HLO.out rfl)
          have HEQ2 := Lib.hid (HRH.out rfl)
          have HMH2 := Lib.hid (fun (ls : List (Int × Int)) hl => HMH.out ls rfl hl)
          rw [hz3, hu3] at hrun
          have HRUN := Lib.hid hrun
          simp only [Ob.val] at HLK
          generalize linksS ⟨kind, data, ents, (t1, t2), pars, author, time, msg⟩ = ls at HLK hll HLO2 HEQ2
          clear hrun hown' hg' hat' hu3 HST3 HK3 HKO HOB3 HRM HRH HMH HLO HOB4 hrb HST1
          generalize ents.length = ne at HRUN HLK HKO4 ⊢
          generalize pars.length = np at HRUN HLK HKO4 ⊢
          have o0 : u4.cell? ⟨u2.heap.size, 0, none⟩ = some (.int .i64 kind) := by rw [HKO4.out.cell]; rfl
          have o1 : u4.cell? ⟨u2.heap.size, 1, none⟩ = some (.string ⟨data.toArray⟩) := by rw [HKO4.out.cell]; rfl
          have o2 : u4.cell? ⟨u2.heap.size, 2, none⟩ = some (.slice ea ne ec) := by rw [HKO4.out.cell]; rfl
          have o3 : u4.cell? ⟨u2.heap.size, 3, none⟩ = some (.int .u64 t1) := by rw [HKO4.out.cell]; rfl
          have o4 : u4.cell? ⟨u2.heap.size, 4, none⟩ = some (.int .u64 t2) := by rw [HKO4.out.cell]; rfl
          have o5 : u4.cell? ⟨u2.heap.size, 5, none⟩ = some (.slice pa np pc) := by rw [HKO4.out.cell]; rfl
          have o6 : u4.cell? ⟨u2.heap.size, 6, none⟩ = some (.string ⟨author.toArray⟩) := by rw [HKO4.out.cell]; rfl
          have o7 : u4.cell? ⟨u2.heap.size, 7, none⟩ = some (.int .i64 time) := by rw [HKO4.out.cell]; rfl
          have o8 : u4.cell? ⟨u2.heap.size, 8, none⟩ = some (.string ⟨msg.toArray⟩) := by rw [HKO4.out.cell]; rfl
          have HR1 : Hid (R.length + 1 = (R ++ [(d1, d2)]).length) := Lib.hid (by simp)
          generalize hR' : R ++ [(d1, d2)] = R' at HST4 HEQ2 HR1
          clear hR'
          generalize R.length = nR at HRUN hrk HR1 ⊢
          obtain ⟨ar', cr', rfl, _⟩ := ownsRow_sliceN HST4.out.orr
          go_wp2_with (at_builtin; refine Lib.wpList_append_run _ rfl _ _ _ _ rfl _ _ rfl rfl _ _ HRUN.out ?_)
          have hx := HLK.out
          (with_reducible refine hx.mono ?_)
          clear hx HLK HRUN p0 p1 k0 k1
          rintro e u5 ⟨la, lc, rfl, hols, hb5⟩
          have HST5 := Lib.hid (HST4.out.below hb5)
          have HLS := Lib.hid hols
          have HAL : Hid (Apart (.slice (some ⟨g, 0, none⟩) m co) (.slice la ls.length lc)) := Lib.hid (fun k h1 h2 => by have := (HST4.out.oo.lt k h1).2; have := (hols.lt k h2).1; omega)
          obtain ⟨B, hB⟩ : ∃ B, B = u4.heap.size := ⟨_, rfl⟩
          rw [← hB] at HLS
          obtain ⟨nl, hnl⟩ : ∃ nl, nl = ls.length := ⟨_, rfl⟩
          rw [← hnl] at hll HLS HAL ⊢
          have HNL := Lib.hid hnl
          clear hols hb5 o0 o1 o2 o3 o4 o5 o6 o7 o8 HKO4 HST4 hB hnl
          go_wp2_with fail
          go_loopw [9, 58] (fun v i wx => ∃ j : Nat, j ≤ nl ∧ i = .int .i64 j ∧ Hid (RchSt w wx (fun d => decide (d ∈ (d1, d2) :: met)) (nm + 1) v (.slice ar' R'.length cr') (.slice am Ms.length cm) (op' ++ (ls.take j).filter fun l => !decide (l ∈ (d1, d2) :: met)) R' Ms) ∧ Hid (wx.ownsRow B 30 2 (.slice la nl lc) nl (dcells ls)) ∧ Hid (Apart v (.slice la nl lc))) (fun _ i _ => nl - (intOf i).toNat)
          case atStart => exact ⟨0, by omega, rfl, by simpa using HST5, HLS, HAL⟩
          case round =>
            clear HST5 HLS HAL
            obtain ⟨j, hj, rfl, HSX, HLX, HAX⟩ := hrel
            have hfl : (op' ++ (ls.take j).filter fun l => !decide (l ∈ (d1, d2) :: met)).length ≤ 520000 := by
              rw [List.length_append]
              have h1 := List.length_filter_le (fun l => !decide (l ∈ (d1, d2) :: met)) (ls.take j)
              have h2 : (ls.take j).length ≤ j := List.length_take_le _ _
              have h3 := HM.out
              omega
            obtain ⟨av, cv, rfl, hcv⟩ := ownsRow_sliceN HSX.out.oo
            by_cases hjl : j < nl
            · have h1 : j < ls.length := by rw [← HNL.out]; exact hjl
              have hdg : Digs wr.heap.size wr la ls := own_digs HNL.out HLX.out
              obtain ⟨b0, o0, rfl, hb0, q0, q1⟩ := hdg j h1
              have HFT := Lib.hid (filter_take_succ (fun l => !decide (l ∈ (d1, d2) :: met)) ls j h1)
              have hokl := HLO2.out _ (List.getElem_mem h1)
              generalize ls[j] = lk at q0 q1 HFT hokl
              obtain ⟨l1, l2⟩ := lk
              simp only at q0 q1
              have HSX1 := Lib.hid (HSX.out.alloc (.cells #[.int .u64 l1, .int .u64 l2] 30))
              have HLX1 := Lib.hid (HLX.out.alloc (.cells #[.int .u64 l1, .int .u64 l2] 30))
              have hlk := HSX1.out.mp.look hokl
              have hwx := HSX.out.lt
              have hjl' : (j : Int) < (nl : Int) := by omega
              clear hdg
              by_cases hml2 : (l1, l2) ∈ (d1, d2) :: met
              · rw [decide_eq_true hml2] at hlk
                have hF : (op' ++ (ls.take j).filter fun l => !decide (l ∈ (d1, d2) :: met)) = op' ++ (ls.take (j + 1)).filter fun l => !decide (l ∈ (d1, d2) :: met) := by rw [HFT.out, if_neg (by simp [hml2]), List.append_nil]
                have HSX2 : Hid (RchSt w (wr.alloc (.cells #[.int .u64 l1, .int .u64 l2] 30)) (fun d => decide (d ∈ (d1, d2) :: met)) (nm + 1) (.slice av (op' ++ (ls.take j).filter fun l => !decide (l ∈ (d1, d2) :: met)).length cv) (.slice ar' R'.length cr') (.slice am Ms.length cm) (op' ++ (ls.take (j + 1)).filter fun l => !decide (l ∈ (d1, d2) :: met)) R' Ms) := Lib.hid (by rw [← hF]; exact HSX1.out)
                clear HSX1 HFT hml2 hF HSX HLX
                generalize (op' ++ (ls.take j).filter fun l => !decide (l ∈ (d1, d2) :: met)).length = nf at HSX2 HAX hcv hfl ⊢
                go_wp2_with fail
                go_roundw
                case rel => exact ⟨j + 1, by omega, by go_num, HSX2, HLX1, HAX⟩
                case measure => simp [intOf]; omega
              · rw [decide_eq_false hml2] at hlk
                obtain ⟨v2, x2, hrun, hown', hg', hat'⟩ := append_one HSX1.out.oo l1 l2 (by omega) (by simp; omega)
                have hF : (op' ++ (ls.take j).filter fun l => !decide (l ∈ (d1, d2) :: met)) ++ [(l1, l2)] = op' ++ (ls.take (j + 1)).filter fun l => !decide (l ∈ (d1, d2) :: met) := by rw [HFT.out, if_pos (by simp only [Bool.not_eq_true', decide_eq_false_iff_not]; exact hml2), List.append_assoc]
                rw [hF] at hown'
                have HSX2 := Lib.hid ((HSX1.out.alloc (.cells #[.int .u64 l1, .int .u64 l2] 30)).pushO hown' hg' (by simpa using hat'))
                have HLX2 := Lib.hid (own_apart (HLX1.out.alloc _) HAX.out.symm hg')
                have HAX2 := Lib.hid (apart_step (N := wr.heap.size + 1 + 1) (HLX1.out.alloc (.cells #[.int .u64 l1, .int .u64 l2] 30)) HAX.out.symm (by simpa using hat') (by simp)).symm
                rw [show (wr.alloc (.cells #[.int .u64 l1, .int .u64 l2] 30)).heap.size = wr.heap.size + 1 by simp] at hrun
                have HRUN := Lib.hid hrun
                clear hrun hown' hg' hat' hF HSX1 HLX1 HFT hml2 HSX HLX HAX
                generalize (op' ++ (ls.take j).filter fun l => !decide (l ∈ (d1, d2) :: met)).length = nf at HRUN hcv hfl ⊢
                go_wp2_with (at_builtin; refine Lib.wpList_append_run _ rfl _ _ _ _ rfl _ _ rfl rfl _ _ HRUN.out ?_)
                go_roundw
                case rel => exact ⟨j + 1, by omega, by go_num, HSX2, HLX2, HAX2⟩
                case measure => simp [intOf]; omega
            · have hfull : ls.take j = ls := List.take_of_length_le (by rw [← HNL.out]; omega)
              rw [hfull] at HSX hcv hfl ⊢
              have HRX : Hid (RX xs roots w gk (.slice ar' R'.length cr') (.slice am Ms.length cm) (.slice av (op' ++ ls.filter fun l => !decide (l ∈ (d1, d2) :: met)).length cv) wr) := Lib.hid
                ⟨_, R', Ms, (d1, d2) :: met, nm + 1, HSX.out, by rw [HEQ.out]; exact HEQ2.out, by
                  have h1 := HMH2.out (ls.filter fun l => !decide (l ∈ (d1, d2) :: met)) (by have := List.length_filter_le (fun l => !decide (l ∈ (d1, d2) :: met)) ls; have := HNL.out; omega)
                  have h2 := HME.out
                  omega, by omega, by have := HR1.out; omega, fun d hd => by
                  rcases List.mem_append.1 hd with h | h
                  · exact HOK'.out d h
                  · exact HLO2.out d (List.mem_filter.1 h).1⟩
              clear HSX HLX HAX hfull HEQ2 HMH2
              generalize (op' ++ ls.filter fun l => !decide (l ∈ (d1, d2) :: met)).length = nf at HRX hcv hfl ⊢
              go_wp2_with fail
              go_roundg gk
              case measure => omega
              case rel => exact HRX
        · have hne : (er != 0) = true := by simpa using he
          obtain ⟨v', u4, hrun, hown', hg', hat'⟩ := append_one HST3.out.om d1 d2 (by omega) (by have := HST3.out.lt; omega)
          have HST4 := Lib.hid ((HST3.out.alloc (.cells #[.int .u64 d1, .int .u64 d2] 30)).pushM hown' hg' (by simpa using hat'))
          have HRX : Hid (RX xs roots w gk (.slice ar R.length cr) v' (.slice (some ⟨g, 0, none⟩) m co) u4) := Lib.hid
            ⟨op', R, Ms ++ [(d1, d2)], (d1, d2) :: met, nm + 1, HST4.out, by rw [HEQ.out]; exact HRM.out he, by have h1 := mea_miss xs op' met (d1, d2); have h2 := HME.out; omega, by omega, by simp; omega, HOK'.out⟩
          rw [hz3, hu3] at hrun
          have HRUN := Lib.hid hrun
          clear hrun hown' hg' hat' hu3 he HST4 HST3 HK3 HKO HOB3 HRM HRH HMH HLO
          generalize ents.length = ne at HRUN ⊢
          generalize pars.length = np at HRUN ⊢
          generalize Ms.length = nM at HRUN ⊢
          go_wp2_with (at_builtin; refine Lib.wpList_append_run _ rfl _ _ _ _ rfl _ _ rfl rfl _ _ HRUN.out ?_)
          go_roundg gk
          case measure => omega
          case rel => exact HRX

end Go.Proofs.Ytlfodnehgedpmaa
