/- Joined texts: HiRa, HiRd, HiRe, HiRf, HiRg, HiRh. -/
import Derived.Test.YtgdhkcocdmdoaaaGreatHiRw
import Derived.Test.YtgdhkcocdmdoaaaGreatHiRx
import Derived.Test.YtgdhkcocdmdoaaaGreatHiAn
import Derived.Test.YtgdhkcocdmdoaaaGreatHiFi
import Derived.Test.YtgdhkcocdmdoaaaGreatHiBs
import Derived.Test.YtgdhkcocdmdoaaaGreatHiLx
import Derived.Test.YtgdhkcocdmdoaaaGreatHiBa

/- The reference's all; rows of numbers. -/
namespace Go.Proofs.YtgdhkcocdmdoaaaGreat
open Go.RowKit Go.Shelf
set_option linter.unusedVariables false

theorem infoIntN : (Tryz.prog.info? 3).map (fun i => (i.zero, i.size, i.bytes)) = some (some (.int .i64 0), 1, 8) := by kernel_rfl
/-- Numbers as cells. -/
def ncells (ns : List Nat) : List Value := ns.map fun (n : Nat) => Value.int .i64 (n : Int)
/-- A slice of numbers. -/
def Nats (B : Nat) (W : World) (a : Option Addr) (ns : List Nat) : Prop := ∀ i (h : i < ns.length), ∃ b off, a = some ⟨b, off, none⟩ ∧ b < B ∧ W.cell? ⟨b, off + i, none⟩ = some (.int .i64 (ns[i] : Int))
theorem Nats.ahead {w W : World} {a : Option Addr} {ns : List Nat} (h : Nats w.heap.size w a ns) (hb : Below w.heap.size w W) : Nats W.heap.size W a ns := by
  intro i hi
  obtain ⟨b, off, e, hlt, hc⟩ := h i hi
  exact ⟨b, off, e, Nat.lt_of_lt_of_le hlt hb.size, (hb.cell (p := ⟨b, off + i, none⟩) hlt).trans hc⟩
theorem append_oneN {W : World} {base : Nat} {v : Value} {ns : List Nat} (hown : W.ownsRow base 3 1 v ns.length (ncells ns)) (m : Nat) (hlen : (ns.length : Int) ≤ 1000000) (hbase : base ≤ W.heap.size) :
    ∃ v' W', (Builtin.append_ #[81, 81] 81 #[v, .slice (some ⟨W.heap.size, 0, none⟩) 1 1]).run Tryz.prog (W.alloc (.cells #[.int .i64 (m : Int)] 3)) = .ok v' W' ∧ W'.ownsRow base 3 1 v' (ns ++ [m]).length (ncells (ns ++ [m])) ∧ (W.alloc (.cells #[.int .i64 (m : Int)] 3)).grownBy W' v.ownBlock ∧ (v'.ownBlock = v.ownBlock ∨ v'.ownBlock = some (W.heap.size + 1)) := by
  obtain ⟨i0, hi, hz0, hz1, hz2⟩ := info_parts infoIntN
  have hk := BK.new W #[.int .i64 (m : Int)] 3
  obtain ⟨v', W', h1, h2, h3, h4⟩ := append_src (P := Tryz.prog) (W.alloc (.cells #[.int .i64 (m : Int)] 3)) base 81 81 3 i0 _ 1 8 Tryz.underlying81 hi hz0 hz1 hz2 rfl (by decide) v ns.length (ncells ns) (hown.alloc _) (some ⟨W.heap.size, 0, none⟩) 1 1 [.int .i64 (m : Int)] rfl (.inr ⟨_, rfl, fun j u hu => by
    cases j with
    | zero => cases hu; rw [Go.WideShapes.add_plain, hk.cell]; rfl
    | succ j => simp at hu⟩) (by simp; rfl) (by unfold maxLen; omega) (by omega) (by simp; omega)
  exact ⟨v', W', h1, by simpa [ncells] using h2, h3, by simpa using h4⟩

set_option maxRecDepth 100000 in
set_option maxHeartbeats 4000000 in
theorem rall_any (a : Option Addr) (xs : List Itm) (c : Nat) (ha : Option Addr) (heads : List (Int × Int)) (hc : Nat) (w : World) (hp : Its w.heap.size w a xs) (hA : Asc xs) (hn : (xs.length : Int) ≤ 500) (hd : ∀ x ∈ xs, (x.data.length : Int) ≤ 1000000) (hh : Digs w.heap.size w ha heads) (hhl : (heads.length : Int) ≤ 1000) :
    Calls Tryz.prog 49 #[.slice a xs.length c, .slice ha heads.length hc] w (GotR w (visS xs heads [])) := by
  have HV := Lib.hid (fun f sa seen sc x y W => rvisit_any a xs c hA (by omega) hd f sa seen sc x y W)
  have HP := Lib.hid hp
  have HH := Lib.hid hh
  obtain ⟨R, hR⟩ : ∃ R, R = visS xs heads [] := ⟨_, rfl⟩
  rw [← hR]
  have HR := Lib.hid hR
  obtain ⟨n, hnn⟩ : ∃ n, n = heads.length := ⟨_, rfl⟩
  rw [← hnn] at hhl ⊢
  have HN := Lib.hid hnn
  have HM : Hid (0 + mea xs heads [] ≤ 800000) := Lib.hid (by
    unfold mea
    have h2 := List.countP_le_length (p := fun x : Itm => !decide (x.d ∈ ([] : List (Int × Int)))) (l := xs)
    have : heads.length ≤ 1000 := by omega
    have : xs.length ≤ 500 := by omega
    omega)
  have hB1 : Below w.heap.size w (w.alloc (.cells #[] 32)) := (Below.refl _ w).alloc (Nat.le_refl _) _
  have HB1 := Lib.hid hB1
  clear hp hA hd hR hnn hh hB1
  generalize xs.length = nx at HV ⊢
  go_enter Tryz.func49, Tryz.ntmps49
  go_wp2_with fail
  go_loopw [6, 7] (fun v i wr => ∃ (k : Nat) (cur : List (Int × Int)) (ca : Option Addr) (cc q : Nat), k ≤ n ∧ v = .slice ca q cc ∧ Hid (q = cur.length) ∧ q ≤ cc ∧ i = .int .i64 k ∧ Hid (Digs wr.heap.size wr ca cur) ∧ Hid (Below w.heap.size w wr) ∧ Hid (R = visS xs (heads.drop k) cur) ∧ Hid (q + mea xs (heads.drop k) cur ≤ 800000)) (fun _ i _ => n - (intOf i).toNat)
  case atStart => exact ⟨0, [], _, 0, 0, by omega, rfl, Lib.hid rfl, Nat.le_refl _, rfl, Lib.hid (Digs.nil _ _ _), HB1, HR, HM⟩
  case round =>
    clear HB1 HR HM
    obtain ⟨k, cur, ca, cc, q, hk, rfl, HQ, hqc, rfl, HD, HB, HR, HM⟩ := hrel
    by_cases hlt : k < n
    · have h1 : k < heads.length := by have := HN.out; omega
      obtain ⟨b0, of0, haa, hb0, q0, q1⟩ := (HH.out.ahead HB.out) k h1
      have HHx := HH
      subst haa
      have HDR : Hid (heads.drop k = heads[k] :: heads.drop (k + 1)) := Lib.hid (List.drop_eq_getElem_cons h1)
      generalize heads[k] = p at q0 q1 HDR
      obtain ⟨p1, p2⟩ := p
      simp only at q0 q1
      have HC := Lib.hid (HV.out _ ca cur cc p1 p2 wr (HP.out.ahead HB.out) HD.out (by rw [← HQ.out]; exact hqc) (by have h2 := HM.out; rw [HDR.out] at h2; have h3 := mea_one xs (p1, p2) (heads.drop (k + 1)) cur; rw [← HQ.out]; omega) (Nat.le_refl _))
      have HR2 : Hid (R = if (visS xs [(p1, p2)] cur).2 ≠ 0 then ([], (visS xs [(p1, p2)] cur).2) else visS xs (heads.drop (k + 1)) (visS xs [(p1, p2)] cur).1) := Lib.hid (by rw [HR.out, HDR.out, visS_one])
      have HML : Hid ((visS xs [(p1, p2)] cur).2 = 0 → (visS xs [(p1, p2)] cur).1.length + mea xs (heads.drop (k + 1)) (visS xs [(p1, p2)] cur).1 ≤ 800000) := Lib.hid (fun h => by
        have h2 := visS_mea xs (heads.drop (k + 1)) _ _ _ (Nat.le_refl _) h
        have h3 := visS_le h
        have h4 := HM.out
        rw [HDR.out, HQ.out] at h4
        rw [List.singleton_append] at h2
        omega)
      rw [← HQ.out] at HC
      generalize visS xs [(p1, p2)] cur = VR at HC HR2 HML
      obtain ⟨cur2, er⟩ := VR
      simp only at HC HR2 HML
      have hkn : (k : Int) < (n : Int) := by omega
      clear HR HM HDR
      go_wp2_with fail
      (with_reducible refine (HC.out).mono ?_)
      rintro e w6 ⟨da, dc, rfl, hdg, hdc, hb⟩
      have HB6 := Lib.hid (HB.out.trans (hb.mono HB.out.size))
      have HD6 := Lib.hid hdg
      clear hb hdg HC HB HD q0 q1
      by_cases he : er = 0
      · subst he
        have HR3 : Hid (R = visS xs (heads.drop (k + 1)) cur2) := Lib.hid (by rw [HR2.out]; simp)
        have HM3 := Lib.hid (HML.out rfl)
        obtain ⟨q2, hq2⟩ : ∃ q2, q2 = cur2.length := ⟨_, rfl⟩
        simp only at hdc ⊢
        rw [← hq2] at HM3 hdc ⊢
        have HQ2 := Lib.hid hq2
        clear hq2 HR2 HML
        go_wp2_with fail
        go_roundw
        case rel => exact ⟨k + 1, cur2, da, dc, q2, by omega, rfl, HQ2, hdc, by go_num, HD6, HB6, HR3, HM3⟩
        case measure => simp [intOf] <;> omega
      · have hee : (er != 0) = true := by simpa using he
        have HX2 : Hid (R = ([], er)) := Lib.hid (by rw [HR2.out, if_pos he])
        clear HR2 HML he
        go_wp2_with fail
        go_ret2
        rw [HX2.out]
        exact ⟨none, 0, rfl, Digs.nil _ _ _, Nat.le_refl _, HB6.out⟩
    · have HX2 : Hid (R = (cur, 0)) := Lib.hid (by rw [HR.out, List.drop_of_length_le (by have := HN.out; omega), visS_nil])
      have hkn : ¬ (k : Int) < (n : Int) := by omega
      clear HR HM
      go_wp2_with fail
      go_ret2
      rw [HX2.out]
      exact ⟨ca, cc, by first | (rw [← HQ.out]; done) | (rw [← HQ.out]; rfl), HD.out, by rw [← HQ.out]; exact hqc, HB.out⟩

end Go.Proofs.YtgdhkcocdmdoaaaGreat

/- The reference's depths. -/
namespace Go.Proofs.YtgdhkcocdmdoaaaGreat
open Go.RowKit Go.Shelf
set_option linter.unusedVariables false

theorem ncells_set (ns : List Nat) (i m : Nat) : (ncells ns).set i (.int .i64 (m : Int)) = ncells (ns.set i m) := by unfold ncells; rw [List.map_set]
theorem ncells_at {ns : List Nat} {i : Nat} (h : i < ns.length) : (ncells ns)[i]? = some (.int .i64 ((ns.getD i 0 : Nat) : Int)) := by
  unfold ncells
  rw [List.getElem?_map, List.getElem?_eq_getElem h, List.getD_eq_getElem?_getD, List.getElem?_eq_getElem h]
  rfl
theorem own_nats {W : World} {base : Nat} {a : Option Addr} {n c : Nat} {ns : List Nat} (hn : n = ns.length) (h : W.ownsRow base 3 1 (.slice a n c) n (ncells ns)) : Nats W.heap.size W a ns := by
  subst hn
  intro i hi
  rcases h.2 with ⟨h1, h2⟩ | ⟨g, cap', cur, h1, _, hg, _⟩
  · omega
  · cases h1
    refine ⟨g, 0, rfl, (Array.getElem?_eq_some_iff.1 hg).1, ?_⟩
    rw [Nat.zero_add, h.cellAt i (by omega), ncells_at hi, List.getD_eq_getElem?_getD, List.getElem?_eq_getElem hi]
    rfl
theorem range_drop {n i : Nat} (h : i < n) : (List.range n).drop i = i :: (List.range n).drop (i + 1) := by
  rw [List.drop_eq_getElem_cons (by simpa using h)]
  simp
theorem atL_get {l : List (Int × Int)} {i : Nat} (h : i < l.length) : atL l i = l[i] := by
  unfold atL; rw [List.getD_eq_getElem?_getD, List.getElem?_eq_getElem h]; rfl
theorem ownsRow_some {W : World} {base : Nat} {e : TypeId} {z : Nat} {a : Option Addr} {n c : Nat} {xs : List Value} (h : W.ownsRow base e z (.slice a n c) n xs) (hn : 0 < n) : ∃ g, a = some ⟨g, 0, none⟩ ∧ base ≤ g ∧ g < W.heap.size := by
  rcases h.2 with ⟨_, h2⟩ | ⟨g, cap', cur, h1, h2, hg, _⟩
  · omega
  · cases h1
    exact ⟨g, rfl, h2, (Array.getElem?_eq_some_iff.1 hg).1⟩
theorem und_zero (xs : List Itm) (l : List (Int × Int)) : Und xs l (List.replicate l.length 0) := ⟨by simp, fun i hi => by simp [List.getD_eq_getElem?_getD, hi]⟩
def GotN (w : World) (ns : List Nat) (n : Nat) (e : Ending) (w' : World) : Prop := ∃ va vc, e = .returned (.slice va n vc) ∧ Nats w'.heap.size w' va ns ∧ Below w.heap.size w w'

set_option maxRecDepth 100000 in
set_option maxHeartbeats 4000000 in
theorem rdepths_any (a : Option Addr) (xs : List Itm) (c : Nat) (la : Option Addr) (l : List (Int × Int)) (lc : Nat) (w : World) (hp : Its w.heap.size w a xs) (hA : Asc xs) (hac : AcyS xs) (hn : (xs.length : Int) ≤ 500) (hd : ∀ x ∈ xs, (x.data.length : Int) ≤ 1000000) (hl : Digs w.heap.size w la l) (hll : (l.length : Int) ≤ 1000) :
    Calls Tryz.prog 52 #[.slice a xs.length c, .slice la l.length lc] w (GotN w (relN xs l l.length) l.length) := by
  have HCO := Lib.hid (fun d1 d2 W (hW : Its W.heap.size W a xs) => rcmt_any a xs c d1 d2 W hW hA (by omega) hd)
  have HP := Lib.hid hp
  have HL := Lib.hid hl
  have HDB : Hid (∀ d, depS xs d ≤ 1000) := Lib.hid (fun d => by
    have := dep_rk hac _ d (Nat.le_refl _); have := rk_le xs d; omega)
  have HAC := Lib.hid hac
  obtain ⟨n, hnn⟩ : ∃ n, n = l.length := ⟨_, rfl⟩
  rw [← hnn] at hll ⊢
  have HN := Lib.hid hnn
  have hB1 : Below w.heap.size w (w.alloc (.cells #[] 3)) := (Below.refl _ w).alloc (Nat.le_refl _) _
  have HB1 := Lib.hid hB1
  have HO1 : Hid ((w.alloc (.cells #[] 3)).ownsRow w.heap.size 3 1 (.slice (some ⟨w.heap.size, 0, none⟩) 0 0) 0 (ncells (List.replicate 0 0))) := Lib.hid (World.ownsRow_made (size := 1) w #[] 0 (Nat.le_refl _) (by decide) rfl)
  clear hp hA hd hnn hl hB1 hac
  generalize xs.length = nx at HCO ⊢
  go_enter Tryz.func52, Tryz.ntmps52
  go_wp2_with fail
  go_loopw [5, 6] (fun v i wr => ∃ k : Nat, k ≤ n ∧ i = .int .i64 k ∧ Hid (wr.ownsRow w.heap.size 3 1 v k (ncells (List.replicate k 0))) ∧ Hid (Below w.heap.size w wr)) (fun _ i _ => n - (intOf i).toNat)
  case atStart => exact ⟨0, by omega, rfl, HO1, HB1⟩
  case round =>
    clear HO1 HB1
    obtain ⟨k, hk, rfl, HO, HB⟩ := hrel
    obtain ⟨va, vc, rfl, hvc⟩ := ownsRow_sliceN HO.out
    by_cases hlt : k < n
    · have hkn : (k : Int) < (n : Int) := by omega
      obtain ⟨v', W', hrun, hown', hg', _⟩ := append_oneN (ns := List.replicate k 0) (by rw [List.length_replicate]; exact HO.out) 0 (by simp; omega) HB.out.size
      have HB4 : Hid (Below w.heap.size w W') := Lib.hid ((HB.out.alloc HB.out.size _).grown hg' (by have := HB.out.size; simp; omega) (fun j hj => by have := (HO.out.lt j hj).1; omega))
      have HO4 : Hid (W'.ownsRow w.heap.size 3 1 v' (k + 1) (ncells (List.replicate (k + 1) 0))) := Lib.hid (by
        have h5 : List.replicate k 0 ++ [0] = List.replicate (k + 1) 0 := by rw [List.replicate_succ']
        rw [h5, List.length_replicate] at hown'
        exact hown')
      have HRUN := Lib.hid hrun
      clear hrun hown' hg' HO HB
      go_wp2_with (at_builtin; refine Lib.wpList_append_run _ rfl _ _ _ _ rfl _ _ rfl rfl _ _ HRUN.out ?_)
      go_roundw
      case rel => exact ⟨k + 1, by omega, by go_num, HO4, HB4⟩
      case measure => simp [intOf] <;> omega
    · obtain rfl : k = n := by omega
      have hkn : ¬ (k : Int) < (k : Int) := by omega
      obtain ⟨x0, hx0⟩ : ∃ x0, x0 = wr := ⟨_, rfl⟩
      rw [← hx0] at HB HO ⊢
      clear hx0
      by_cases hk0 : k = 0
      · subst hk0
        go_wp2_with fail
        go_loopw [7] (fun i wr => i = .int .i64 0 ∧ Hid (Below w.heap.size w wr)) (fun _ _ => 0)
        case atStart => exact ⟨rfl, HB⟩
        case round =>
          obtain ⟨rfl, HB⟩ := hrel
          go_wp2_with fail
          go_ret
          exact ⟨va, vc, rfl, fun i hi => by simp [relN, ← HN.out] at hi, HB.out⟩
      · obtain ⟨g, rfl, hg0, hg1⟩ := ownsRow_some HO.out (by omega)
        have HUZ : Hid (Und xs l (List.replicate k 0)) := Lib.hid (by rw [HN.out]; exact und_zero xs l)
        have HRZ : Hid (relN xs l 0 = List.replicate k 0) := Lib.hid (by rw [HN.out]; rfl)
        rw [← HRZ.out] at HUZ HO
        clear HRZ
        obtain ⟨x1, hx1⟩ : ∃ x, x = x0 := ⟨_, rfl⟩
        go_wp2_with fail
        go_loopw [7] (fun i wr => ∃ r : Nat, r ≤ k ∧ i = .int .i64 r ∧ Hid (wr.ownsRow w.heap.size 3 1 (.slice (some ⟨g, 0, none⟩) k vc) k (ncells (relN xs l r))) ∧ Hid (Und xs l (relN xs l r)) ∧ Hid (Below w.heap.size w wr)) (fun i _ => k - (intOf i).toNat)
        case atStart => exact ⟨0, by omega, rfl, HO, HUZ, HB⟩
        case round =>
          clear HO HUZ HB
          obtain ⟨r, hr, rfl, HO, HUN, HB⟩ := hrel
          by_cases hrk : r < k
          · have hrn : (r : Int) < (k : Int) := by omega
            have HST : Hid (relN xs l (r + 1) = ((List.range k).drop 0).foldl (rRow xs l) (relN xs l r)) := Lib.hid (by rw [List.drop_zero, HN.out]; rfl)
            generalize relN xs l r = out0 at HO HUN HST
            go_wp2_with fail
            go_loopw [8] (fun i wr => ∃ (i' : Nat) (out : List Nat), i' ≤ k ∧ i = .int .i64 i' ∧ Hid (wr.ownsRow w.heap.size 3 1 (.slice (some ⟨g, 0, none⟩) k vc) k (ncells out)) ∧ Hid (Und xs l out) ∧ Hid (relN xs l (r + 1) = ((List.range k).drop i').foldl (rRow xs l) out) ∧ Hid (Below w.heap.size w wr)) (fun i _ => k - (intOf i).toNat)
            case atStart => exact ⟨0, out0, by omega, rfl, HO, HUN, HST, HB⟩
            case round =>
              clear HO HUN HST HB
              obtain ⟨i, out, hi, rfl, HO, HUN, HST, HB⟩ := hrel
              by_cases hik : i < k
              · have hin : (i : Int) < (k : Int) := by omega
                have h1 : i < l.length := by have := HN.out; omega
                obtain ⟨b0, of0, haa, hb0, q0, q1⟩ := (HL.out.ahead HB.out) i h1
                have HLx := Lib.hid (HL.out.ahead HB.out)
                subst haa
                have hat := atL_get h1
                have HST2 : Hid (relN xs l (r + 1) = ((List.range k).drop (i + 1)).foldl (rRow xs l) (rRow xs l out i)) := Lib.hid (by rw [HST.out, range_drop hik, List.foldl_cons])
                have HRW : Hid (rRow xs l out i = ((List.range k).drop 0).foldl (rStep xs l i) out) := Lib.hid (by rw [List.drop_zero, HN.out]; rfl)
                generalize rRow xs l out i = out2 at HST2 HRW
                generalize hdd : l[i] = d at q0 q1 hat
                obtain ⟨d1, d2⟩ := d
                simp only at q0 q1
                have HAT := Lib.hid hat
                have HC := Lib.hid (HCO.out d1 d2 wr (HP.out.ahead HB.out))
                have HCS : Hid (∀ o kk, rStep xs l i o kk = if atL l kk ∈ (commitS xs (d1, d2)).1.pars then o.set i (max (o.getD i 0) (o.getD kk 0 + 1)) else o) := Lib.hid (fun o kk => by unfold rStep; rw [hat])
                obtain ⟨CR, hCR⟩ : ∃ CR, CR = commitS xs (d1, d2) := ⟨_, rfl⟩
                rw [← hCR] at HC HCS
                obtain ⟨⟨kind, data, ents, ⟨t1, t2⟩, pars, author, time, msg⟩, er⟩ := CR
                simp only at HC HCS
                clear hCR hdd hat HST
                go_wp2_with fail
                (with_reducible refine (HC.out).mono ?_)
                rintro e u ⟨ea, ec, pa, pc, rfl, hob, hb⟩
                simp only [Ob.val]
                have hpl := hob.bb.plen
                simp only at hpl
                have HPO := Lib.hid hob.po
                obtain ⟨np, hnp⟩ : ∃ n, n = pars.length := ⟨_, rfl⟩
                rw [← hnp] at hpl ⊢
                have HNP := Lib.hid hnp
                generalize ents.length = ne
                simp only at HPO
                rw [← hnp] at HPO
                have hzu : wr.heap.size ≤ u.heap.size := hb.size
                have hgw : g < wr.heap.size := (HO.out.lt g rfl).2
                have HB2 := Lib.hid (HB.out.trans (hb.mono HB.out.size))
                have HO2 := Lib.hid (own_below HO.out hb)
                have HL2 := Lib.hid (HLx.out.ahead hb)
                obtain ⟨v2, hv2⟩ : ∃ v2, v2 = u.alloc (.cells #[.int .i64 kind, .string ⟨data.toArray⟩, .slice ea ne ec, .int .u64 t1, .int .u64 t2, .slice pa np pc, .string ⟨author.toArray⟩, .int .i64 time, .string ⟨msg.toArray⟩] 36) := ⟨_, rfl⟩
                have hbv : Below u.heap.size u v2 := by rw [hv2]; exact (Below.refl _ _).alloc (Nat.le_refl _) _
                have HB3 := Lib.hid (HB2.out.trans (hbv.mono HB2.out.size))
                have HO3 := Lib.hid (own_below HO2.out hbv)
                have HL3 := Lib.hid (HL2.out.ahead hbv)
                have HP3 := Lib.hid (own_below HPO.out hbv)
                have HKO : Hid (BK u.heap.size #[.int .i64 kind, .string ⟨data.toArray⟩, .slice ea ne ec, .int .u64 t1, .int .u64 t2, .slice pa np pc, .string ⟨author.toArray⟩, .int .i64 time, .string ⟨msg.toArray⟩] 36 v2) := Lib.hid (by rw [hv2]; exact BK.new _ _ _)
                have HV2 := Lib.hid hv2
                obtain ⟨bw, hbw⟩ : ∃ b, b = wr.heap.size := ⟨_, rfl⟩
                obtain ⟨bo, hbo⟩ : ∃ b, b = u.heap.size := ⟨_, rfl⟩
                have HGB : Hid (g < bw ∧ bw ≤ bo) := Lib.hid (by omega)
                rw [← hbw] at HP3
                rw [← hbo] at HKO
                have HBO := Lib.hid hbo
                clear hob hb hbv hv2 hnp HC HPO HB2 HO2 HL2 HO HB HLx q0 q1 hbw hbo hzu hgw
                go_upto_region 13 with (fail)
                rw [← HV2.out, ← HBO.out]
                go_wp2_with fail
                go_loopw [11] (fun v wr => ∃ (j : Nat) (out : List Nat), j ≤ k ∧ v = .int .i64 j ∧ Hid (wr.ownsRow w.heap.size 3 1 (.slice (some ⟨g, 0, none⟩) k vc) k (ncells out)) ∧ Hid (Und xs l out) ∧ Hid (out2 = ((List.range k).drop j).foldl (rStep xs l i) out) ∧ Hid (Below w.heap.size w wr) ∧ Hid (BK bo #[.int .i64 kind, .string ⟨data.toArray⟩, .slice ea ne ec, .int .u64 t1, .int .u64 t2, .slice pa np pc, .string ⟨author.toArray⟩, .int .i64 time, .string ⟨msg.toArray⟩] 36 wr) ∧ Hid (wr.ownsRow bw 32 2 (.slice pa np pc) np (dcells pars))) (fun v _ => k - (intOf v).toNat)
                case atStart => exact ⟨0, out, by omega, rfl, HO3, HUN, HRW, HB3, HKO, HP3⟩
                case round =>
                  clear HO3 HUN HRW HB3 HKO HP3 HL3 HV2 HBO
                  obtain ⟨j, out, hj, rfl, HO, HUN, HRW, HB, HKO, HP3⟩ := hrel
                  by_cases hjk : j < k
                  · have hjn : (j : Int) < (k : Int) := by omega
                    have h2 : j < l.length := by have := HN.out; omega
                    obtain ⟨b2, of2, haa, hb2, q0, q1⟩ := (HL.out.ahead HB.out) j h2
                    cases haa
                    have hat := atL_get h2
                    obtain ⟨g1, _, _⟩ := rStep_law HAC.out h1 h2 HUN.out
                    have HST3 : Hid (out2 = ((List.range k).drop (j + 1)).foldl (rStep xs l i) (rStep xs l i out j)) := Lib.hid (by rw [HRW.out, range_drop hjk, List.foldl_cons])
                    have hrs := HCS.out out j
                    rw [hat] at hrs
                    have HRS := Lib.hid hrs
                    have HG1 := Lib.hid g1
                    generalize l[j] = p at q0 q1 HRS hat
                    obtain ⟨p1, p2⟩ := p
                    simp only at q0 q1
                    generalize rStep xs l i out j = out3 at HST3 HRS HG1
                    have hvi : out.getD i 0 ≤ 1000 := Nat.le_trans (HUN.out.2 i h1) (HDB.out _)
                    have hvk : out.getD j 0 ≤ 1000 := Nat.le_trans (HUN.out.2 j h2) (HDB.out _)
                    have hci : (ncells out)[i]? = some (.int .i64 ((out.getD i 0 : Nat) : Int)) := ncells_at (by rw [HUN.out.1]; exact h1)
                    have hcj : (ncells out)[j]? = some (.int .i64 ((out.getD j 0 : Nat) : Int)) := ncells_at (by rw [HUN.out.1]; exact h2)
                    have HMI := Lib.hid (ncells_set out i)
                    have HCI := Lib.hid hci
                    have HCJ := Lib.hid hcj
                    generalize out.getD i 0 = vi at hvi HCI HRS
                    generalize out.getD j 0 = vk at hvk HCJ HRS
                    have HIN := Lib.hid (fun W (hW : Below wr.heap.size wr W) => rin_any pa pars pc p1 p2 W (own_digs HNP.out (own_below HP3.out hW)) (by rw [← HNP.out]; omega))
                    rw [← HNP.out] at HIN
                    have o5 : wr.cell? ⟨bo, 5, none⟩ = some (.slice pa np pc) := by rw [HKO.out.cell]; rfl
                    have rq0 := cell_regrown q0
                    have rq1 := cell_regrown q1
                    have ro5 := cell_regrown o5
                    clear hrs hci hcj hat g1 HRW HUN
                    cases hin : decide ((p1, p2) ∈ pars) with
                    | false =>
                      rw [hin] at HIN
                      have hos : out3 = out := by rw [HRS.out, if_neg (by simpa using hin)]
                      subst hos
                      clear hin HRS
                      have HRI := Lib.hid (fun d os => Calls.regrown_of (w := wr) (d := d) (os := os) (HIN.out _ (below_regrown wr d os)))
                      clear HIN
                      go_wp2_with fail
                      refine wp_region_quiet_below (by kernel_rfl) (by kernel_rfl) ?_
                      repeat (any_goals (first | go_big_quiet_step (first | (with_reducible exact HRI.out _ _)) | quiet_step (first | (with_reducible exact HRI.out _ _))))
                      refine wpQuiet_nil ?_
                      intro u3 hu3
                      have hb := below_rg hu3
                      clear HRI rq0 rq1 ro5 hu3
                      have HB5 := Lib.hid (HB.out.trans (hb.mono HB.out.size))
                      have HO5 := Lib.hid (own_below HO.out hb)
                      have HK5 := Lib.hid (HKO.out.below hb)
                      have HP5 := Lib.hid (own_below HP3.out hb)
                      clear hb HB HO HKO HP3 q0 q1 o5
                      go_wp2_with fail
                      go_roundw
                      case rel => exact ⟨j + 1, out3, by omega, by go_num, HO5, HG1, HST3, HB5, HK5, HP5⟩
                      case measure => simp [intOf] <;> omega
                    | true =>
                      rw [hin] at HIN
                      have HOS : Hid (out3 = out.set i (max vi (vk + 1))) := Lib.hid (by rw [HRS.out, if_pos (by simpa using hin)])
                      clear hin HRS
                      have HRI := Lib.hid (fun d os => Calls.regrown_of (w := wr) (d := d) (os := os) (HIN.out _ (below_regrown wr d os)))
                      clear HIN
                      go_wp2_with fail
                      refine wp_region_quiet_below (by kernel_rfl) (by kernel_rfl) ?_
                      repeat (any_goals (first | go_big_quiet_step (first | (with_reducible exact HRI.out _ _)) | quiet_step (first | (with_reducible exact HRI.out _ _))))
                      refine wpQuiet_nil ?_
                      intro u3 hu3
                      have hb := below_rg hu3
                      clear HRI rq0 rq1 ro5 hu3
                      have HB5 := Lib.hid (HB.out.trans (hb.mono HB.out.size))
                      have HO5 := Lib.hid (own_below HO.out hb)
                      have HK5 := Lib.hid (HKO.out.below hb)
                      have HP5 := Lib.hid (own_below HP3.out hb)
                      have ci : u3.cell? ⟨g, i, none⟩ = some (.int .i64 (vi : Int)) := by rw [HO5.out.cellAt i (by omega), HCI.out]
                      have cj : u3.cell? ⟨g, j, none⟩ = some (.int .i64 (vk : Int)) := by rw [HO5.out.cellAt j (by omega), HCJ.out]
                      have fi : u3.frozen? ⟨g, i, none⟩ = false := HO5.out.frozenAt i
                      clear hb HB HO HKO HP3 q0 q1 o5 HCI HCJ
                      obtain ⟨hst, hgs⟩ := HO5.out.stored i (.int .i64 (max (vi : Int) ((vk : Int) + 1)))
                      have hcast : ((max vi (vk + 1) : Nat) : Int) = max (vi : Int) ((vk : Int) + 1) := by omega
                      have HO6 : Hid ((u3.setCell ⟨g, i, none⟩ (.int .i64 (max (vi : Int) ((vk : Int) + 1)))).drew.ownsRow w.heap.size 3 1 (.slice (some ⟨g, 0, none⟩) k vc) k (ncells out3)) := Lib.hid (by
                        rw [HOS.out, ← HMI.out, hcast]; exact hst.drew)
                      have HB6 := Lib.hid ((HB5.out.grown hgs HB5.out.size (fun j' e' => by cases e'; exact hg0)).drew)
                      have HK6 : Hid (BK bo #[.int .i64 kind, .string ⟨data.toArray⟩, .slice ea ne ec, .int .u64 t1, .int .u64 t2, .slice pa np pc, .string ⟨author.toArray⟩, .int .i64 time, .string ⟨msg.toArray⟩] 36 (u3.setCell ⟨g, i, none⟩ (.int .i64 (max (vi : Int) ((vk : Int) + 1)))).drew) := Lib.hid (HK5.out.other (c := g) (by have := HGB.out; omega) i (.int .i64 (max (vi : Int) ((vk : Int) + 1))))
                      have HP6 := Lib.hid ((own_kept HP5.out hgs HGB.out.1).drew)
                      clear hst hgs HB5 HO5 HK5 HP5 hcast HOS HMI
                      go_wp2_with fail
                      go_region_law (fail)
                      all_goals go_wp2_with fail
                      all_goals go_roundw
                      all_goals first | exact ⟨j + 1, out3, by omega, by go_num, HO6, HG1, HST3, HB6, HK6, HP6⟩ | (simp [intOf] <;> omega)
                  · have hjn : ¬ (j : Int) < (k : Int) := by omega
                    have hos : out2 = out := by rw [HRW.out, List.drop_of_length_le (by simp; omega), List.foldl_nil]
                    subst hos
                    clear HRW
                    go_wp2_with fail
                    go_roundw
                    case rel => exact ⟨i + 1, out2, by omega, by go_num, HO, HUN, HST2, HB⟩
                    case measure => simp [intOf] <;> omega
              · have hin : ¬ (i : Int) < (k : Int) := by omega
                have hos : relN xs l (r + 1) = out := by rw [HST.out, List.drop_of_length_le (by simp; omega), List.foldl_nil]
                rw [← hos] at HO HUN
                clear HST hos
                go_wp2_with fail
                go_roundw
                case rel => exact ⟨r + 1, by omega, by go_num, HO, HUN, HB⟩
                case measure => simp [intOf] <;> omega
          · have hrn : ¬ (r : Int) < (k : Int) := by omega
            obtain rfl : r = k := by omega
            have HNT := Lib.hid (own_nats (by rw [HUN.out.1]; exact HN.out) HO.out)
            go_wp2_with fail
            go_ret
            exact ⟨some ⟨g, 0, none⟩, vc, rfl, HNT.out, HB.out⟩
end Go.Proofs.YtgdhkcocdmdoaaaGreat

/- The reference's Ancestors. -/
namespace Go.Proofs.YtgdhkcocdmdoaaaGreat
open Go.RowKit Go.Shelf
set_option linter.unusedVariables false

theorem withS_len1 : ∀ (l : List (Int × Int)) (d : Int × Int), (withS l d).length ≤ l.length + 1
  | [], d => by simp [withS]
  | y :: l, d => by
    have := withS_len1 l d
    rw [withS_cons]
    split
    · simp; omega
    · split <;> simp
theorem drop_filter_hit {l : List (Int × Int)} {P : Int × Int → Bool} {i : Nat} (h : i < l.length) (acc : List (Int × Int)) : ((l.drop i).filter P).foldl withS acc = ((l.drop (i + 1)).filter P).foldl withS (if P l[i] then withS acc l[i] else acc) := by
  rw [List.drop_eq_getElem_cons h]
  by_cases hp : P l[i] = true
  · rw [List.filter_cons_of_pos hp, if_pos hp, List.foldl_cons]
  · rw [List.filter_cons_of_neg hp, if_neg hp]

set_option maxRecDepth 100000 in
set_option maxHeartbeats 4000000 in
theorem rancestors_any (a : Option Addr) (xs : List Itm) (c : Nat) (ha : Option Addr) (heads : List (Int × Int)) (hc : Nat) (w : World) (hp : Its w.heap.size w a xs) (hA : Asc xs) (hac : AcyS xs) (hn : (xs.length : Int) ≤ 500) (hd : ∀ x ∈ xs, (x.data.length : Int) ≤ 1000000) (hh : Digs w.heap.size w ha heads) (hhl : (heads.length : Int) ≤ 1000) (hok : ∀ d ∈ heads, OkD d) :
    Calls Tryz.prog 30 #[.slice a xs.length c, .slice ha heads.length hc] w (GotR w (ancS xs heads)) := by
  have HAL := Lib.hid (rall_any a xs c ha heads hc w hp hA hn hd hh hhl)
  obtain ⟨R, hR⟩ : ∃ R, R = ancS xs heads := ⟨_, rfl⟩
  rw [← hR]
  by_cases he : (visS xs heads []).2 = 0
  · have hf := vis_facts he hok
    have HDE := Lib.hid (fun W la lc (hl : Digs W.heap.size W la (visS xs heads []).1) (hW : Below w.heap.size w W) => rdepths_any a xs c la (visS xs heads []).1 lc W (hp.ahead hW) hA hac hn hd hl (by have := hf.le; omega))
    have HLY : Hid (R = (layersS (depS xs) (visS xs heads []).1 ((visS xs heads []).1.length + 1), 0)) := Lib.hid (by
      rw [hR]
      unfold ancS
      rw [if_neg (by simpa using he), layers_sort hf.nd (fun x hx => Nat.lt_succ_of_lt (dep_len hac (fun d hd => (hf.cl d hd).2) hx))])
    have HDP : Hid (∀ i (h : i < (visS xs heads []).1.length), (relN xs (visS xs heads []).1 (visS xs heads []).1.length).getD i 0 = depS xs (visS xs heads []).1[i]) := Lib.hid (fun i h => by
      rw [relN_dep hac (fun d hd => (hf.cl d hd).2) h, atL_get h])
    have HRL : Hid ((relN xs (visS xs heads []).1 (visS xs heads []).1.length).length = (visS xs heads []).1.length) := Lib.hid ((relN_law hac (fun d hd => (hf.cl d hd).2) _).1.1)
    have hln : ((visS xs heads []).1.length : Int) ≤ 500 := by have := hf.le; omega
    have HDL : Hid (∀ i (h : i < (visS xs heads []).1.length), depS xs (visS xs heads []).1[i] < (visS xs heads []).1.length) := Lib.hid (fun i h => dep_len hac (fun d hd => (hf.cl d hd).2) (List.getElem_mem h))
    have hvs : visS xs heads [] = ((visS xs heads []).1, 0) := Prod.ext rfl he
    rw [hvs] at HAL
    clear hvs hf he hR hp hh hhl hok hA hac hd hn
    generalize (visS xs heads []).1 = l at HAL HDE HLY HDP HRL hln HDL
    generalize relN xs l l.length = rel at HDE HDP HRL
    obtain ⟨n, hnn⟩ : ∃ n, n = l.length := ⟨_, rfl⟩
    rw [← hnn] at HDE hln
    have HN := Lib.hid hnn
    generalize heads.length = nh at HAL ⊢
    generalize xs.length = nx at HAL HDE ⊢
    clear hnn
    go_enter Tryz.func30, Tryz.ntmps30
    go_wp2_with fail
    (with_reducible refine (HAL.out).mono ?_)
    rintro e u ⟨la, lc, rfl, hdg, hlc, hb⟩
    simp only at hdg hlc ⊢
    rw [← HN.out] at hlc ⊢
    have HB1 := Lib.hid hb
    have HD1 := Lib.hid hdg
    have HC1 := Lib.hid (HDE.out u la lc hdg hb)
    clear hb hdg HAL HDE
    go_wp2_with fail
    (with_reducible refine (HC1.out).mono ?_)
    rintro e u2 ⟨va, vc, rfl, hnt, hb⟩
    have HB2 := Lib.hid (HB1.out.trans (hb.mono HB1.out.size))
    have HD2 := Lib.hid (HD1.out.ahead hb)
    have HNT := Lib.hid hnt
    clear hb hnt HC1 HB1 HD1
    have HO2 : Hid ((u2.alloc (.cells #[] 32)).ownsRow u2.heap.size 32 2 (.slice (some ⟨u2.heap.size, 0, none⟩) 0 0) ([] : List (Int × Int)).length (dcells [])) := Lib.hid (World.ownsRow_made (size := 2) u2 #[] 0 (Nat.le_refl _) (by decide) rfl)
    have HE2 : Hid (Below u2.heap.size u2 (u2.alloc (.cells #[] 32))) := Lib.hid ((Below.refl _ u2).alloc (Nat.le_refl _) _)
    go_wp2_with fail
    go_loopw [9, 10] (fun v i wr => ∃ (k : Nat) (out : List (Int × Int)), k ≤ n + 1 ∧ i = .int .i64 ((k : Int) - 1) ∧ Hid (wr.ownsRow u2.heap.size 32 2 v out.length (dcells out)) ∧ Hid (layersS (depS xs) l (n + 1) = out ++ layersS (depS xs) l k ∧ out.length ≤ (n + 1 - k) * n) ∧ Hid (Below u2.heap.size u2 wr)) (fun _ i _ => (intOf i + 1).toNat)
    case atStart => exact ⟨n + 1, [], by omega, by go_num, HO2, Lib.hid ⟨rfl, by simp⟩, HE2⟩
    case round =>
      clear HO2 HE2
      obtain ⟨k, out, hk, rfl, HO, HT, HE⟩ := hrel
      obtain ⟨oa, oc, rfl, hoc⟩ := ownsRow_sliceN HO.out
      by_cases hk0 : 0 < k
      · obtain ⟨kk, rfl⟩ : ∃ kk, k = kk + 1 := ⟨k - 1, by omega⟩
        have hix : ((kk + 1 : Nat) : Int) - 1 = (kk : Int) := by omega
        rw [hix]
        have hkn : (kk : Int) ≤ 500 := by omega
        have hkg : (0 : Int) ≤ (kk : Int) := by omega
        have HSM : Hid (layerS (depS xs) l kk = ((l.drop 0).filter fun d => decide (depS xs d = kk)).foldl withS []) := Lib.hid rfl
        have HT2 : Hid (layersS (depS xs) l (n + 1) = (out ++ layerS (depS xs) l kk) ++ layersS (depS xs) l kk) := Lib.hid (by rw [HT.out.1, layersS, List.append_assoc])
        have HTL := Lib.hid HT.out.2
        generalize layerS (depS xs) l kk = LY at HSM HT2
        have HO3 := Lib.hid (HO.out.alloc (.cells #[] 32))
        have HE3 := Lib.hid (HE.out.alloc HE.out.size (.cells #[] 32))
        have HS3 : Hid (Digs (wr.alloc (.cells #[] 32)).heap.size (wr.alloc (.cells #[] 32)) (some ⟨wr.heap.size, 0, none⟩) []) := Lib.hid (Digs.nil _ _ _)
        obtain ⟨ol, hol⟩ : ∃ n, n = out.length := ⟨_, rfl⟩
        rw [← hol] at HO3 hoc HTL ⊢
        have HOL := Lib.hid hol
        clear HO HT HE hol
        go_wp2_with fail
        go_loopw [11, 12] (fun v i wr => ∃ (j q : Nat) (same : List (Int × Int)) (sa : Option Addr) (sc : Nat), j ≤ n ∧ v = .slice sa q sc ∧ i = .int .i64 j ∧ Hid (q = same.length) ∧ q ≤ sc ∧ q ≤ j ∧ Hid (Digs wr.heap.size wr sa same) ∧ Hid (LY = ((l.drop j).filter fun d => decide (depS xs d = kk)).foldl withS same) ∧ Hid (wr.ownsRow u2.heap.size 32 2 (.slice oa ol oc) ol (dcells out)) ∧ Hid (Below u2.heap.size u2 wr)) (fun _ i _ => n - (intOf i).toNat)
        case atStart => exact ⟨0, 0, [], _, 0, by omega, rfl, rfl, Lib.hid rfl, by omega, by omega, HS3, HSM, HO3, HE3⟩
        case round =>
          clear HS3 HSM HO3 HE3
          obtain ⟨j, q, same, sa, sc, hj, rfl, rfl, HQ, hqc, hqj, HS, HSM, HO, HE⟩ := hrel
          by_cases hjn : j < n
          · have hji : (j : Int) < (n : Int) := by omega
            have h1 : j < l.length := by have := HN.out; omega
            obtain ⟨b0, of0, haa, hb0, q0, q1⟩ := (HD2.out.ahead HE.out) j h1
            have HDx := HD2
            subst haa
            obtain ⟨b1, of1, haa, hb1, d0⟩ := (HNT.out.ahead HE.out) j (by rw [HRL.out]; exact h1)
            have HNx := HNT
            subst haa
            have hdv : rel[j]'(by rw [HRL.out]; exact h1) = depS xs l[j] := by
              rw [← HDP.out j h1, List.getD_eq_getElem?_getD, List.getElem?_eq_getElem (by rw [HRL.out]; exact h1)]; rfl
            rw [hdv] at d0
            have hdl := HDL.out j h1
            rw [← HN.out] at hdl
            have hSM := HSM.out
            rw [drop_filter_hit h1] at hSM
            have HSM2 := Lib.hid hSM
            have HWI := Lib.hid (fun p1 p2 => rwith_any sa same sc p1 p2 wr HS.out (by rw [← HQ.out]; exact hqc) (by rw [← HQ.out]; omega))
            rw [← HQ.out] at HWI
            clear hSM hdv HSM
            by_cases hdk : depS xs l[j] = kk
            · have HLn := Lib.hid (withS_len1 same l[j])
              have HSM3 : Hid (LY = ((l.drop (j + 1)).filter fun d => decide (depS xs d = kk)).foldl withS (withS same l[j])) := Lib.hid (by rw [HSM2.out, if_pos (by simpa using hdk)])
              rw [hdk] at d0
              clear HSM2 hdk hdl
              generalize l[j] = p at q0 q1 HSM3 HLn
              obtain ⟨p1, p2⟩ := p
              simp only at q0 q1
              have HW1 := Lib.hid (HWI.out p1 p2)
              generalize withS same (p1, p2) = same2 at HSM3 HLn HW1
              clear HWI
              go_wp2_with fail
              (with_reducible refine (HW1.out).mono ?_)
              rintro e u3 ⟨sa2, sc2, rfl, hdg, hsc, _, hb⟩
              have HE4 := Lib.hid (HE.out.trans (hb.mono HE.out.size))
              have HO4 := Lib.hid (own_below HO.out hb)
              have HS4 := Lib.hid hdg
              obtain ⟨q2, hq2⟩ : ∃ n, n = same2.length := ⟨_, rfl⟩
              have hq3 : q2 ≤ j + 1 := by have := HLn.out; have := HQ.out; omega
              rw [← hq2] at hsc ⊢
              have HQ2 := Lib.hid hq2
              clear hb hdg hq2 HW1 HS HO HE q0 q1 d0 HLn
              go_wp2_with fail
              go_roundw
              case rel => exact ⟨j + 1, q2, same2, sa2, sc2, by omega, rfl, by go_num, HQ2, hsc, hq3, HS4, HSM3, HO4, HE4⟩
              case measure => simp [intOf] <;> omega
            · have HSM3 : Hid (LY = ((l.drop (j + 1)).filter fun d => decide (depS xs d = kk)).foldl withS same) := Lib.hid (by rw [HSM2.out, if_neg (by simpa using hdk)])
              have hne : (((depS xs l[j] : Nat) : Int) == (kk : Int)) = false := by simp; omega
              generalize depS xs l[j] = dv at d0 hne hdl
              clear HSM2 hdk HWI
              go_wp2_with fail
              go_roundw
              case rel => exact ⟨j + 1, q, same, sa, sc, by omega, rfl, by go_num, HQ, hqc, by omega, HS, HSM3, HO, HE⟩
              case measure => simp [intOf] <;> omega
          · have hji : ¬ (j : Int) < (n : Int) := by omega
            have hly : LY = same := by rw [HSM.out, List.drop_of_length_le (by have := HN.out; omega)]; rfl
            rw [hly] at HT2
            obtain ⟨v', W', hrun, hown', hg', _⟩ := append_digs wr u2.heap.size 24 (.slice oa ol oc) out (by rw [← HOL.out]; exact HO.out) sa same sc HS.out (by
              have h1 := HTL.out
              have h2 : (n + 1 - (kk + 1)) * n ≤ 500 * 500 := Nat.mul_le_mul (by omega) (by omega)
              rw [← HOL.out, ← HQ.out]
              omega) HE.out.size
            rw [← HQ.out] at hrun
            have HE4 : Hid (Below u2.heap.size u2 W') := Lib.hid (below_own HE.out HO.out hg' (Nat.le_refl _))
            have HO4 := Lib.hid hown'
            have HT3 : Hid (layersS (depS xs) l (n + 1) = (out ++ same) ++ layersS (depS xs) l kk ∧ (out ++ same).length ≤ (n + 1 - kk) * n) := Lib.hid ⟨HT2.out, by
              have h1 := HTL.out
              have h2 : (n + 1 - kk) * n = (n + 1 - (kk + 1)) * n + n := by
                rw [show n + 1 - kk = (n + 1 - (kk + 1)) + 1 by omega, Nat.succ_mul]
              rw [List.length_append, ← HOL.out, ← HQ.out]
              omega⟩
            have HRUN := Lib.hid hrun
            clear hrun hown' hg' HE HO HT2 HS hly HSM
            go_wp2_with (at_builtin; refine Lib.wpList_append_run _ rfl _ _ _ _ rfl _ _ rfl rfl _ _ HRUN.out ?_)
            go_roundw
            case rel => exact ⟨kk, out ++ same, by omega, by go_num, HO4, HT3, HE4⟩
            case measure => simp [intOf] <;> omega
      · have hk1 : k = 0 := by omega
        subst hk1
        have HX : Hid (R = (out, 0)) := Lib.hid (by rw [HLY.out, ← HN.out, HT.out.1]; simp [layersS])
        have HB := Lib.hid (HB2.out.trans (HE.out.mono HB2.out.size))
        have HDO := Lib.hid (ownsRow_digs HO.out)
        clear HT
        go_wp2_with fail
        go_ret2
        rw [HX.out]
        exact ⟨oa, oc, rfl, HDO.out, hoc, HB.out⟩
  · have HX : Hid (R = ([], (visS xs heads []).2)) := Lib.hid (by rw [hR]; unfold ancS; rw [if_pos he])
    have hvs : (visS xs heads []).1 = [] := (visS_bad xs _ heads [] (Nat.le_refl _) he).1
    rw [show visS xs heads [] = ([], (visS xs heads []).2) from Prod.ext hvs rfl] at HAL
    generalize (visS xs heads []).2 = er at HAL HX he
    have hee : (er != 0) = true := by simpa using he
    clear hvs he hR hp hh hhl hok hA hac hd hn
    generalize heads.length = nh at HAL ⊢
    generalize xs.length = nx at HAL ⊢
    go_enter Tryz.func30, Tryz.ntmps30
    go_wp2_with fail
    (with_reducible refine (HAL.out).mono ?_)
    rintro e u ⟨la, lc, rfl, hdg, hlc, hb⟩
    have HB1 := Lib.hid hb
    clear hb hdg HAL
    go_wp2_with fail
    go_ret2
    rw [HX.out]
    exact ⟨none, 0, rfl, Digs.nil _ _ _, Nat.le_refl _, HB1.out⟩

theorem vis_head {xs : List Itm} {d : Int × Int} (h : (visS xs [d] []).2 = 0) : ∃ t, (visS xs [d] []).1 = d :: t := by
  rw [visS_cons] at h ⊢
  have h1 : d ∉ ([] : List (Int × Int)) := by simp
  rw [if_neg h1] at h ⊢
  by_cases he : (commitS xs d).2 = 0
  · have he' : ¬ ((commitS xs d).2 ≠ 0) := by simpa using he
    rw [if_neg he'] at h ⊢
    obtain ⟨new, hn⟩ := (visS_law xs _ _ _ (Nat.le_refl _) h).pre
    exact ⟨new, by rw [hn]; rfl⟩
  · rw [if_pos he] at h; exact absurd h he

set_option maxRecDepth 100000 in
set_option maxHeartbeats 4000000 in
theorem rreaches_any (a : Option Addr) (xs : List Itm) (c : Nat) (x y x' y' : Int) (w : World) (hp : Its w.heap.size w a xs) (hA : Asc xs) (hn : (xs.length : Int) ≤ 500) (hd : ∀ x ∈ xs, (x.data.length : Int) ≤ 1000000) (hok : OkD (x, y)) :
    Calls Tryz.prog 24 #[.slice a xs.length c, .agg #[.int .u64 x, .int .u64 y], .agg #[.int .u64 x', .int .u64 y']] w fun e w' => e = .returned (.tuple #[.bool (reachesS xs (x, y) (x', y')).1, .int .i64 (reachesS xs (x, y) (x', y')).2]) ∧ Below w.heap.size w w' := by
  have HAL := Lib.hid (fun W q (hW : Below w.heap.size w W) (hk : BK q #[.int .u64 x, .int .u64 y] 32 W) => rall_any a xs c (some ⟨q, 0, none⟩) [(x, y)] 1 W (hp.ahead hW) hA hn hd (digs_one hk) (by simp))
  simp only [List.length_cons, List.length_nil, Nat.zero_add] at HAL
  obtain ⟨R, hR⟩ : ∃ R, R = reachesS xs (x, y) (x', y') := ⟨_, rfl⟩
  rw [← hR]
  unfold reachesS at hR
  have hln : (visS xs [(x, y)] []).2 = 0 → ((visS xs [(x, y)] []).1.length : Int) ≤ 500 := fun h => by
    have := (vis_facts h (fun d hd => by rw [List.mem_singleton.1 hd]; exact hok)).le
    omega
  generalize visS xs [(x, y)] [] = VR at HAL hR hln
  obtain ⟨l, er⟩ := VR
  simp only at HAL hR hln
  have HR := Lib.hid hR
  obtain ⟨w0, hw0⟩ : ∃ w0, w0 = (w.alloc (.cells #[.int .u64 x, .int .u64 y] 32)).alloc (.cells #[.int .u64 x', .int .u64 y'] 32) := ⟨_, rfl⟩
  have hb0 : Below w.heap.size w w0 := by rw [hw0]; exact ((Below.refl _ w).alloc (Nat.le_refl _) _).alloc (by simp) _
  have HK0 : Hid (BK (w.heap.size + 1) #[.int .u64 x', .int .u64 y'] 32 w0) := Lib.hid (by rw [hw0]; exact BK.new2 _ _ _ _)
  obtain ⟨w1, hw1⟩ : ∃ w1, w1 = w0.alloc (.cells #[.int .u64 x, .int .u64 y] 32) := ⟨_, rfl⟩
  have hz0 : w0.heap.size = w.heap.size + 1 + 1 := by rw [hw0]; simp
  have hb1 : Below w.heap.size w w1 := by rw [hw1]; exact hb0.alloc hb0.size _
  have HK1 : Hid (BK (w.heap.size + 1) #[.int .u64 x', .int .u64 y'] 32 w1) := Lib.hid (by rw [hw1]; exact HK0.out.alloc _)
  have HC1 := Lib.hid (HAL.out w1 w0.heap.size hb1 (by rw [hw1]; exact BK.new _ _ _))
  rw [hz0, hw1, hw0] at HC1
  have HB1 := Lib.hid hb1
  have HW1 : Hid (w1 = ((w.alloc (.cells #[.int .u64 x, .int .u64 y] 32)).alloc (.cells #[.int .u64 x', .int .u64 y'] 32)).alloc (.cells #[.int .u64 x, .int .u64 y] 32)) := Lib.hid (by rw [hw1, hw0])
  clear hw1 hw0 hz0 hb1 hb0 HK0 HAL hR hp hA hd hn
  generalize xs.length = nx at HC1 ⊢
  go_enter Tryz.func24, Tryz.ntmps24
  go_wp2_with fail
  (with_reducible refine (HC1.out).mono ?_)
  rintro e u ⟨la, lc, rfl, hdg, hlc, hb⟩
  simp only at hdg ⊢
  rw [← HW1.out] at hb
  have HB2 := Lib.hid (HB1.out.trans (hb.mono HB1.out.size))
  have HK2 := Lib.hid (HK1.out.below hb)
  have HD2 := Lib.hid hdg
  clear hb hdg HC1 HW1 HB1 HK1
  by_cases he : er = 0
  · subst he
    have hl2 := hln rfl
    have HX : Hid (R = (decide ((x', y') ∈ l), 0)) := Lib.hid (by rw [HR.out]; simp)
    have HIN := Lib.hid (rin_any la l lc x' y' u HD2.out (by omega))
    have e0 : u.cell? ⟨w.heap.size + 1, 0, none⟩ = some (.int .u64 x') := by rw [HK2.out.cell]; rfl
    have e1 : u.cell? ⟨w.heap.size + 1, 1, none⟩ = some (.int .u64 y') := by rw [HK2.out.cell]; rfl
    clear HR hln
    generalize l.length = nl at HIN hl2 ⊢
    go_wp2_with fail
    (with_reducible refine (HIN.out).mono ?_)
    rintro e u3 ⟨rfl, hb⟩
    have HB3 := Lib.hid (HB2.out.trans (hb.mono HB2.out.size))
    clear hb
    go_wp2_with fail
    go_ret2
    rw [HX.out]
    exact ⟨rfl, HB3.out⟩
  · have hee : (er != 0) = true := by simpa using he
    have HX : Hid (R = (false, er)) := Lib.hid (by rw [HR.out, if_pos he])
    clear HR hln he
    generalize l.length = nl
    go_wp2_with fail
    go_ret2
    rw [HX.out]
    exact ⟨rfl, HB2.out⟩

set_option maxRecDepth 100000 in
set_option maxHeartbeats 4000000 in
theorem rdepth_any (a : Option Addr) (xs : List Itm) (c : Nat) (x y : Int) (w : World) (hp : Its w.heap.size w a xs) (hA : Asc xs) (hac : AcyS xs) (hn : (xs.length : Int) ≤ 500) (hd : ∀ x ∈ xs, (x.data.length : Int) ≤ 1000000) (hok : OkD (x, y)) :
    Calls Tryz.prog 29 #[.slice a xs.length c, .agg #[.int .u64 x, .int .u64 y]] w fun e w' => e = .returned (.tuple #[.int .i64 (depthS xs (x, y)).1, .int .i64 (depthS xs (x, y)).2]) ∧ Below w.heap.size w w' := by
  have HAL := Lib.hid (fun W q (hW : Below w.heap.size w W) (hk : BK q #[.int .u64 x, .int .u64 y] 32 W) => rall_any a xs c (some ⟨q, 0, none⟩) [(x, y)] 1 W (hp.ahead hW) hA hn hd (digs_one hk) (by simp))
  simp only [List.length_cons, List.length_nil, Nat.zero_add] at HAL
  obtain ⟨R, hR⟩ : ∃ R, R = depthS xs (x, y) := ⟨_, rfl⟩
  rw [← hR]
  unfold depthS at hR
  have HF : Hid ((visS xs [(x, y)] []).2 = 0 → ((visS xs [(x, y)] []).1.length : Int) ≤ 500 ∧ 0 < (visS xs [(x, y)] []).1.length ∧ (relN xs (visS xs [(x, y)] []).1 (visS xs [(x, y)] []).1.length).length = (visS xs [(x, y)] []).1.length ∧ (relN xs (visS xs [(x, y)] []).1 (visS xs [(x, y)] []).1.length).getD 0 0 = depS xs (x, y)) := Lib.hid (fun h => by
    have hf := vis_facts h (fun d hd => by rw [List.mem_singleton.1 hd]; exact hok)
    obtain ⟨t, ht⟩ := vis_head h
    have h0 : 0 < (visS xs [(x, y)] []).1.length := by rw [ht]; simp
    refine ⟨by have := hf.le; omega, h0, (relN_law hac (fun d hd => (hf.cl d hd).2) _).1.1, ?_⟩
    rw [relN_dep hac (fun d hd => (hf.cl d hd).2) h0, atL_get h0]
    congr 1
    simp [ht])
  have HDE := Lib.hid (fun W la lc (hl : Digs W.heap.size W la (visS xs [(x, y)] []).1) (hW : Below w.heap.size w W) (hln : ((visS xs [(x, y)] []).1.length : Int) ≤ 500) => rdepths_any a xs c la (visS xs [(x, y)] []).1 lc W (hp.ahead hW) hA hac hn hd hl (by omega))
  generalize visS xs [(x, y)] [] = VR at HAL hR HF HDE
  obtain ⟨l, er⟩ := VR
  simp only at HAL hR HF HDE
  have HR := Lib.hid hR
  obtain ⟨w0, hw0⟩ : ∃ w0, w0 = w.alloc (.cells #[.int .u64 x, .int .u64 y] 32) := ⟨_, rfl⟩
  have hb0 : Below w.heap.size w w0 := by rw [hw0]; exact (Below.refl _ w).alloc (Nat.le_refl _) _
  obtain ⟨w1, hw1⟩ : ∃ w1, w1 = w0.alloc (.cells #[.int .u64 x, .int .u64 y] 32) := ⟨_, rfl⟩
  have hz0 : w0.heap.size = w.heap.size + 1 := by rw [hw0]; simp
  have hb1 : Below w.heap.size w w1 := by rw [hw1]; exact hb0.alloc hb0.size _
  have HC1 := Lib.hid (HAL.out w1 w0.heap.size hb1 (by rw [hw1]; exact BK.new _ _ _))
  rw [hz0, hw1, hw0] at HC1
  have HB1 := Lib.hid hb1
  have HW1 : Hid (w1 = (w.alloc (.cells #[.int .u64 x, .int .u64 y] 32)).alloc (.cells #[.int .u64 x, .int .u64 y] 32)) := Lib.hid (by rw [hw1, hw0])
  clear hw1 hw0 hz0 hb1 hb0 HAL hR hp hA hd hn
  generalize xs.length = nx at HC1 HDE ⊢
  go_enter Tryz.func29, Tryz.ntmps29
  go_wp2_with fail
  (with_reducible refine (HC1.out).mono ?_)
  rintro e u ⟨la, lc, rfl, hdg, hlc, hb⟩
  simp only at hdg ⊢
  rw [← HW1.out] at hb
  have HB2 := Lib.hid (HB1.out.trans (hb.mono HB1.out.size))
  have HD2 := Lib.hid hdg
  clear hb hdg HC1 HW1 HB1
  by_cases he : er = 0
  · subst he
    obtain ⟨hl2, hl0, hrl, hr0⟩ := HF.out rfl
    have HX : Hid (R = (((depS xs (x, y) : Nat) : Int), (0 : Int))) := Lib.hid (by rw [HR.out]; simp)
    have HC2 := Lib.hid (HDE.out u la lc HD2.out HB2.out hl2)
    generalize relN xs l l.length = rel at HC2 hrl hr0
    have HRL := Lib.hid hrl
    have HR0 := Lib.hid hr0
    clear HR HF HDE hrl hr0
    generalize l.length = nl at HC2 hl2 hl0 HRL ⊢
    have hnl : (0 : Int) < (nl : Int) := by omega
    go_wp2_with fail
    (with_reducible refine (HC2.out).mono ?_)
    rintro e u3 ⟨va, vc, rfl, hnt, hb⟩
    have HB3 := Lib.hid (HB2.out.trans (hb.mono HB2.out.size))
    obtain ⟨b0, of0, haa, hb0, q0⟩ := hnt 0 (by rw [HRL.out]; exact hl0)
    subst haa
    have hv0 : rel[0]'(by rw [HRL.out]; exact hl0) = depS xs (x, y) := by
      rw [← HR0.out, List.getD_eq_getElem?_getD, List.getElem?_eq_getElem (by rw [HRL.out]; exact hl0)]; rfl
    rw [hv0, Nat.add_zero] at q0
    clear hb hnt hv0
    go_wp2_with fail
    go_ret2
    rw [HX.out]
    exact ⟨rfl, HB3.out⟩
  · have hee : (er != 0) = true := by simpa using he
    have HX : Hid (R = (0, er)) := Lib.hid (by rw [HR.out, if_pos he])
    clear HR HF he HDE
    generalize l.length = nl
    go_wp2_with fail
    go_ret2
    rw [HX.out]
    exact ⟨rfl, HB2.out⟩

end Go.Proofs.YtgdhkcocdmdoaaaGreat

/- The reference's Between, Bases, First. -/
namespace Go.Proofs.YtgdhkcocdmdoaaaGreat
open Go.RowKit Go.Shelf
set_option linter.unusedVariables false

theorem sortH_filter {dep : Int × Int → Nat} {l : List (Int × Int)} (h : l.Nodup) (P : Int × Int → Bool) : (sortH dep l).filter P = sortH dep (l.filter P) := by
  refine ascH_ext ((sortH_asc h).filter _) (sortH_asc (h.filter _)) (fun x => ?_)
  rw [List.mem_filter, (sortH_perm dep l).mem_iff, (sortH_perm dep _).mem_iff, List.mem_filter]
theorem drop_filter_one {l : List (Int × Int)} {P : Int × Int → Bool} {i : Nat} (h : i < l.length) : (l.drop i).filter P = (if P l[i] then [l[i]] else []) ++ (l.drop (i + 1)).filter P := by
  rw [List.drop_eq_getElem_cons h]
  by_cases hp : P l[i] = true
  · rw [List.filter_cons_of_pos hp, if_pos hp]; rfl
  · rw [List.filter_cons_of_neg hp, if_neg hp]; rfl

set_option maxRecDepth 100000 in
set_option maxHeartbeats 4000000 in
theorem rbetween_any (a : Option Addr) (xs : List Itm) (c : Nat) (oa : Option Addr) (old : List (Int × Int)) (oc : Nat) (ha : Option Addr) (new : List (Int × Int)) (hc : Nat) (w : World) (hp : Its w.heap.size w a xs) (hA : Asc xs) (hac : AcyS xs) (hn : (xs.length : Int) ≤ 500) (hd : ∀ x ∈ xs, (x.data.length : Int) ≤ 1000000) (ho : Digs w.heap.size w oa old) (hol : (old.length : Int) ≤ 1000) (hoo : ∀ d ∈ old, OkD d) (hh : Digs w.heap.size w ha new) (hhl : (new.length : Int) ≤ 1000) (hok : ∀ d ∈ new, OkD d) :
    Calls Tryz.prog 26 #[.slice a xs.length c, .slice oa old.length oc, .slice ha new.length hc] w (GotR w (betS xs old new)) := by
  have HAN := Lib.hid (rancestors_any a xs c ha new hc w hp hA hac hn hd hh hhl hok)
  have HAL := Lib.hid (fun W (hW : Below w.heap.size w W) => rall_any a xs c oa old oc W (hp.ahead hW) hA hn hd (ho.ahead hW) hol)
  obtain ⟨R, hR⟩ : ∃ R, R = betS xs old new := ⟨_, rfl⟩
  rw [← hR]
  have hR2 : R = if (ancS xs new).2 ≠ 0 then ([], (ancS xs new).2) else if (visS xs old []).2 ≠ 0 then ([], (visS xs old []).2) else ((ancS xs new).1.filter fun d => !decide (d ∈ (visS xs old []).1), 0) := by
    rw [hR]
    unfold betS
    by_cases h : (visS xs new []).2 = 0
    · have h' : ¬ ((visS xs new []).2 ≠ 0) := by simpa using h
      have h0 : ¬ ((0 : Int) ≠ 0) := by simp
      have : (ancS xs new).1 = sortH (depS xs) (visS xs new []).1 := by unfold ancS; rw [if_neg h']
      rw [if_neg h', ancS_ok h, if_neg h0, this, sortH_filter (vis_facts h hok).nd]
    · rw [ancS_err h, if_pos h, if_pos (show (visS xs new []).2 ≠ 0 from h)]
  have hla : (ancS xs new).2 = 0 → ((ancS xs new).1.length : Int) ≤ 500 := fun h => by
    by_cases h2 : (visS xs new []).2 = 0
    · have h3 := (vis_facts h2 hok).le
      have : (ancS xs new).1 = sortH (depS xs) (visS xs new []).1 := by unfold ancS; rw [if_neg (by simpa using h2)]
      rw [this, (sortH_perm _ _).length_eq]; omega
    · rw [ancS_err h2] at h; exact absurd h h2
  have hlo : (visS xs old []).2 = 0 → ((visS xs old []).1.length : Int) ≤ 500 := fun h => by
    have h3 := (vis_facts h hoo).le; omega
  generalize ancS xs new = RA at HAN hR2 hla
  generalize visS xs old [] = RO at HAL hR2 hlo
  obtain ⟨l, ea⟩ := RA
  obtain ⟨m, eo⟩ := RO
  simp only at HAN HAL hR2 hla hlo
  have HR := Lib.hid hR2
  obtain ⟨n, hnn⟩ : ∃ n, n = l.length := ⟨_, rfl⟩
  have HN := Lib.hid hnn
  clear hp hA hac hn hd ho hol hoo hh hhl hok hR hR2
  generalize xs.length = nx at HAN HAL ⊢
  generalize old.length = no at HAL ⊢
  generalize new.length = nw at HAN ⊢
  go_enter Tryz.func26, Tryz.ntmps26
  go_wp2_with fail
  (with_reducible refine (HAN.out).mono ?_)
  rintro e u ⟨la, lc, rfl, hdg, hlc, hb⟩
  simp only at hdg hlc ⊢
  rw [← hnn] at hlc hla ⊢
  have HB1 := Lib.hid hb
  have HD1 := Lib.hid hdg
  have HC1 := Lib.hid (HAL.out u hb)
  clear hb hdg HAN HAL hnn
  by_cases hea : ea = 0
  · subst hea
    have hnl := hla rfl
    go_wp2_with fail
    (with_reducible refine (HC1.out).mono ?_)
    rintro e u2 ⟨ma, mc, rfl, hdg, hmc, hb⟩
    simp only at hdg hmc ⊢
    have HB2 := Lib.hid (HB1.out.trans (hb.mono HB1.out.size))
    have HD2 := Lib.hid (HD1.out.ahead hb)
    have HM2 := Lib.hid hdg
    clear hb hdg HC1 HB1 HD1
    by_cases heo : eo = 0
    · subst heo
      have hml := hlo rfl
      have HX : Hid (R = (l.filter fun d => !decide (d ∈ m), 0)) := Lib.hid (by rw [HR.out]; simp)
      have HIN := Lib.hid (fun p q W (hW : Below u2.heap.size u2 W) => rin_any ma m mc p q W (HM2.out.ahead hW) (by omega))
      have HO2 : Hid ((u2.alloc (.cells #[] 32)).ownsRow u2.heap.size 32 2 (.slice (some ⟨u2.heap.size, 0, none⟩) 0 0) ([] : List (Int × Int)).length (dcells [])) := Lib.hid (World.ownsRow_made (size := 2) u2 #[] 0 (Nat.le_refl _) (by decide) rfl)
      have HE2 : Hid (Below u2.heap.size u2 (u2.alloc (.cells #[] 32))) := Lib.hid ((Below.refl _ u2).alloc (Nat.le_refl _) _)
      have HP2 : Hid (l.filter (fun d => !decide (d ∈ m)) = [] ++ (l.drop 0).filter fun d => !decide (d ∈ m)) := Lib.hid rfl
      clear hla hlo HR
      generalize m.length = nm at HIN hml ⊢
      go_wp2_with fail
      go_loopw [11, 12] (fun v i wr => ∃ (k : Nat) (out : List (Int × Int)), k ≤ n ∧ i = .int .i64 k ∧ out.length ≤ k ∧ Hid (wr.ownsRow u2.heap.size 32 2 v out.length (dcells out)) ∧ Hid (l.filter (fun d => !decide (d ∈ m)) = out ++ (l.drop k).filter fun d => !decide (d ∈ m)) ∧ Hid (Below u2.heap.size u2 wr)) (fun _ i _ => n - (intOf i).toNat)
      case atStart => exact ⟨0, [], by omega, rfl, by simp, HO2, HP2, HE2⟩
      case round =>
        clear HO2 HP2 HE2
        obtain ⟨k, out, hk, rfl, hol, HO, HP, HE⟩ := hrel
        obtain ⟨oa', oc', rfl, hoc⟩ := ownsRow_sliceN HO.out
        obtain ⟨q, hq⟩ : ∃ q, q = out.length := ⟨_, rfl⟩
        rw [← hq] at HO hoc hol ⊢
        have HQ := Lib.hid hq
        clear hq
        by_cases hkn : k < n
        · have hki : (k : Int) < (n : Int) := by omega
          have h1 : k < l.length := by have := HN.out; omega
          obtain ⟨b0, of0, haa, hb0, q0, q1⟩ := (HD2.out.ahead HE.out) k h1
          have HDx := HD2
          subst haa
          have HDP : Hid ((l.drop k).filter (fun d => !decide (d ∈ m)) = (if (!decide (l[k] ∈ m)) then [l[k]] else []) ++ (l.drop (k + 1)).filter fun d => !decide (d ∈ m)) := Lib.hid (drop_filter_one (P := fun d => !decide (d ∈ m)) h1)
          have HCE := Lib.hid (fun W (hW : Below u2.heap.size u2 W) => HDx.out.ahead hW k h1)
          generalize l[k] = p at q0 q1 HDP HCE
          obtain ⟨p1, p2⟩ := p
          simp only at q0 q1 HCE
          have HC := Lib.hid (HIN.out p1 p2 wr HE.out)
          cases hin : decide ((p1, p2) ∈ m) with
          | true =>
            rw [hin] at HC HDP
            have HP3 : Hid (l.filter (fun d => !decide (d ∈ m)) = out ++ (l.drop (k + 1)).filter fun d => !decide (d ∈ m)) := Lib.hid (by rw [HP.out, HDP.out]; simp)
            clear hin HP HDP HCE
            go_wp2_with fail
            (with_reducible refine (HC.out).mono ?_)
            rintro e u3 ⟨rfl, hb⟩
            have HE3 := Lib.hid (HE.out.trans (hb.mono HE.out.size))
            have HO3 : Hid (u3.ownsRow u2.heap.size 32 2 (.slice oa' q oc') out.length (dcells out)) := Lib.hid (by rw [← HQ.out]; exact own_below HO.out hb)
            clear hb HE HO q0 q1 HC
            have hol3 : out.length ≤ k + 1 := by rw [← HQ.out]; omega
            go_wp2_with fail
            go_roundw
            case rel => exact ⟨k + 1, out, by omega, by go_num, hol3, HO3, HP3, HE3⟩
            case measure => simp [intOf] <;> omega
          | false =>
            rw [hin] at HC HDP
            have HP3 : Hid (l.filter (fun d => !decide (d ∈ m)) = (out ++ [(p1, p2)]) ++ (l.drop (k + 1)).filter fun d => !decide (d ∈ m)) := Lib.hid (by rw [HP.out, HDP.out]; simp)
            clear hin HP HDP
            go_wp2_with fail
            (with_reducible refine (HC.out).mono ?_)
            rintro e u3 ⟨rfl, hb⟩
            have HE3 := Lib.hid (HE.out.trans (hb.mono HE.out.size))
            have HO3 := Lib.hid (own_below HO.out hb)
            obtain ⟨_, _, haa, _, r0, r1⟩ := HCE.out u3 HE3.out
            cases haa
            obtain ⟨v', W', hrun, hown', hg', _⟩ := append_one (xs := out) (by rw [← HQ.out]; exact HO3.out) p1 p2 (by rw [← HQ.out]; omega) HE3.out.size
            have HE4 : Hid (Below u2.heap.size u2 W') := Lib.hid ((HE3.out.alloc HE3.out.size _).grown hg' (by have := HE3.out.size; simp; omega) (fun j hj => (HO3.out.lt j hj).1))
            have HO4 := Lib.hid hown'
            have HRUN := Lib.hid hrun
            have hol3 : (out ++ [(p1, p2)]).length ≤ k + 1 := by rw [List.length_append, ← HQ.out]; simp; omega
            clear hrun hown' hg' hb HE HO q0 q1 HC HO3 HE3 HCE
            go_wp2_with (at_builtin; refine Lib.wpList_append_run _ rfl _ _ _ _ rfl _ _ rfl rfl _ _ HRUN.out ?_)
            go_roundw
            case rel => exact ⟨k + 1, out ++ [(p1, p2)], by omega, by go_num, hol3, HO4, HP3, HE4⟩
            case measure => simp [intOf] <;> omega
        · have hki : ¬ (k : Int) < (n : Int) := by omega
          have HXX : Hid (R = (out, 0)) := Lib.hid (by rw [HX.out, HP.out, List.drop_of_length_le (by have := HN.out; omega)]; simp)
          have HB := Lib.hid (HB2.out.trans (HE.out.mono HB2.out.size))
          have HDO := Lib.hid (own_digs HQ.out HO.out)
          clear HP HO
          go_wp2_with fail
          go_ret2
          rw [HXX.out]
          exact ⟨oa', oc', by first | (rw [← HQ.out]; done) | (rw [← HQ.out]; rfl), HDO.out, by rw [← HQ.out]; exact hoc, HB.out⟩
    · have hee : (eo != 0) = true := by simpa using heo
      have HX : Hid (R = ([], eo)) := Lib.hid (by rw [HR.out, if_pos heo]; simp)
      clear HR hla hlo heo
      generalize m.length = nm
      go_wp2_with fail
      go_ret2
      rw [HX.out]
      exact ⟨none, 0, rfl, Digs.nil _ _ _, Nat.le_refl _, HB2.out⟩
  · have hee : (ea != 0) = true := by simpa using hea
    have HX : Hid (R = ([], ea)) := Lib.hid (by rw [HR.out, if_pos hea])
    clear HR hla hlo hea
    go_wp2_with fail
    go_ret2
    rw [HX.out]
    exact ⟨none, 0, rfl, Digs.nil _ _ _, Nat.le_refl _, HB1.out⟩

end Go.Proofs.YtgdhkcocdmdoaaaGreat

/- The reference's Bases and First. -/
namespace Go.Proofs.YtgdhkcocdmdoaaaGreat
open Go.RowKit Go.Shelf
set_option linter.unusedVariables false

theorem bases_memA {xs : List Itm} (hac : AcyS xs) {a b : Int × Int} (ha : (visS xs [a] []).2 = 0) (hb : (visS xs [b] []).2 = 0) {d : Int × Int} : d ∈ basesL xs (visS xs [a] []).1 (visS xs [b] []).1 ↔ (Anc xs a d ∧ Anc xs b d) ∧ ¬ ∃ c, (Anc xs a c ∧ Anc xs b c) ∧ c ≠ d ∧ Anc xs c d := by
  have hw := worse_iff hac (C := fun c => Anc xs a c ∧ Anc xs b c) (fun c d h1 h2 => ⟨h1.1.trans h2, h1.2.trans h2⟩) (fun c h => vis_ok ha ((vis_anc1 ha).2 h.1)) d
  unfold basesL
  rw [(sortS_perm _).mem_iff, List.mem_filter, ← hw, vis_anc1 ha]
  unfold worseS
  simp only [vis_anc1 ha, vis_anc1 hb, Bool.and_eq_true, decide_eq_true_eq, Bool.not_eq_true', decide_eq_false_iff_not]
  constructor
  · rintro ⟨h1, h2, h3⟩
    exact ⟨⟨h1, h2⟩, fun ⟨c, h4, h5⟩ => h3 ⟨c, h4.1, h4.2, h5⟩⟩
  · rintro ⟨⟨h1, h2⟩, h3⟩
    exact ⟨h1, h2, fun ⟨c, h4, h5, h6⟩ => h3 ⟨c, ⟨h4, h5⟩, h6⟩⟩
/-- No other one of a list reaches a commit. -/
noncomputable def bestS (xs : List Itm) (l : List (Int × Int)) (d : Int × Int) : Bool := l.all fun c => decide (c = d) || !(reachesS xs c d).1
/-- The reference's way to the bases. -/
theorem bases_ref {xs : List Itm} (hac : AcyS xs) {a b : Int × Int} (oka : OkD a) (ha : (visS xs [a] []).2 = 0) (hb : (visS xs [b] []).2 = 0) {l : List (Int × Int)} (hl : l = (visS xs [a] []).1.filter fun d => decide (d ∈ (visS xs [b] []).1)) : (l.filter (bestS xs l)).foldl withS [] = basesL xs (visS xs [a] []).1 (visS xs [b] []).1 := by
  obtain ⟨h1, h2⟩ := foldl_with (l.filter (bestS xs l)) [] List.Pairwise.nil
  have fa := vis_facts ha (fun d hd => by rw [List.mem_singleton.1 hd]; exact oka)
  have hml : ∀ {d}, d ∈ l ↔ Anc xs a d ∧ Anc xs b d := fun {d} => by
    rw [hl, List.mem_filter, vis_anc1 ha, decide_eq_true_eq, vis_anc1 hb]
  have hv : ∀ {c}, c ∈ l → (visS xs [c] []).2 = 0 := fun {c} hc => vis_sub ha (fun g hg => by rw [List.mem_singleton.1 hg]; exact (vis_anc1 ha).2 (hml.1 hc).1)
  refine ascD_ext h1 (by unfold basesL; exact sortS_asc (fa.nd.filter _)) (fun d => ?_)
  rw [h2 d, bases_memA hac ha hb, List.mem_filter]
  unfold bestS
  rw [List.all_eq_true]
  constructor
  · rintro (h | ⟨h3, h4⟩)
    · simp at h
    · refine ⟨hml.1 h3, ?_⟩
      rintro ⟨c, h5, h6, h7⟩
      have h8 := h4 c (hml.2 h5)
      rw [reachesS_ok (hv (hml.2 h5))] at h8
      simp only [Bool.or_eq_true, decide_eq_true_eq, Bool.not_eq_true', decide_eq_false_iff_not] at h8
      rcases h8 with h8 | h8
      · exact h6 h8
      · exact h8 ((vis_anc1 (hv (hml.2 h5))).2 h7)
  · rintro ⟨h3, h4⟩
    refine .inr ⟨hml.2 h3, fun c hc => ?_⟩
    rw [reachesS_ok (hv hc)]
    simp only [Bool.or_eq_true, decide_eq_true_eq, Bool.not_eq_true', decide_eq_false_iff_not]
    by_cases e : c = d
    · exact .inl e
    · exact .inr (fun h => h4 ⟨c, hml.1 hc, e, (vis_anc1 (hv hc)).1 h⟩)
theorem all_take_one {l : List (Int × Int)} {P : Int × Int → Bool} {k : Nat} (h : k < l.length) : (l.take (k + 1)).all P = ((l.take k).all P && P l[k]) := by
  rw [List.take_succ_eq_append_getElem h, List.all_append]; simp

set_option maxRecDepth 100000 in
set_option maxHeartbeats 8000000 in
theorem rbases_any (a : Option Addr) (xs : List Itm) (c : Nat) (x y x' y' : Int) (w : World) (hp : Its w.heap.size w a xs) (hA : Asc xs) (hac : AcyS xs) (hn : (xs.length : Int) ≤ 500) (hd : ∀ x ∈ xs, (x.data.length : Int) ≤ 1000000) (okx : OkD (x, y)) (oky : OkD (x', y')) :
    Calls Tryz.prog 25 #[.slice a xs.length c, .agg #[.int .u64 x, .int .u64 y], .agg #[.int .u64 x', .int .u64 y']] w (GotR w (basesS xs (x, y) (x', y'))) := by
  have HAL := Lib.hid (fun W q p1 p2 (hW : Below w.heap.size w W) (hk : BK q #[.int .u64 p1, .int .u64 p2] 32 W) => rall_any a xs c (some ⟨q, 0, none⟩) [(p1, p2)] 1 W (hp.ahead hW) hA hn hd (digs_one hk) (by simp))
  simp only [List.length_cons, List.length_nil, Nat.zero_add] at HAL
  have HRE := Lib.hid (fun p1 p2 q1 q2 W (hW : Below w.heap.size w W) (h : OkD (p1, p2)) => rreaches_any a xs c p1 p2 q1 q2 W (hp.ahead hW) hA hn hd h)
  obtain ⟨R, hR⟩ : ∃ R, R = basesS xs (x, y) (x', y') := ⟨_, rfl⟩
  rw [← hR]
  unfold basesS at hR
  have HF : Hid ((visS xs [(x, y)] []).2 = 0 → ((visS xs [(x, y)] []).1.length : Int) ≤ 500 ∧ (∀ d ∈ (visS xs [(x, y)] []).1, OkD d ∧ (visS xs [d] []).2 = 0) ∧ (visS xs [(x, y)] []).1.Nodup) := Lib.hid (fun h => by
    have hf := vis_facts h (fun d hd => by rw [List.mem_singleton.1 hd]; exact okx)
    exact ⟨by have := hf.le; omega, fun d hd => ⟨hf.ok d hd, vis_sub h (fun g hg => by rw [List.mem_singleton.1 hg]; exact hd)⟩, hf.nd⟩)
  have HF2 : Hid ((visS xs [(x', y')] []).2 = 0 → ((visS xs [(x', y')] []).1.length : Int) ≤ 500) := Lib.hid (fun h => by
    have hf := vis_facts h (fun d hd => by rw [List.mem_singleton.1 hd]; exact oky)
    have := hf.le; omega)
  have HBR : Hid ((visS xs [(x, y)] []).2 = 0 → (visS xs [(x', y')] []).2 = 0 → ∀ l, l = (visS xs [(x, y)] []).1.filter (fun d => decide (d ∈ (visS xs [(x', y')] []).1)) → (l.filter (bestS xs l)).foldl withS [] = basesL xs (visS xs [(x, y)] []).1 (visS xs [(x', y')] []).1) := Lib.hid (fun h1 h2 l hl => bases_ref hac okx h1 h2 hl)
  have HC0 := Lib.hid (fun W q hW hk => HAL.out W q x y hW hk)
  have HC0b := Lib.hid (fun W q hW hk => HAL.out W q x' y' hW hk)
  generalize visS xs [(x, y)] [] = VA at HC0 hR HF HBR
  generalize visS xs [(x', y')] [] = VB at HC0b hR HF2 HBR
  obtain ⟨L, ea⟩ := VA
  obtain ⟨M, eb⟩ := VB
  simp only at HC0 HC0b hR HF HF2 HBR
  have HR := Lib.hid hR
  obtain ⟨w0, hw0⟩ : ∃ w0, w0 = (w.alloc (.cells #[.int .u64 x, .int .u64 y] 32)).alloc (.cells #[.int .u64 x', .int .u64 y'] 32) := ⟨_, rfl⟩
  have hb0 : Below w.heap.size w w0 := by rw [hw0]; exact ((Below.refl _ w).alloc (Nat.le_refl _) _).alloc (by simp) _
  have HK0 : Hid (BK (w.heap.size + 1) #[.int .u64 x', .int .u64 y'] 32 w0) := Lib.hid (by rw [hw0]; exact BK.new2 _ _ _ _)
  obtain ⟨w1, hw1⟩ : ∃ w1, w1 = w0.alloc (.cells #[.int .u64 x, .int .u64 y] 32) := ⟨_, rfl⟩
  have hz0 : w0.heap.size = w.heap.size + 1 + 1 := by rw [hw0]; simp
  have hb1 : Below w.heap.size w w1 := by rw [hw1]; exact hb0.alloc hb0.size _
  have HK1 : Hid (BK (w.heap.size + 1) #[.int .u64 x', .int .u64 y'] 32 w1) := Lib.hid (by rw [hw1]; exact HK0.out.alloc _)
  have HC1 := Lib.hid (HC0.out w1 w0.heap.size hb1 (by rw [hw1]; exact BK.new _ _ _))
  rw [hz0, hw1, hw0] at HC1
  have HB1 := Lib.hid hb1
  have HW1 : Hid (w1 = ((w.alloc (.cells #[.int .u64 x, .int .u64 y] 32)).alloc (.cells #[.int .u64 x', .int .u64 y'] 32)).alloc (.cells #[.int .u64 x, .int .u64 y] 32)) := Lib.hid (by rw [hw1, hw0])
  clear hw1 hw0 hz0 hb1 hb0 HK0 HAL hR hp hA hd hn HC0 hac okx oky
  generalize xs.length = nx at HC1 HC0b HRE ⊢
  go_enter Tryz.func25, Tryz.ntmps25
  go_wp2_with fail
  (with_reducible refine (HC1.out).mono ?_)
  rintro e u ⟨la, lc, rfl, hdg, hlc, hb⟩
  simp only at hdg ⊢
  rw [← HW1.out] at hb
  have HB2 := Lib.hid (HB1.out.trans (hb.mono HB1.out.size))
  have HK2 := Lib.hid (HK1.out.below hb)
  have HD2 := Lib.hid hdg
  clear hb hdg HC1 HW1 HB1 HK1
  by_cases he : ea = 0
  · subst he
    obtain ⟨hl5, hlok, hlnd⟩ := HF.out rfl
    have HLO := Lib.hid hlok
    obtain ⟨n, hnn⟩ : ∃ n, n = L.length := ⟨_, rfl⟩
    have HN := Lib.hid hnn
    rw [← hnn] at hl5 ⊢
    have f0 : u.cell? ⟨w.heap.size + 1, 0, none⟩ = some (.int .u64 x') := by rw [HK2.out.cell]; rfl
    have f1 : u.cell? ⟨w.heap.size + 1, 1, none⟩ = some (.int .u64 y') := by rw [HK2.out.cell]; rfl
    obtain ⟨v, hv⟩ : ∃ v, v = u.alloc (.cells #[.int .u64 x', .int .u64 y'] 32) := ⟨_, rfl⟩
    have hbv : Below u.heap.size u v := by rw [hv]; exact (Below.refl _ _).alloc (Nat.le_refl _) _
    have HBv := Lib.hid (HB2.out.trans (hbv.mono HB2.out.size))
    have HDv := Lib.hid (HD2.out.ahead hbv)
    have HC2 := Lib.hid (HC0b.out v u.heap.size HBv.out (by rw [hv]; exact BK.new _ _ _))
    rw [hv] at HC2
    have HV := Lib.hid hv
    clear hv hbv HB2 HD2 HK2 HC0b HF hlok hnn
    go_wp2_with fail
    (with_reducible refine (HC2.out).mono ?_)
    rintro e u2 ⟨ma, mc, rfl, hdg, hmc, hb⟩
    simp only at hdg ⊢
    rw [← HV.out] at hb
    have HB3 := Lib.hid (HBv.out.trans (hb.mono HBv.out.size))
    have HD3 := Lib.hid (HDv.out.ahead hb)
    have HM3 := Lib.hid hdg
    clear hb hdg HC2 HBv HDv HV f0 f1
    by_cases he : eb = 0
    · subst he
      have hml := HF2.out rfl
      have HX : Hid (R = (basesL xs L M, 0)) := Lib.hid (by rw [HR.out]; simp)
      have HBR2 := Lib.hid (HBR.out (by simp) (by simp))
      have HIN := Lib.hid (fun p q W (hW : Below u2.heap.size u2 W) => rin_any ma M mc p q W (HM3.out.ahead hW) (by omega))
      have HO2 : Hid ((u2.alloc (.cells #[] 32)).ownsRow u2.heap.size 32 2 (.slice (some ⟨u2.heap.size, 0, none⟩) 0 0) ([] : List (Int × Int)).length (dcells [])) := Lib.hid (World.ownsRow_made (size := 2) u2 #[] 0 (Nat.le_refl _) (by decide) rfl)
      have HE2 : Hid (Below u2.heap.size u2 (u2.alloc (.cells #[] 32))) := Lib.hid ((Below.refl _ u2).alloc (Nat.le_refl _) _)
      have HP2 : Hid (L.filter (fun d => decide (d ∈ M)) = [] ++ (L.drop 0).filter fun d => decide (d ∈ M)) := Lib.hid rfl
      clear HF2 HR HBR
      generalize M.length = nm at HIN hml ⊢
      go_wp2_with fail
      go_loopw [11, 12] (fun v i wr => ∃ (k : Nat) (out : List (Int × Int)), k ≤ n ∧ i = .int .i64 k ∧ out.length ≤ k ∧ Hid (wr.ownsRow u2.heap.size 32 2 v out.length (dcells out)) ∧ Hid (L.filter (fun d => decide (d ∈ M)) = out ++ (L.drop k).filter fun d => decide (d ∈ M)) ∧ Hid (Below u2.heap.size u2 wr)) (fun _ i _ => n - (intOf i).toNat)
      case atStart => exact ⟨0, [], by omega, rfl, by simp, HO2, HP2, HE2⟩
      case round =>
        clear HO2 HP2 HE2
        obtain ⟨k, out, hk, rfl, hol, HO, HP, HE⟩ := hrel
        obtain ⟨oa', oc', rfl, hoc⟩ := ownsRow_sliceN HO.out
        obtain ⟨q, hq⟩ : ∃ q, q = out.length := ⟨_, rfl⟩
        rw [← hq] at HO hoc hol ⊢
        have HQ := Lib.hid hq
        clear hq
        by_cases hkn : k < n
        · have hki : (k : Int) < (n : Int) := by omega
          have h1 : k < L.length := by have := HN.out; omega
          obtain ⟨b0, of0, haa, hb0, q0, q1⟩ := (HD3.out.ahead HE.out) k h1
          have HDx := HD3
          subst haa
          have HDP : Hid ((L.drop k).filter (fun d => decide (d ∈ M)) = (if decide (L[k] ∈ M) then [L[k]] else []) ++ (L.drop (k + 1)).filter fun d => decide (d ∈ M)) := Lib.hid (drop_filter_one (P := fun d => decide (d ∈ M)) h1)
          have HCE := Lib.hid (fun W (hW : Below u2.heap.size u2 W) => HDx.out.ahead hW k h1)
          generalize L[k] = p at q0 q1 HDP HCE
          obtain ⟨p1, p2⟩ := p
          simp only at q0 q1 HCE
          have HC := Lib.hid (HIN.out p1 p2 wr HE.out)
          cases hin : decide ((p1, p2) ∈ M) with
          | false =>
            rw [hin] at HC HDP
            have HP3 : Hid (L.filter (fun d => decide (d ∈ M)) = out ++ (L.drop (k + 1)).filter fun d => decide (d ∈ M)) := Lib.hid (by rw [HP.out, HDP.out]; simp)
            clear hin HP HDP HCE
            go_wp2_with fail
            (with_reducible refine (HC.out).mono ?_)
            rintro e u3 ⟨rfl, hb⟩
            have HE3 := Lib.hid (HE.out.trans (hb.mono HE.out.size))
            have HO3 : Hid (u3.ownsRow u2.heap.size 32 2 (.slice oa' q oc') out.length (dcells out)) := Lib.hid (by rw [← HQ.out]; exact own_below HO.out hb)
            clear hb HE HO q0 q1 HC
            have hol3 : out.length ≤ k + 1 := by rw [← HQ.out]; omega
            go_wp2_with fail
            go_roundw
            case rel => exact ⟨k + 1, out, by omega, by go_num, hol3, HO3, HP3, HE3⟩
            case measure => simp [intOf] <;> omega
          | true =>
            rw [hin] at HC HDP
            have HP3 : Hid (L.filter (fun d => decide (d ∈ M)) = (out ++ [(p1, p2)]) ++ (L.drop (k + 1)).filter fun d => decide (d ∈ M)) := Lib.hid (by rw [HP.out, HDP.out]; simp)
            clear hin HP HDP
            go_wp2_with fail
            (with_reducible refine (HC.out).mono ?_)
            rintro e u3 ⟨rfl, hb⟩
            have HE3 := Lib.hid (HE.out.trans (hb.mono HE.out.size))
            have HO3 := Lib.hid (own_below HO.out hb)
            obtain ⟨_, _, haa, _, r0, r1⟩ := HCE.out u3 HE3.out
            cases haa
            obtain ⟨v', W', hrun, hown', hg', _⟩ := append_one (xs := out) (by rw [← HQ.out]; exact HO3.out) p1 p2 (by rw [← HQ.out]; omega) HE3.out.size
            have HE4 : Hid (Below u2.heap.size u2 W') := Lib.hid ((HE3.out.alloc HE3.out.size _).grown hg' (by have := HE3.out.size; simp; omega) (fun j hj => (HO3.out.lt j hj).1))
            have HO4 := Lib.hid hown'
            have HRUN := Lib.hid hrun
            have hol3 : (out ++ [(p1, p2)]).length ≤ k + 1 := by rw [List.length_append, ← HQ.out]; simp; omega
            clear hrun hown' hg' hb HE HO q0 q1 HC HO3 HE3 HCE
            go_wp2_with (at_builtin; refine Lib.wpList_append_run _ rfl _ _ _ _ rfl _ _ rfl rfl _ _ HRUN.out ?_)
            go_roundw
            case rel => exact ⟨k + 1, out ++ [(p1, p2)], by omega, by go_num, hol3, HO4, HP3, HE4⟩
            case measure => simp [intOf] <;> omega
        · have hki : ¬ (k : Int) < (n : Int) := by omega
          have hcm : L.filter (fun d => decide (d ∈ M)) = out := by rw [HP.out, List.drop_of_length_le (by have := HN.out; omega)]; simp
          have HBQ : Hid ((out.filter (bestS xs out)).foldl withS [] = basesL xs L M) := Lib.hid (HBR2.out out hcm.symm)
          have HOK : Hid (∀ d ∈ out, OkD d ∧ (visS xs [d] []).2 = 0) := Lib.hid (fun d hd => HLO.out d (List.mem_filter.1 (by rw [hcm]; exact hd)).1)
          have HND : Hid out.Nodup := Lib.hid (by rw [← hcm]; exact hlnd.filter _)
          have HB4 := Lib.hid (HB3.out.trans (HE.out.mono HB3.out.size))
          have HC4 := Lib.hid (own_digs HQ.out HO.out)
          have hq5 : (q : Int) ≤ 500 := by omega
          obtain ⟨x0, hx0⟩ : ∃ x0, x0 = wr := ⟨_, rfl⟩
          rw [← hx0] at HB4 HC4 ⊢
          clear HP HO HE hcm HBR2 HLO HM3 HD3 HIN HB3 hx0 hlnd
          go_wp2_with fail
          have HS4 : Hid (Digs (x0.alloc (.cells #[] 32)).heap.size (x0.alloc (.cells #[] 32)) (some ⟨x0.heap.size, 0, none⟩) []) := Lib.hid (Digs.nil _ _ _)
          have HE4 : Hid (Below x0.heap.size x0 (x0.alloc (.cells #[] 32))) := Lib.hid ((Below.refl _ x0).alloc (Nat.le_refl _) _)
          have HF4 : Hid (basesL xs L M = ((out.drop 0).filter (bestS xs out)).foldl withS []) := Lib.hid HBQ.out.symm
          clear HBQ
          go_loopw [13, 14] (fun v i wr => ∃ (j q2 : Nat) (same : List (Int × Int)) (sa : Option Addr) (sc : Nat), j ≤ q ∧ v = .slice sa q2 sc ∧ i = .int .i64 j ∧ Hid (q2 = same.length) ∧ q2 ≤ sc ∧ q2 ≤ j ∧ Hid (Digs wr.heap.size wr sa same) ∧ Hid (basesL xs L M = ((out.drop j).filter (bestS xs out)).foldl withS same) ∧ Hid (Below x0.heap.size x0 wr)) (fun _ i _ => q - (intOf i).toNat)
          case atStart => exact ⟨0, 0, [], _, 0, by omega, rfl, rfl, Lib.hid rfl, by omega, by omega, HS4, HF4, HE4⟩
          case round =>
            clear HS4 HF4 HE4
            obtain ⟨j, q2, same, sa, sc, hj, rfl, rfl, HQ2, hqc, hqj, HS, HF, HE⟩ := hrel
            by_cases hjq : j < q
            · have hji : (j : Int) < (q : Int) := by omega
              have h1 : j < out.length := by have := HQ.out; omega
              obtain ⟨b0, of0, haa, hb0, q0, q1⟩ := (HC4.out.ahead HE.out) j h1
              have HC4x := HC4
              subst haa
              have hFF := HF.out
              rw [drop_filter_hit h1] at hFF
              have HF2 := Lib.hid hFF
              have HDC := Lib.hid (fun W (hW : Below x0.heap.size x0 W) => HC4x.out.ahead hW j h1)
              have hbs : bestS xs out out[j] = out.all fun c => decide (c = out[j]) || !(reachesS xs c out[j]).1 := rfl
              have HND2 : Hid (∀ k (h : k < out.length), out[k] = out[j] ↔ j = k) := Lib.hid (fun k h => by
                rw [List.getElem_inj HND.out]; exact eq_comm)
              have HOD := Lib.hid (HOK.out _ (List.getElem_mem h1)).1
              generalize hdj : out[j] = d at q0 q1 HF2 HDC HND2 HOD hbs
              rw [hbs] at HF2
              obtain ⟨d1, d2⟩ := d
              simp only at q0 q1 HDC
              have HST : Hid (true = (out.take 0).all (fun c => decide (c = (d1, d2)) || !(reachesS xs c (d1, d2)).1)) := Lib.hid rfl
              clear hFF hdj hbs HF
              go_wp2_with fail
              go_loopw [15, 16] (fun v i wr => ∃ (k' : Nat) (f : Bool), k' ≤ q ∧ v = .bool f ∧ i = .int .i64 k' ∧ Hid (f = (out.take k').all (fun c => decide (c = (d1, d2)) || !(reachesS xs c (d1, d2)).1)) ∧ Hid (Digs wr.heap.size wr sa same) ∧ Hid (Below x0.heap.size x0 wr)) (fun _ i _ => q - (intOf i).toNat)
              case atStart => exact ⟨0, true, by omega, rfl, rfl, HST, HS, HE⟩
              case round =>
                clear HST HS HE q0 q1
                obtain ⟨k', f, hk', rfl, rfl, HFA, HS, HE⟩ := hrel
                obtain ⟨_, _, haa, _, q0, q1⟩ := HDC.out wr HE.out
                cases haa
                by_cases hkq : k' < q
                · have hki : (k' : Int) < (q : Int) := by omega
                  have h2 : k' < out.length := by have := HQ.out; omega
                  obtain ⟨b2, of2, haa, hb2, r0, r1⟩ := (HC4x.out.ahead HE.out) k' h2
                  cases haa
                  have hft := all_take_one (P := fun c => decide (c = (d1, d2)) || !(reachesS xs c (d1, d2)).1) h2
                  obtain ⟨hok2, hvs2⟩ := HOK.out _ (List.getElem_mem h2)
                  have hre := reachesS_ok (b := (d1, d2)) hvs2
                  have HNJ := Lib.hid (HND2.out k' h2)
                  rw [← HFA.out] at hft
                  generalize out[k'] = cc at r0 r1 hft hok2 hre HNJ
                  obtain ⟨c1, c2⟩ := cc
                  simp only at r0 r1
                  have HC := Lib.hid (fun W (hW : Below wr.heap.size wr W) => HRE.out c1 c2 d1 d2 W (HB4.out.trans ((HE.out.trans (hW.mono HE.out.size)).mono HB4.out.size)) hok2)
                  rw [hre] at HC hft
                  generalize decide ((d1, d2) ∈ (visS xs [(c1, c2)] []).1) = b at HC hft
                  have HFT := Lib.hid hft
                  simp only at HC HFT
                  have HCR := Lib.hid (fun d os => Calls.regrown_of (w := wr) (d := d) (os := os) (HC.out _ (below_regrown wr d os)))
                  have rq0 := cell_regrown q0
                  have rq1 := cell_regrown q1
                  have rr0 := cell_regrown r0
                  have rr1 := cell_regrown r1
                  clear hre hvs2 hok2 hft HFA HC
                  go_wp2_with fail
                  refine wp_region_quiet_below (by kernel_rfl) (by kernel_rfl) ?_
                  repeat (any_goals (first | go_big_quiet_step (first | (with_reducible exact HCR.out _ _)) | quiet_step (first | (with_reducible exact HCR.out _ _))))
                  refine wpQuiet_nil ?_
                  intro u3 hu3
                  have hb := below_rg hu3
                  have HE5 := Lib.hid (HE.out.trans (hb.mono HE.out.size))
                  have HS5 := Lib.hid (HS.out.ahead hb)
                  clear hb hu3 HCR rq0 rq1 rr0 rr1 q0 q1 r0 r1 HS HE
                  cases f with
                  | false =>
                    have HFA2 : Hid (false = (out.take (k' + 1)).all (fun c => decide (c = (d1, d2)) || !(reachesS xs c (d1, d2)).1)) := Lib.hid (by rw [HFT.out]; rfl)
                    clear HFT HNJ
                    go_wp2_with fail
                    go_roundw
                    case rel => exact ⟨k' + 1, false, by omega, rfl, by go_num, HFA2, HS5, HE5⟩
                    case measure => simp [intOf] <;> omega
                  | true =>
                    by_cases hjk : j = k'
                    · have hcd := HNJ.out.2 hjk
                      have HFA2 : Hid (true = (out.take (k' + 1)).all (fun c => decide (c = (d1, d2)) || !(reachesS xs c (d1, d2)).1)) := Lib.hid (by rw [HFT.out, hcd]; simp)
                      have heq : ((j : Int) == (k' : Int)) = true := by simp; omega
                      clear HFT HNJ hcd
                      go_wp2_with fail
                      go_roundw
                      case rel => exact ⟨k' + 1, true, by omega, rfl, by go_num, HFA2, HS5, HE5⟩
                      case measure => simp [intOf] <;> omega
                    · have hcd : ¬ (c1, c2) = (d1, d2) := fun e => hjk (HNJ.out.1 e)
                      have HFA2 : Hid ((!b) = (out.take (k' + 1)).all (fun c => decide (c = (d1, d2)) || !(reachesS xs c (d1, d2)).1)) := Lib.hid (by rw [HFT.out, decide_eq_false hcd]; simp)
                      have heq : ((j : Int) == (k' : Int)) = false := by simp; omega
                      clear HFT HNJ hcd
                      cases b
                      all_goals
                        go_wp2_with fail
                        go_roundw
                        case rel => exact ⟨k' + 1, _, by omega, rfl, by go_num, HFA2, HS5, HE5⟩
                        case measure => simp [intOf] <;> omega
                · have hki : ¬ (k' : Int) < (q : Int) := by omega
                  rw [List.take_of_length_le (by have := HQ.out; omega)] at HFA
                  have HF6 := HF2
                  rw [← HFA.out] at HF6
                  clear HFA HF2
                  obtain ⟨x1, hx1⟩ : ∃ x1, x1 = wr := ⟨_, rfl⟩
                  rw [← hx1] at HS HE q0 q1 ⊢
                  clear hx1
                  cases f with
                  | false =>
                    have HF7 : Hid (basesL xs L M = ((out.drop (j + 1)).filter (bestS xs out)).foldl withS same) := Lib.hid (by rw [HF6.out]; rfl)
                    clear HF6
                    go_wp2_with fail
                    go_roundw
                    case rel => exact ⟨j + 1, q2, same, sa, sc, by omega, rfl, by go_num, HQ2, hqc, by omega, HS, HF7, HE⟩
                    case measure => simp [intOf] <;> omega
                  | true =>
                    have HF7 : Hid (basesL xs L M = ((out.drop (j + 1)).filter (bestS xs out)).foldl withS (withS same (d1, d2))) := Lib.hid (by rw [HF6.out]; rfl)
                    have HLn := Lib.hid (withS_len1 same (d1, d2))
                    have HW1 := Lib.hid (rwith_any sa same sc d1 d2 x1 HS.out (by rw [← HQ2.out]; exact hqc) (by rw [← HQ2.out]; omega))
                    rw [← HQ2.out] at HW1
                    generalize withS same (d1, d2) = same2 at HF7 HLn HW1
                    clear HF6
                    go_wp2_with fail
                    (with_reducible refine (HW1.out).mono ?_)
                    rintro e u3 ⟨sa2, sc2, rfl, hdg, hsc, _, hb⟩
                    have HE7 := Lib.hid (HE.out.trans (hb.mono HE.out.size))
                    have HS7 := Lib.hid hdg
                    obtain ⟨q3, hq3⟩ : ∃ n, n = same2.length := ⟨_, rfl⟩
                    have hq4 : q3 ≤ j + 1 := by have := HLn.out; have := HQ2.out; omega
                    rw [← hq3] at hsc ⊢
                    have HQ3 := Lib.hid hq3
                    clear hb hdg hq3 HW1 HS HE q0 q1 HLn
                    go_wp2_with fail
                    go_roundw
                    case rel => exact ⟨j + 1, q3, same2, sa2, sc2, by omega, rfl, by go_num, HQ3, hsc, hq4, HS7, HF7, HE7⟩
                    case measure => simp [intOf] <;> omega
            · have hji : ¬ (j : Int) < (q : Int) := by omega
              have HXX : Hid (R = (same, 0)) := Lib.hid (by rw [HX.out, HF.out, List.drop_of_length_le (by have := HQ.out; omega)]; rfl)
              have HB5 := Lib.hid (HB4.out.trans (HE.out.mono HB4.out.size))
              clear HF
              go_wp2_with fail
              go_ret2
              rw [HXX.out]
              exact ⟨sa, sc, by first | (rw [← HQ2.out]; done) | (rw [← HQ2.out]; rfl), HS.out, by rw [← HQ2.out]; exact hqc, HB5.out⟩
    · have hee : (eb != 0) = true := by simpa using he
      have HX : Hid (R = ([], eb)) := Lib.hid (by rw [HR.out, if_pos he]; simp)
      clear HR HBR HF2 he
      generalize M.length = nm
      go_wp2_with fail
      go_ret2
      rw [HX.out]
      exact ⟨none, 0, rfl, Digs.nil _ _ _, Nat.le_refl _, HB3.out⟩
  · have hee : (ea != 0) = true := by simpa using he
    have HX : Hid (R = ([], ea)) := Lib.hid (by rw [HR.out, if_pos he])
    clear HR HBR HF2 HF he
    generalize L.length = nl
    go_wp2_with fail
    go_ret2
    rw [HX.out]
    exact ⟨none, 0, rfl, Digs.nil _ _ _, Nat.le_refl _, HB2.out⟩

end Go.Proofs.YtgdhkcocdmdoaaaGreat

/- The reference's First. -/
namespace Go.Proofs.YtgdhkcocdmdoaaaGreat
open Go.RowKit Go.Shelf
set_option linter.unusedVariables false

theorem firF_e {xs : List Itm} : ∀ (f : Nat) (d : Int × Int), (firF xs f d).2 ≠ 0 → (firF xs f d).1 = []
  | 0, _, h => by simp [firF]
  | f + 1, d, h => by
    unfold firF at h ⊢
    by_cases e : (commitS xs d).2 = 0
    · have e' : ¬ ((commitS xs d).2 ≠ 0) := by simpa using e
      rw [if_neg e'] at h ⊢
      cases hp : (commitS xs d).1.pars with
      | nil => rw [hp] at h; exact absurd rfl h
      | cons p ps =>
        rw [hp] at h
        simp only at h ⊢
        unfold catS at h ⊢
        by_cases e2 : (firF xs f p).2 = 0
        · rw [if_neg (by simpa using e2)] at h; exact absurd rfl h
        · rw [if_pos e2]
    · rw [if_pos e]

def firN (xs : List Itm) (f : Nat) (d : Int × Int) : List (Int × Int) → List (Int × Int) × Int
  | [] => ([d], 0)
  | p :: _ => catS [d] (firF xs f p)
theorem firF_succ (xs : List Itm) (f : Nat) (d : Int × Int) : firF xs (f + 1) d = if (commitS xs d).2 ≠ 0 then ([], (commitS xs d).2) else firN xs f d (commitS xs d).1.pars := by
  rw [firF]
  cases (commitS xs d).1.pars <;> rfl

set_option maxRecDepth 100000 in
set_option maxHeartbeats 4000000 in
theorem rfirst_any (a : Option Addr) (xs : List Itm) (c : Nat) (x y : Int) (w : World) (hp : Its w.heap.size w a xs) (hA : Asc xs) (hn : (xs.length : Int) ≤ 500) (hd : ∀ x ∈ xs, (x.data.length : Int) ≤ 1000000) :
    Calls Tryz.prog 31 #[.slice a xs.length c, .agg #[.int .u64 x, .int .u64 y]] w (GotR w (firS xs (x, y))) := by
  have HCO := Lib.hid (fun W d1 d2 (hW : Below w.heap.size w W) => rcmt_any a xs c d1 d2 W (hp.ahead hW) hA (by omega) hd)
  obtain ⟨R, hR⟩ : ∃ R, R = firS xs (x, y) := ⟨_, rfl⟩
  have HR0 : Hid (R = catS [] (firF xs (xs.length + 1 - 0) (x, y))) := Lib.hid (by rw [hR, cat_nil _ (firF_e _ _)]; rfl)
  rw [← hR]
  obtain ⟨n, hnn⟩ : ∃ n, n = xs.length := ⟨_, rfl⟩
  rw [← hnn] at HCO HR0 hn ⊢
  clear hR hnn hp hA hd
  obtain ⟨w1, hw1⟩ : ∃ w1, w1 = (w.alloc (.cells #[.int .u64 x, .int .u64 y] 32)).alloc (.cells #[] 32) := ⟨_, rfl⟩
  have hb1 : Below w.heap.size w w1 := by rw [hw1]; exact ((Below.refl _ w).alloc (Nat.le_refl _) _).alloc (by simp) _
  have HB1 := Lib.hid hb1
  have HK1 : Hid (BK w.heap.size #[.int .u64 x, .int .u64 y] 32 w1) := Lib.hid (by rw [hw1]; exact (BK.new _ _ _).alloc _)
  have HO1 : Hid (w1.ownsRow (w.heap.size + 1) 32 2 (.slice (some ⟨w.heap.size + 1, 0, none⟩) 0 0) ([] : List (Int × Int)).length (dcells [])) := Lib.hid (by
    rw [hw1]
    have := World.ownsRow_made (size := 2) (base := w.heap.size + 1) (e := 32) (w.alloc (.cells #[.int .u64 x, .int .u64 y] 32)) #[] 0 (by simp) (by decide) rfl
    rwa [World.size_alloc] at this)
  have hz1 : w.heap.size + 1 ≤ w1.heap.size := by rw [hw1]; simp
  have HW1 := Lib.hid hw1
  clear hb1 hw1
  go_enter Tryz.func31, Tryz.ntmps31
  go_wp2_with fail
  rw [← HW1.out]
  clear HW1
  go_loopw [6, 7] (fun v i wr => ∃ (acc : List (Int × Int)) (x y : Int) (av : Option Addr) (cv k : Nat), k ≤ n + 1 ∧ v = .slice av k cv ∧ i = .int .i64 k ∧ Hid (k = acc.length) ∧ Hid (wr.ownsRow (w.heap.size + 1) 32 2 (.slice av k cv) k (dcells acc)) ∧ Hid (Below w.heap.size w wr) ∧ Hid (BK w.heap.size #[.int .u64 x, .int .u64 y] 32 wr) ∧ Hid (R = catS acc (firF xs (n + 1 - k) (x, y))) ∧ w.heap.size + 1 ≤ wr.heap.size) (fun _ i _ => n + 1 - (intOf i).toNat)
  case atStart => exact ⟨[], x, y, _, 0, 0, by omega, rfl, rfl, Lib.hid rfl, HO1, HB1, HK1, HR0, hz1⟩
  case round =>
    clear HO1 HB1 HK1 HR0 hz1
    obtain ⟨acc, x, y, av, cv, k, hk, rfl, rfl, HML, HO, HB, HK, HR, hz⟩ := hrel
    by_cases hkn : k ≤ n
    · have hki : (k : Int) ≤ (n : Int) := by omega
      have HR2 : Hid (R = catS acc (if (commitS xs (x, y)).2 ≠ 0 then ([], (commitS xs (x, y)).2) else firN xs (n + 1 - (k + 1)) (x, y) (commitS xs (x, y)).1.pars)) := Lib.hid (by
          rw [HR.out, show n + 1 - k = (n + 1 - (k + 1)) + 1 by omega, firF_succ])
      have HC := Lib.hid (HCO.out wr x y HB.out)
      obtain ⟨CR, hCR⟩ : ∃ CR, CR = commitS xs (x, y) := ⟨_, rfl⟩
      rw [← hCR] at HC HR2
      obtain ⟨⟨kind, data, ents, ⟨t1, t2⟩, pars, author, time, msg⟩, er⟩ := CR
      simp only at HC HR2
      have e0 : wr.cell? ⟨w.heap.size, 0, none⟩ = some (.int .u64 x) := by rw [HK.out.cell]; rfl
      have e1 : wr.cell? ⟨w.heap.size, 1, none⟩ = some (.int .u64 y) := by rw [HK.out.cell]; rfl
      clear hCR HR
      go_wp2_with fail
      (with_reducible refine (HC.out).mono ?_)
      rintro e u ⟨ea, ec, pa, pc, rfl, hob, hb⟩
      simp only [Ob.val]
      have hpl := hob.bb.plen
      simp only at hpl
      have HPO := Lib.hid hob.po
      obtain ⟨np, hnp⟩ : ∃ n, n = pars.length := ⟨_, rfl⟩
      rw [← hnp] at hpl ⊢
      have HNP := Lib.hid hnp
      generalize ents.length = ne
      simp only at HPO
      rw [← hnp] at HPO
      have hzu : wr.heap.size ≤ u.heap.size := hb.size
      have HLT : Hid (∀ j, (Value.slice av k cv).ownBlock = some j → w.heap.size + 1 ≤ j ∧ j < wr.heap.size) := Lib.hid (fun j hj => HO.out.lt _ hj)
      have HB2 := Lib.hid (HB.out.trans (hb.mono HB.out.size))
      have HK2 := Lib.hid (HK.out.below hb)
      have HO2 := Lib.hid (own_below HO.out hb)
      obtain ⟨v2, hv2⟩ : ∃ v2, v2 = u.alloc (.cells #[.int .i64 kind, .string ⟨data.toArray⟩, .slice ea ne ec, .int .u64 t1, .int .u64 t2, .slice pa np pc, .string ⟨author.toArray⟩, .int .i64 time, .string ⟨msg.toArray⟩] 36) := ⟨_, rfl⟩
      have hbv : Below u.heap.size u v2 := by rw [hv2]; exact (Below.refl _ _).alloc (Nat.le_refl _) _
      have HB3 := Lib.hid (HB2.out.trans (hbv.mono HB2.out.size))
      have HK3 := Lib.hid (HK2.out.below hbv)
      have HO3 := Lib.hid (own_below HO2.out hbv)
      have HP3 := Lib.hid (own_below HPO.out hbv)
      have HKO : Hid (BK u.heap.size #[.int .i64 kind, .string ⟨data.toArray⟩, .slice ea ne ec, .int .u64 t1, .int .u64 t2, .slice pa np pc, .string ⟨author.toArray⟩, .int .i64 time, .string ⟨msg.toArray⟩] 36 v2) := Lib.hid (by rw [hv2]; exact BK.new _ _ _)
      have hzv : v2.heap.size = u.heap.size + 1 := by rw [hv2]; simp
      have HZV := Lib.hid hzv
      have g0 : v2.cell? ⟨w.heap.size, 0, none⟩ = some (.int .u64 x) := by rw [HK3.out.cell]; rfl
      have g1 : v2.cell? ⟨w.heap.size, 1, none⟩ = some (.int .u64 y) := by rw [HK3.out.cell]; rfl
      rw [hv2] at g0 g1
      have HV2 := Lib.hid hv2
      have hwz : wr.heap.size ≤ u.heap.size := hzu
      clear hob hb hbv hv2 hzv hnp HB2 HK2 HO2 e0 e1 HC HPO HO HB HK hzu
      by_cases he : er = 0
      · subst he
        obtain ⟨v', W', hrun', hown', hg', _⟩ := append_one (xs := acc) (by rw [← HML.out]; exact HO3.out) x y (by have := HML.out; omega) (by have := HZV.out; omega)
        have HB4 : Hid (Below w.heap.size w W') := Lib.hid ((HB3.out.alloc HB3.out.size _).grown hg' (by have := HB3.out.size; simp; omega) (fun j hj => by have := HLT.out j hj; omega))
        have HK4 : Hid (BK w.heap.size #[.int .u64 x, .int .u64 y] 32 W') := Lib.hid ((HK3.out.alloc _).grow hg' (fun j hj e => by have := HLT.out j hj; omega))
        have HKO4 : Hid (BK u.heap.size #[.int .i64 kind, .string ⟨data.toArray⟩, .slice ea ne ec, .int .u64 t1, .int .u64 t2, .slice pa np pc, .string ⟨author.toArray⟩, .int .i64 time, .string ⟨msg.toArray⟩] 36 W') := Lib.hid ((HKO.out.alloc _).grow hg' (fun j hj e => by have := HLT.out j hj; omega))
        have HP4 : Hid (Digs W'.heap.size W' pa pars) := Lib.hid (by
          have h5 := own_apart (own_below HP3.out ((Below.refl _ _).alloc (Nat.le_refl _) (.cells #[.int .u64 x, .int .u64 y] 32))) (fun j h1 h2 => by have := HLT.out j h2; have := (HP3.out.lt _ h1).1; omega) hg'
          rw [HNP.out] at h5
          exact ownsRow_digs h5)
        have HML4 : Hid (k + 1 = (acc ++ [(x, y)]).length) := Lib.hid (by rw [List.length_append, ← HML.out]; rfl)
        rw [← HML4.out] at hown'
        have HO4 := Lib.hid hown'
        have hz4 : w.heap.size + 1 ≤ W'.heap.size := by have h5 := hg'.size; have h6 := HZV.out; simp at h5; omega
        obtain ⟨av', cv', rfl, hcv⟩ := ownsRow_sliceN hown'
        rw [HZV.out, HV2.out] at hrun'
        have HRUN := Lib.hid hrun'
        have k5 : W'.cell? ⟨u.heap.size, 5, none⟩ = some (.slice pa np pc) := by rw [HKO4.out.cell]; rfl
        have HR3 : Hid (R = catS acc (firN xs (n + 1 - (k + 1)) (x, y) pars)) := Lib.hid (by rw [HR2.out]; simp)
        clear hrun' hown' hg' HB3 HK3 HO3 HP3 HKO HZV HV2 HLT HKO4 HR2 HML
        cases pars with
        | nil =>
          obtain rfl : np = 0 := HNP.out
          have HX : Hid (R = (acc ++ [(x, y)], 0)) := Lib.hid (by rw [HR3.out]; unfold catS firN; simp)
          clear HR3
          go_wp2_with (at_builtin; refine Lib.wpList_append_run _ rfl _ _ _ _ rfl _ _ rfl rfl _ _ HRUN.out ?_)
          go_ret2
          rw [HX.out]
          exact ⟨av', cv', by rw [← HML4.out]; rfl, own_digs HML4.out HO4.out, by rw [← HML4.out]; exact hcv, HB4.out⟩
        | cons p ps =>
          have HX : Hid (R = catS (acc ++ [(x, y)]) (firF xs (n + 1 - (k + 1)) p)) := Lib.hid (by rw [HR3.out]; exact cat_cat _ _ _)
          obtain ⟨b9, o9, haa, hb9, q0, q1⟩ := HP4.out 0 (by simp)
          simp only [List.getElem_cons_zero, Nat.zero_mul, Nat.add_zero] at q0 q1
          subst haa
          obtain ⟨p1, p2⟩ := p
          simp only at q0 q1
          have hnp : 0 < np := by rw [HNP.out]; simp
          have hnpi : (0 : Int) < (np : Int) := by omega
          have hnp0 : ¬ (np : Int) = 0 := by omega
          have hnpb : ((np : Int) == 0) = false := by simpa using hnp0
          obtain ⟨W5, hW5⟩ : ∃ W5, W5 = (W'.setCell ⟨w.heap.size, 0, none⟩ (.int .u64 p1)).setCell ⟨w.heap.size, 1, none⟩ (.int .u64 p2) := ⟨_, rfl⟩
          have hg5 : W'.grownBy W5 (some w.heap.size) := by rw [hW5]; exact gown (gset _ _ _ _) _ _
          have HB5 : Hid (Below w.heap.size w W5) := Lib.hid (HB4.out.grown hg5 HB4.out.size (fun j e => by cases e; omega))
          have HK5 : Hid (BK w.heap.size #[.int .u64 p1, .int .u64 p2] 32 W5) := Lib.hid (by rw [hW5]; exact (HK4.out.set 0 (.int .u64 p1)).set 1 (.int .u64 p2))
          have HO5 := Lib.hid (own_kept HO4.out hg5 (by omega))
          have hz5 : w.heap.size + 1 ≤ W5.heap.size := by have := hg5.size; omega
          have f0 : W'.frozen? ⟨w.heap.size, 0, none⟩ = false := HK4.out.frozen 0
          have f1 : W'.frozen? ⟨w.heap.size, 1, none⟩ = false := HK4.out.frozen 1
          have k0 : W'.cell? ⟨w.heap.size, 0, none⟩ = some (.int .u64 x) := by rw [HK4.out.cell]; rfl
          have k1 : W'.cell? ⟨w.heap.size, 1, none⟩ = some (.int .u64 y) := by rw [HK4.out.cell]; rfl
          have HW5 := Lib.hid hW5
          clear hg5 hW5 HB4 HO4 HR3 HP4
          go_wp2_with (at_builtin; refine Lib.wpList_append_run _ rfl _ _ _ _ rfl _ _ rfl rfl _ _ HRUN.out ?_)
          rw [← HW5.out]
          go_roundw
          case rel => exact ⟨acc ++ [(x, y)], p1, p2, av', cv', k + 1, by omega, rfl, by go_num, HML4, HO5, HB5, HK5, HX, hz5⟩
          case measure => simp [intOf] <;> omega
      · have hee : (er != 0) = true := by simpa using he
        have HX : Hid (R = ([], er)) := Lib.hid (by rw [HR2.out, if_pos he]; unfold catS; rw [if_pos (show ((([] : List (Int × Int)), er) : List (Int × Int) × Int).2 ≠ 0 from he)])
        clear HR2
        go_wp2_with fail
        go_ret2
        rw [← HV2.out, HX.out]
        exact ⟨none, 0, rfl, Digs.nil _ _ _, Nat.le_refl _, HB3.out⟩
    · have hki : ¬ (k : Int) ≤ (n : Int) := by omega
      obtain ⟨_, _, hx, hcv⟩ := ownsRow_sliceN HO.out
      cases hx
      have HX : Hid (R = (acc, 0)) := Lib.hid (by rw [HR.out, show n + 1 - k = 0 by omega]; unfold catS firF; simp)
      clear HR
      go_wp2_with fail
      go_ret2
      rw [HX.out]
      exact ⟨av, cv, by first | (rw [← HML.out]; done) | (rw [← HML.out]; rfl), own_digs HML.out HO.out, by rw [← HML.out]; exact hcv, HB.out⟩
end Go.Proofs.YtgdhkcocdmdoaaaGreat
