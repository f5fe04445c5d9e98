/- tree.store. -/
import Derived.Test.YtceacjnhkcikgaaGreatDoorTtSz
namespace Go.Proofs.YtceacjnhkcikgaaGreatDoor
open Go.RowKit Go.Shelf
set_option linter.unusedVariables false

set_option maxRecDepth 100000 in
set_option maxHeartbeats 16000000 in
theorem store_any : ∀ (n : Nat) (a : Option Addr) (xs : List Itm) (c : Nat) (la : Option Addr) (l : List Fl) (lc : Nat) (w : World), PoolIn w a xs c → Asc xs → Fls w.heap.size w la l → 0 < n → OkF n l → SzF l → (∀ x ∈ l, x.path.length ≤ 1000) → xs.length + l.length * n + 1 ≤ 100000000 →
    Calls Tryz.prog 17 #[.slice a xs.length c, .slice la l.length lc] w fun e w' => GotSt w a xs (storeF n xs l) e w' ∧ (storeF n xs l).1.length ≤ xs.length + l.length * n + 1 := by
  intro n
  induction n with
  | zero => intro a xs c la l lc w _ _ _ h; omega
  | succ n ih =>
    intro a xs c la l lc w hp ha hl _ hok hsz hpl hlen
    have HIH := Lib.hid ih
    have HP := Lib.hid hp
    have HA := Lib.hid ha
    have HL := Lib.hid hl
    have HOK := Lib.hid hok
    have HSZ := Lib.hid hsz
    have HPL := Lib.hid hpl
    have HLEN := Lib.hid hlen
    have hll := hsz.len
    clear ih hp ha hl hok hsz hpl hlen
    obtain ⟨nl, hnl⟩ : ∃ k, k = l.length := ⟨_, rfl⟩
    have HNL := Lib.hid hnl
    rw [← hnl] at hll ⊢
    clear hnl
    have hmm := @run_makeMap Tryz.prog
    obtain ⟨u0, hu0⟩ : ∃ u0, u0 = w.alloc (.cells #[.int .u64 0, .int .u64 0] 31) := ⟨_, rfl⟩
    have hz0 : u0.heap.size = w.heap.size + 1 := by rw [hu0]; simp
    have HB0 : Hid (Bel (w.heap.size + 1 + 2) (w.heap.size + 1) (w.heap.size + 1 + 1) 0 0 [] (fun _ => .slice none 0 0) ((u0.alloc (.map #[] 0)).alloc (.map #[] 0))) := Lib.hid (by have h := Bel.start u0; rw [hz0] at h; exact h)
    have HU0 : Hid (Below (w.heap.size + 1) u0 ((u0.alloc (.map #[] 0)).alloc (.map #[] 0))) := Lib.hid (((Below.refl _ _).alloc (by omega) _).alloc (by simp; omega) _)
    have HW0 : Hid (Below w.heap.size w u0) := Lib.hid (by rw [hu0]; exact (Below.refl _ _).alloc (Nat.le_refl _) _)
    have HR0 : Hid (BK w.heap.size #[.int .u64 0, .int .u64 0] 31 u0) := Lib.hid (by rw [hu0]; exact BK.new _ _ _)
    rw [hu0] at HB0 HU0
    have HUE := Lib.hid hu0
    clear hu0
    obtain ⟨rA, hrA⟩ : ∃ r, r = xs.length := ⟨_, rfl⟩
    rw [← hrA]
    have HRA := Lib.hid hrA
    clear hrA
    go_enter Tryz.func17, Tryz.ntmps17
    go_wp2_with fail
    go_loopw [26] (fun i wr => ∃ k : Nat, k ≤ nl ∧ i = .int .i64 (k : Int) ∧ Hid (∃ R nb nf, nb ≤ k ∧ nf ≤ k ∧ Bel (w.heap.size + 1 + 2) (w.heap.size + 1) (w.heap.size + 1 + 1) nb nf (l.take k) R wr) ∧ Hid (Below (w.heap.size + 1) u0 wr)) (fun i _ => nl - (intOf i).toNat)
    case atStart => exact ⟨0, by omega, rfl, Lib.hid ⟨_, 0, 0, Nat.le_refl _, Nat.le_refl _, by rw [List.take_zero]; exact HB0.out⟩, Lib.hid (by rw [HUE.out]; exact HU0.out)⟩
    case round =>
      clear HB0 HU0
      obtain ⟨k, hk, rfl, HB, HU⟩ := hrel
      have hws := HU.out.size
      have HWR : Hid (Below w.heap.size w wr) := Lib.hid (HW0.out.trans (HU.out.mono (by omega)))
      by_cases hlt : k < nl
      · have hki : (k : Int) < (nl : Int) := by omega
        have hkl : k < l.length := by rw [← HNL.out]; exact hlt
        obtain ⟨b0, of0, haa, hbb, q0, q1⟩ := fl_cells (HL.out.below HWR.out (Nat.le_refl _)) hkl
        have HTK : Hid (l.take (k + 1) = l.take k ++ [l[k]]) := Lib.hid (List.take_succ_eq_append_getElem hkl)
        have hpb := HPL.out _ (List.getElem_mem hkl)
        generalize l[k] = x at q0 q1 HTK hpb
        obtain ⟨P, D⟩ := x
        simp only at q0 q1 hpb
        subst haa
        obtain ⟨R, nb, nf, hnb, hnf, hbel⟩ := HB.out
        obtain ⟨u1, hu1⟩ : ∃ u1, u1 = wr.alloc (.cells #[.string ⟨P.toArray⟩, .string ⟨D.toArray⟩] 43) := ⟨_, rfl⟩
        have HW1 : Hid (Below wr.heap.size wr u1) := Lib.hid (by rw [hu1]; exact (Below.refl _ _).alloc (Nat.le_refl _) _)
        have HBX : Hid (BK wr.heap.size #[.string ⟨P.toArray⟩, .string ⟨D.toArray⟩] 43 u1) := Lib.hid (by rw [hu1]; exact BK.new _ _ _)
        have HBE := Lib.hid (hbel.below HW1.out)
        have HCU := Lib.hid (cut_any P (by omega) u1)
        obtain ⟨e0, e1⟩ := HBX.out.c2
        rw [hu1] at HCU e0 e1
        have HU1 := Lib.hid hu1
        have hne : R = R := rfl
        clear hu1 hbel HB
        go_wp2_with fail
        (with_reducible refine HCU.out.mono ?_)
        rintro e u2 ⟨rfl, hb2⟩
        rw [← HU1.out] at hb2
        have HBX2 := Lib.hid (HBX.out.below hb2)
        have hbe2 := HBE.out.below hb2
        have HU2 : Hid (Below (w.heap.size + 1) u0 u2) := Lib.hid (HU.out.trans ((HW1.out.trans (hb2.mono HW1.out.size)).mono (by have := HU.out.size; omega)))
        obtain ⟨f0, f1⟩ := HBX2.out.c2
        have hfl : (firstS ⟨P, D⟩).length ≤ 1000000 := by
          show (cutS P).1.length ≤ 1000000
          rcases cutS_law P with ⟨_, h2, _⟩ | ⟨_, h2, _⟩
          · have := congrArg List.length h2; simp only [List.length_append, List.length_cons] at this; omega
          · rw [← h2]; omega
        have hpre : (((l.take k).length : Nat) : Int) ≤ 1000000 := by rw [List.length_take]; omega
        clear e0 e1 HCU hb2
        cases hd : (cutS P).2.2 with
        | true =>
          obtain ⟨v', W2, W3, hrun, hput, hbel3, hb3⟩ := hbe2.deep (x := ⟨P, D⟩) hd hfl (by omega) hpre
          have hlook := hbe2.look hfl
          have HREL : Hid (∃ R nb nf, nb ≤ k + 1 ∧ nf ≤ k + 1 ∧ Bel (w.heap.size + 1 + 2) (w.heap.size + 1) (w.heap.size + 1 + 1) nb nf (l.take (k + 1)) R W3) := Lib.hid ⟨_, nb + 1, nf, by omega, by omega, by rw [HTK.out]; exact hbel3⟩
          have HBW : Hid (Below (w.heap.size + 1) u0 W3) := Lib.hid (HU2.out.trans hb3)
          have HRUN := Lib.hid hrun
          simp only [firstS] at hlook hput HRUN
          generalize (cutS P).1 = nm at hlook hput HRUN
          generalize (cutS P).2.1 = rest at HRUN
          clear hrun hbel3 hb3 hbe2 hfl
          generalize R nm = v at hlook HRUN
          go_wp2_with (at_builtin; refine Lib.wpList_append_run _ rfl _ _ _ _ rfl _ _ rfl rfl _ _ HRUN.out ?_)
          go_roundw
          case rel => exact ⟨k + 1, by omega, by go_num, HREL, HBW⟩
          case measure => simp [intOf] <;> omega
        | false =>
          obtain ⟨W3, hput, hbel3, hg3⟩ := hbe2.flat (x := ⟨P, D⟩) hd hfl (by omega)
          have HREL : Hid (∃ R nb nf, nb ≤ k + 1 ∧ nf ≤ k + 1 ∧ Bel (w.heap.size + 1 + 2) (w.heap.size + 1) (w.heap.size + 1 + 1) nb nf (l.take (k + 1)) R W3) := Lib.hid ⟨_, nb, nf + 1, by omega, by omega, by rw [HTK.out]; exact hbel3⟩
          have HBW : Hid (Below (w.heap.size + 1) u0 W3) := Lib.hid (HU2.out.grown hg3 (by have := HU2.out.size; omega) (fun j e => by cases e; omega))
          simp only [firstS, flV] at hput
          generalize (cutS P).1 = nm at hput
          generalize (cutS P).2.1 = rest
          clear hbel3 hbe2 hfl hg3
          go_wp2_with fail
          go_roundw
          case rel => exact ⟨k + 1, by omega, by go_num, HREL, HBW⟩
          case measure => simp [intOf] <;> omega
      · have hki : ¬ (k : Int) < (nl : Int) := by omega
        obtain rfl : nl = k := by omega
        obtain ⟨R, nb, nf, hnb, hnf, hbel0⟩ := HB.out
        rw [List.take_of_length_le (by have := HNL.out; omega)] at hbel0
        have HBL := Lib.hid hbel0
        have HKF := Lib.hid (keysF_any hbel0.mF)
        have HRW : Hid (BK w.heap.size #[.int .u64 0, .int .u64 0] 31 wr) := Lib.hid ((HU.out.block w.heap.size (by omega)).trans HR0.out)
        clear hbel0 HB
        go_wp2_with fail
        (with_reducible refine HKF.out.mono ?_)
        rintro e u1 ⟨rfl, hu1⟩
        have hb1 : Below wr.heap.size wr u1 := by rw [hu1]; exact (Below.refl _ _).alloc (Nat.le_refl _) _
        have hz1 : u1.heap.size = wr.heap.size + 1 := by rw [hu1]; simp
        have hc1 : u1.cell? ⟨wr.heap.size, 0, none⟩ = some (.map (some (w.heap.size + 1 + 1))) := by rw [hu1]; exact (BK.new _ _ _).c1
        have HBL1 := Lib.hid (HBL.out.below hb1)
        obtain ⟨Sp, hseq⟩ := keysF_stops HBL1.out.mF (by omega) hc1
        have HCO := Lib.hid (collect_any (base := u1.heap.size) u1 (enters_of Tryz.func53 (by kernel_rfl) rfl) hseq (Nat.le_refl _) (by omega))
        clear hu1 hc1 hseq HKF
        go_wp2_with fail
        (with_reducible refine HCO.out.mono ?_)
        rintro e u2 ⟨v, sf, rfl, hkf, hrow, hb2⟩
        obtain ⟨sa, sc, rfl, _⟩ := ownsRow_sliceN hrow
        have HKF2 := Lib.hid hkf
        have HBL2 := Lib.hid (HBL1.out.below hb2)
        have HKB := Lib.hid (keysB_any HBL2.out.mB)
        have HROW := Lib.hid hrow
        clear hkf hrow HCO
        obtain ⟨nsf, hnsf⟩ : ∃ m, m = sf.length := ⟨_, rfl⟩
        rw [← hnsf]
        have HNSF := Lib.hid hnsf
        clear hnsf
        go_wp2_with fail
        (with_reducible refine HKB.out.mono ?_)
        rintro e u3 ⟨rfl, hu3⟩
        have hb3 : Below u2.heap.size u2 u3 := by rw [hu3]; exact (Below.refl _ _).alloc (Nat.le_refl _) _
        have hz3 : u3.heap.size = u2.heap.size + 1 := by rw [hu3]; simp
        have hc3 : u3.cell? ⟨u2.heap.size, 0, none⟩ = some (.map (some (w.heap.size + 1))) := by rw [hu3]; exact (BK.new _ _ _).c1
        obtain ⟨Sp2, hseq2⟩ := keysB_stops (HBL2.out.below hb3).mB (by omega) hc3
        have hsn : sf.length ≤ l.length := by
          have h1 : sf.Perm ((namesS l).filter fun x => (filesM l x).isSome) := (List.perm_ext_iff_of_nodup HKF2.out.1 ((names_nodup l).filter _)).2 (fun x => by
            rw [HKF2.out.2 x, Option.isSome_map, List.mem_filter]
            refine ⟨fun h2 => ⟨?_, h2⟩, fun h2 => h2.2⟩
            obtain ⟨y, hy⟩ := Option.isSome_iff_exists.1 h2
            obtain ⟨y1, _, y3⟩ := files_some hy
            exact names_mem.2 ⟨y, y1, y3⟩)
          rw [h1.length_eq]
          exact Nat.le_trans (List.length_filter_le _ _) (names_len l)
        have HAS := Lib.hid (appSeq_any (base := u1.heap.size) (xs := sf) u3 (enters_of Tryz.func54 (by kernel_rfl) rfl) hseq2 (own_below HROW.out hb3) (by have := hb2.size; omega) (by have := HNL.out; omega))
        rw [← HNSF.out] at HAS
        clear hu3 hc3 hseq2 HKB
        go_wp2_with fail
        (with_reducible refine HAS.out.mono ?_)
        rintro e u4 ⟨v4, sb, rfl, hkb, hrow4, hb4⟩
        obtain ⟨s4, c4, rfl, _⟩ := ownsRow_sliceN hrow4
        have HPM : Hid ((sf ++ sb).Perm (namesS l)) := Lib.hid (names_perm HOK.out HKF2.out.1 (fun x => by rw [HKF2.out.2 x, Option.isSome_map]) hkb.1 (fun x => by rw [hkb.2 x]; by_cases e : insideS l x = [] <;> simp [e]))
        obtain ⟨NN, hNN⟩ : ∃ m, m = (sf ++ sb).length := ⟨_, rfl⟩
        have hNN2 : NN = (namesS l).length := by rw [hNN]; exact HPM.out.length_eq
        have hNN3 : NN ≤ nl := by have := names_len l; have := HNL.out; omega
        have HSO := Lib.hid (sortStr_any s4 c4 (sf ++ sb) (namesS l) u4 hrow4 HPM.out (names_asc l) (by omega))
        rw [← hNN] at HSO ⊢
        have HB14 : Hid (Below u1.heap.size u1 u4) := Lib.hid ((hb2.trans (hb3.mono hb2.size)).trans hb4)
        have HNN := Lib.hid hNN2
        have hlo4 : ∀ j, (Value.slice s4 (sf ++ sb).length c4).ownBlock = some j → u1.heap.size ≤ j := fun j hj => (hrow4.lt j hj).1
        rw [← hNN] at hlo4
        have HLO := Lib.hid hlo4
        clear hNN hNN2 hrow4 hkb HAS hb2 hb3 hb4 HPM HKF2 HBL2 hlo4 HROW
        go_wp2_with fail
        (with_reducible refine HSO.out.mono ?_)
        rintro e u5 ⟨rfl, hrow5, hg5⟩
        have HB15 : Hid (Below u1.heap.size u1 u5) := Lib.hid (HB14.out.grown hg5 HB14.out.size (fun j e => HLO.out j e))
        have HBL5 := Lib.hid (HBL1.out.below HB15.out)
        have HW5 : Hid (Below w.heap.size w u5) := Lib.hid ((HWR.out.trans (hb1.mono (by omega))).trans (HB15.out.mono (by omega)))
        have HR5 : Hid (BK w.heap.size #[.int .u64 0, .int .u64 0] 31 u5) := Lib.hid ((HRW.out.below hb1).below HB15.out)
        have hz5 : w.heap.size + 1 + 2 < u5.heap.size := by have := HBL5.out.bb; have := HB15.out.size; have := HBL.out.bb; omega
        rw [← HNN.out] at hrow5
        have HROW5 : Hid (u5.ownsRow u1.heap.size 9 1 (.slice s4 (namesS l).length c4) (namesS l).length ((namesS l).map encStr)) := Lib.hid (by rw [← HNN.out]; exact hrow5)
        have HS0 : Hid (St2 w u5 n a xs l 0 xs a c [] (.slice none 0 0) (u5.alloc (.cells (obC (.slice none 0 0)) 64))) := Lib.hid ⟨(Below.refl _ _).alloc (Nat.le_refl _) _, by simp, HP.out.below (HW5.out.alloc HW5.out.size _), HA.out, .inl ⟨rfl, rfl⟩, fun ad e hq => ⟨by have := its_lt HP.out.its ad e hq; omega, fun e2 => by cases e2⟩, BK.new _ _ _, World.ownsRow_nil _ _ _ _, rfl, fun e he => by simp at he, by rw [List.drop_zero, storeF], by rw [List.drop_zero, cost_names]; omega⟩
        unfold obC at HS0
        clear hrow5 hg5 HSO HB14 HLO HBL HBL1 HRW hb1 HB15 HWR HU hnb hnf
        go_wp2_with fail
        go_loopw [0, 65] (fun p i wr => ∃ (k : Nat) (P : List Itm) (pa : Option Addr) (pc : Nat) (es : List Ent) (v : Value) (np : Nat), i = .int .i64 (k : Int) ∧ k ≤ NN ∧ p = .slice pa np pc ∧ np = P.length ∧ Hid (St2 w u5 n a xs l k P pa pc es v wr)) (fun _ i _ => NN - (intOf i).toNat)
        case atStart => exact ⟨0, xs, a, c, [], .slice none 0 0, rA, rfl, by omega, rfl, HRA.out, HS0⟩
        case round =>
          clear HS0
          obtain ⟨k, P, pa, pc, es, v, np, rfl, hk, rfl, hnp, HS⟩ := hrel
          have HNP := Lib.hid hnp
          clear hnp
          have hXs := HS.out.sz
          by_cases hlt : k < NN
          · have hki : (k : Int) < (NN : Int) := by omega
            have hkn : k < (namesS l).length := by rw [← HNN.out]; exact hlt
            obtain ⟨g, off, hsa, q0⟩ := name_cell (own_below HROW5.out HS.out.be) hkn
            have HEQ0 := Lib.hid HS.out.eq
            have HCD := Lib.hid (cost_drop (n := n + 1) (l := l) hkn)
            have HDR : Hid ((namesS l).drop k = (namesS l)[k] :: (namesS l).drop (k + 1)) := Lib.hid (List.drop_eq_getElem_cons hkn)
            have hmem := List.getElem_mem hkn
            have HS47 := Lib.hid (name_slash hmem)
            have HCP := Lib.hid (cnt_pos hmem)
            have hnb : nameB (namesS l)[k] = true := by
              obtain ⟨y, hy, hye⟩ := names_mem.1 hmem
              rw [← hye]; exact HOK.out.name hy
            have HMEM := Lib.hid hmem
            have hnml := (nameB_length hnb).2
            generalize (namesS l)[k] = nm at q0 HCD HDR HS47 HCP hnml HMEM
            subst hsa
            have HNM : Hid ((47 : UInt8) ∉ nm ∧ nm.length ≤ 1000) := Lib.hid ⟨HS47.out, by omega⟩
            clear hmem hnb HS47
            obtain ⟨ua, hua⟩ : ∃ ua, ua = wr.alloc (.cells #[.string ⟨nm.toArray⟩, .bool false, .int .u64 0, .int .u64 0] 88) := ⟨_, rfl⟩
            have HBA : Hid (Below wr.heap.size wr ua) := Lib.hid (by rw [hua]; exact (Below.refl _ _).alloc (Nat.le_refl _) _)
            have hza : ua.heap.size = wr.heap.size + 1 := by rw [hua]; simp
            have HEA : Hid (BK wr.heap.size #[.string ⟨nm.toArray⟩, .bool false, .int .u64 0, .int .u64 0] 88 ua) := Lib.hid (by rw [hua]; exact BK.new _ _ _)
            have hlook := ((HBL5.out.below HS.out.be).below HBA.out).lookF (s := nm) (by omega)
            rw [files_find HOK.out.asc HNM.out.1] at hlook
            have HCO1 : Hid (P.length + (cntF l nm * (n + 1) + costF (n + 1) l ((namesS l).drop (k + 1))) ≤ xs.length + l.length * (n + 1)) := Lib.hid (by rw [← HCD.out]; exact HS.out.co)
            have HB100 : Hid (xs.length + l.length * (n + 1) + 1 ≤ 100000000) := Lib.hid (by exact HLEN.out)
            cases hf : findF l nm with
            | some D =>
              rw [hf] at hlook
              simp only [Option.map_some, Option.getD_some, Option.isSome_some, flV] at hlook
              have hDl := HSZ.out.dat _ (findF_some hf)
              simp only at hDl
              have HEQ : Hid (storeF (n + 1) xs l = if (putS P (blobO D)).2.2 ≠ 0 then badR (putS P (blobO D)).2.2 else storeGo (storeF n) l ((namesS l).drop (k + 1)) (putS P (blobO D)).1 (es ++ [⟨nm, false, (putS P (blobO D)).2.1⟩])) := Lib.hid (by rw [HEQ0.out, HDR.out, storeGo, hf])
              obtain ⟨ub, hub⟩ : ∃ ub, ub = ua.alloc (.cells #[.string ⟨nm.toArray⟩, .string ⟨D.toArray⟩] 43) := ⟨_, rfl⟩
              have HBB : Hid (Below wr.heap.size wr ub) := Lib.hid (by rw [hub]; exact HBA.out.alloc (by omega) _)
              have hzb : ub.heap.size = wr.heap.size + 2 := by rw [hub]; simp; omega
              have HEB : Hid (BK wr.heap.size #[.string ⟨nm.toArray⟩, .bool false, .int .u64 0, .int .u64 0] 88 ub) := Lib.hid (by rw [hub]; exact HEA.out.alloc _)
              obtain ⟨e0, e1⟩ := (BK.new ua #[.string ⟨nm.toArray⟩, .string ⟨D.toArray⟩] 43).c2
              have HBLO := Lib.hid (blob_any D ub)
              rw [hub] at HBLO
              rw [hua] at hlook e0 e1 HBLO
              have HUA := Lib.hid hua
              have HUB := Lib.hid hub
              clear hua hub hf HEQ0 HDR HCD
              go_wp2_with fail
              (with_reducible refine HBLO.out.mono ?_)
              rintro e uc ⟨rfl, hbc⟩
              rw [← HUA.out, ← HUB.out] at hbc
              have HBC : Hid (Below wr.heap.size wr uc) := Lib.hid (HBB.out.trans (hbc.mono HBB.out.size))
              have hzc := hbc.size
              have HEC := Lib.hid (HEB.out.below hbc)
              have HPC := Lib.hid (HS.out.pin.below HBC.out)
              have HPUT := Lib.hid (put_any pa P pc (blobO D) none 0 none 0 uc HPC.out HS.out.asc (obIn_blob uc hDl))
              rw [← HNP.out] at HPUT
              generalize hrr : putS P (blobO D) = rr at HPUT HEQ
              have HRR := Lib.hid hrr
              simp only [blobO, Ob.val, List.length_nil] at HPUT ⊢
              clear hrr hbc HBLO HEB HBB HUA HUB hlook e0 e1
              go_wp2_with fail
              (with_reducible refine HPUT.out.mono ?_)
              rintro e u9 ⟨ra, rc, rfl, hpat⟩
              have hPl : (P.length : Int) + 1 ≤ 100000000 := by have h1 := HCO1.out; have h2 := HB100.out; have h3 := HCP.out; have h4 : 1 ≤ cntF l nm * (n + 1) := Nat.mul_pos h3 (by omega); omega
              have hpp := put_inn (o := blobO D) HS.out.asc HPC.out hPl (by rw [HRR.out]; exact hpat)
              rw [HRR.out] at hpp
              have HB9 : Hid (Below wr.heap.size wr u9) := Lib.hid (HBC.out.trans (hpat.2.2.2.mono HBC.out.size))
              have HE9 := Lib.hid (HEC.out.below hpat.2.2.2)
              have HAT : Hid ((ra = pa ∧ rr.1 = P) ∨ ∀ ad, ra = some ad → uc.heap.size ≤ ad.block) := Lib.hid hpat.2.2.1
              have HCO : Hid (rr.1.length + costF (n + 1) l ((namesS l).drop (k + 1)) ≤ xs.length + l.length * (n + 1)) := Lib.hid (by have h1 := HCO1.out; have h3 := HCP.out; have h4 : 1 ≤ cntF l nm * (n + 1) := Nat.mul_pos h3 (by omega); have h5 := hpp.2.2; omega)
              have HDGE0 : Hid (rr.2.2 = 0 → 0 ≤ rr.2.1.1 ∧ 0 ≤ rr.2.1.2) := Lib.hid (fun h0 => by
                obtain ⟨_, h1, _⟩ := put_ok (q := rr.1) (d := rr.2.1) HS.out.asc (o := blobO D) (by rw [HRR.out]; exact Prod.ext rfl (Prod.ext rfl h0))
                rw [h1]
                obtain ⟨⟨h2, _⟩, h3, _⟩ := digS_ok (encodeS (blobO D)).1
                exact ⟨h2, h3⟩)
              have HPQ : Hid (PoolIn u9 ra rr.1 rc ∧ Asc rr.1) := Lib.hid ⟨hpp.1, hpp.2.1⟩
              obtain ⟨nq, hnq⟩ : ∃ nq, nq = rr.1.length := ⟨_, rfl⟩
              rw [← hnq]
              have HNQ0 := Lib.hid hnq
              have HR0 : Hid (rr = (rr.1, rr.2.1, rr.2.2)) := Lib.hid rfl
              clear hpp hpat hnq HPUT HEC HPC HRR hPl
              obtain ⟨Q, ⟨g1, g2⟩, er⟩ := rr
              simp only at HB9 HE9 HAT HCO HDGE0 HPQ HNQ0 HEQ ⊢
              have HNQ : Hid (nq = Q.length) := HNQ0
              have HDGE : Hid (er = 0 → 0 ≤ g1 ∧ 0 ≤ g2) := HDGE0
              clear HNQ0 HDGE0
              have hes : BK wr.heap.size #[.string ⟨nm.toArray⟩, .bool false, .int .u64 0, .int .u64 0] 88 u9 := HE9.out
              obtain ⟨k0, k1, k2, k3⟩ := hes.c4
              obtain ⟨z0, z1, z2, z3⟩ := hes.f4
              obtain ⟨y1, hy1⟩ : ∃ y1, y1 = u9.setCell ⟨wr.heap.size, 2, none⟩ (.int .u64 g1) := ⟨_, rfl⟩
              obtain ⟨y2, hy2⟩ : ∃ y2, y2 = y1.setCell ⟨wr.heap.size, 3, none⟩ (.int .u64 g2) := ⟨_, rfl⟩
              have HEY : Hid (BK wr.heap.size #[.string ⟨nm.toArray⟩, .bool false, .int .u64 g1, .int .u64 0] 88 y1) := Lib.hid (by rw [hy1]; exact hes.set 2 _)
              obtain ⟨m0, m1, m2, m3⟩ := HEY.out.c4
              obtain ⟨n0, n1, n2, n3⟩ := HEY.out.f4
              have HY1 := Lib.hid hy1
              have HY2 := Lib.hid hy2
              rw [hy1] at m0 m1 m2 m3 n0 n1 n2 n3
              by_cases her : er = 0
              · have HEQ2 : Hid (storeF (n + 1) xs l = storeGo (storeF n) l ((namesS l).drop (k + 1)) Q (es ++ [⟨nm, false, (g1, g2)⟩])) := Lib.hid (by rw [HEQ.out]; simp [her])
                have HDG : Hid (0 ≤ g1 ∧ 0 ≤ g2) := Lib.hid (HDGE.out her)
                obtain ⟨v', W2, hrun, hbe, hbo1, hbo2, hst⟩ := HS.out.step HB9.out HE9.out (W0 := uc) (by omega) HPQ.out.1 HPQ.out.2 HAT.out HNM.out.2 HDG.out.1 HDG.out.2 (by omega) HEQ2.out HCO.out
                obtain ⟨va2, vc2, rfl, _⟩ := ownsRow_sliceN hst.ow
                have hle : (es ++ [(⟨nm, false, (g1, g2)⟩ : Ent)]).length = es.length + 1 := by simp
                rw [hle] at hst hrun
                rw [← HY1.out, ← HY2.out] at hrun hbe hbo1
                have hys : y2.heap.size = u9.heap.size := by rw [HY2.out, HY1.out]; simp [World.setCell]
                rw [hys] at hrun
                obtain ⟨j0, j1, j2, j3⟩ := hbe.c4
                unfold obC at hbo1 hbo2
                obtain ⟨o0, o1, o2, o3, o4, o5, o6, o7, o8⟩ := hbo1.c9
                obtain ⟨p0, p1, p2, p3, p4, p5, p6, p7, p8⟩ := hbo2.c9
                have pf := hbo2.frozen 2
                rw [HY2.out, HY1.out] at hrun j0 j1 j2 j3 o0 o1 o2 o3 o4 o5 o6 o7 o8
                have HRUN := Lib.hid hrun.out
                have HST := Lib.hid hst
                subst her
                clear hys hrun hbe hbo1 hbo2 hst hes hy1 hy2 HEY HY1 HY2
                go_wp2_with (at_builtin; refine Lib.wpList_append_run _ rfl _ _ _ _ rfl _ _ rfl rfl _ _ HRUN.out ?_)
                go_roundw
                case rel => exact ⟨k + 1, Q, ra, rc, _, _, nq, by go_num, by omega, rfl, HNQ.out, HST⟩
                case measure => simp [intOf] <;> omega
              · have HEQ2 : Hid (storeF (n + 1) xs l = badR er) := Lib.hid (by rw [HEQ.out]; simp [her])
                have hy3 : Below w.heap.size w y2 := by rw [hy2, hy1]; exact (((HW5.out.trans (HS.out.be.mono (by omega))).trans (HB9.out.mono (by omega))).setCell (by simp; omega) _).setCell (by simp; omega) _
                have hrc : BK w.heap.size #[.int .u64 0, .int .u64 0] 31 y2 := by rw [hy2, hy1]; exact (((HR5.out.below HS.out.be).below HB9.out).other (by omega) _ _).other (by omega) _ _
                obtain ⟨t0, t1⟩ := hrc.c2
                obtain ⟨s0, s1⟩ := hrc.f2
                obtain ⟨y3, hy3e⟩ : ∃ y3, y3 = y2.setCell ⟨w.heap.size, 0, none⟩ (.int .u64 0) := ⟨_, rfl⟩
                have hrc2 : BK w.heap.size #[.int .u64 0, .int .u64 0] 31 y3 := by rw [hy3e]; exact hrc.set 0 _
                obtain ⟨t2, t3⟩ := hrc2.c2
                obtain ⟨s2, s3⟩ := hrc2.f2
                have hrc3 : BK w.heap.size #[.int .u64 0, .int .u64 0] 31 (y3.setCell ⟨w.heap.size, 1, none⟩ (.int .u64 0)) := hrc2.set 1 _
                obtain ⟨t4, t5⟩ := hrc3.c2
                have HFN : Hid (GotSt w a xs (storeF (n + 1) xs l) (.returned (.tuple #[.slice none 0 0, .agg #[.int .u64 0, .int .u64 0], .int .i64 er])) (y3.setCell ⟨w.heap.size, 1, none⟩ (.int .u64 0)) ∧ (storeF (n + 1) xs l).1.length ≤ rA + nl * (n + 1) + 1) := Lib.hid (by
                  rw [HEQ2.out]
                  have hb : Below w.heap.size w (y3.setCell ⟨w.heap.size, 1, none⟩ (.int .u64 0)) := by rw [hy3e]; exact (hy3.setCell (Nat.le_refl _) _).setCell (Nat.le_refl _) _
                  exact ⟨⟨none, 0, rfl, PoolAt.none a xs hb, ⟨Its.nil _ _ _, Nat.zero_le _, by simp [badR], by simp [badR]⟩, asc_nil⟩, Nat.zero_le _⟩)
                rw [hy3e, hy2, hy1] at t2 t3 s2 s3 t4 t5 HFN
                rw [hy2, hy1] at t0 t1 s0 s1
                clear hes hy1 hy2 hy3 hy3e HEY HY1 HY2 hrc hrc2 hrc3 HS HPQ HAT
                go_wp2_with fail
                refine bodyPost_ret (v := .tuple #[.slice none 0 0, .agg #[.int .u64 0, .int .u64 0], .int .i64 er]) (by simp [results, Tryz.results17, go_sem, t4, t5]) rfl ?_
                exact HFN.out
            | none =>
              rw [hf] at hlook
              simp only [Option.map_none, Option.getD_none, Option.isSome_none, flV] at hlook
              have HEQ : Hid (storeF (n + 1) xs l = if (storeF n P (insideS l nm)).2.2 ≠ 0 then badR (storeF n P (insideS l nm)).2.2 else storeGo (storeF n) l ((namesS l).drop (k + 1)) (storeF n P (insideS l nm)).1 (es ++ [⟨nm, true, (storeF n P (insideS l nm)).2.1⟩])) := Lib.hid (by rw [HEQ0.out, HDR.out, storeGo, hf])
              obtain ⟨ub, hub⟩ : ∃ ub, ub = ua.alloc (.cells #[.string ⟨#[]⟩, .string ⟨#[]⟩] 43) := ⟨_, rfl⟩
              have HBB : Hid (Below wr.heap.size wr ub) := Lib.hid (by rw [hub]; exact HBA.out.alloc (by omega) _)
              have hzb : ub.heap.size = wr.heap.size + 2 := by rw [hub]; simp; omega
              have HEB : Hid (BK wr.heap.size #[.string ⟨nm.toArray⟩, .bool false, .int .u64 0, .int .u64 0] 88 ub) := Lib.hid (by rw [hub]; exact HEA.out.alloc _)
              obtain ⟨e0, e1, e2, e3⟩ := HEB.out.c4
              obtain ⟨f0, f1, f2, f3⟩ := HEB.out.f4
              obtain ⟨uc, huc⟩ : ∃ uc, uc = (wr.alloc (.cells #[.string ⟨nm.toArray⟩, .bool true, .int .u64 0, .int .u64 0] 88)).alloc (.cells #[.string ⟨#[]⟩, .string ⟨#[]⟩] 43) := ⟨_, rfl⟩
              have HEC : Hid (BK wr.heap.size #[.string ⟨nm.toArray⟩, .bool true, .int .u64 0, .int .u64 0] 88 uc) := Lib.hid (by rw [huc]; exact (BK.new _ _ _).alloc _)
              have HBC : Hid (Below wr.heap.size wr uc) := Lib.hid (by rw [huc]; exact ((Below.refl _ _).alloc (Nat.le_refl _) _).alloc (by simp) _)
              have hzc : uc.heap.size = wr.heap.size + 2 := by rw [huc]; simp
              have hbelc := (HBL5.out.below HS.out.be).below HBC.out
              have hlook2 := hbelc.look (s := nm) (by have := HNM.out.2; omega)
              obtain ⟨fa, fc, hR, _⟩ := ownsRow_sliceN (hbelc.row nm)
              have hrow := hbelc.row nm
              rw [hR] at hlook2 hrow
              have HPC := Lib.hid (HS.out.pin.below HBC.out)
              obtain ⟨y0, hy0⟩ := List.exists_mem_of_ne_nil _ (deep_of HMEM.out hf)
              have hin := HOK.out.inside nm
              have hcn := inside_cnt l nm
              have hlen2 : P.length + (insideS l nm).length * n + 1 ≤ 100000000 ∧ (insideS l nm).length * n + 1 ≤ cntF l nm * (n + 1) := by
                have h1 := HCO1.out
                have h2 := HB100.out
                have h3 := HCP.out
                have h4 : (insideS l nm).length * n ≤ cntF l nm * n := Nat.mul_le_mul_right _ hcn
                rw [Nat.mul_add, Nat.mul_one] at h1 ⊢
                rw [Nat.mul_add, Nat.mul_one] at h2
                rw [Nat.mul_add, Nat.mul_one] at h1
                omega
              have HST0 := Lib.hid (HIH.out pa P pc fa (insideS l nm) fc uc HPC.out HS.out.asc (own_fls rfl hrow) (hin.pos hy0) hin (HSZ.out.inside nm) (fun y hy => by
                obtain ⟨x, hx, h1, h2, rfl⟩ := inside_mem.1 hy
                have h3 := HPL.out x hx
                have h4 := cutS_len (s := x.path) h1
                show (cutS x.path).2.1.length ≤ 1000
                omega) hlen2.1)
              rw [← HNP.out] at HST0
              have HLN2 := Lib.hid hlen2.2
              have HDP : Hid (∀ (q : List Itm) (d : Int × Int), storeF n P (insideS l nm) = (q, d, 0) → 0 ≤ d.1 ∧ 0 ≤ d.2) := Lib.hid (fun q d h => by
                obtain ⟨_, h1, _⟩ := store_pure n HS.out.asc h
                obtain ⟨o, h2⟩ := pureF_dig (hin.pos hy0) (insideS l nm)
                rw [h1, h2]
                obtain ⟨⟨h3, _⟩, h4, _⟩ := digS_ok (encodeS o).1
                exact ⟨h3, h4⟩)
              generalize hrr : storeF n P (insideS l nm) = rr at HST0 HEQ HDP
              generalize (insideS l nm).length = il at hlook2 HST0 HLN2
              rw [huc] at hlook2 HST0
              rw [hub] at e0 e1 e2 e3 f0 f1 f2 f3
              rw [hua] at hlook e0 e1 e2 e3 f0 f1 f2 f3
              have HUA := Lib.hid hua
              have HUB := Lib.hid hub
              have HUC := Lib.hid huc
              clear hua hub huc hf HEQ0 HDR HCD hrow hR hbelc hin hy0 hlen2 hcn hrr
              go_wp2_with fail
              (with_reducible refine HST0.out.mono ?_)
              rintro e u9 ⟨⟨ra, rc, rfl, hpat, hpin, hasc⟩, hql⟩
              rw [← HUC.out] at hpat
              have HB9 : Hid (Below wr.heap.size wr u9) := Lib.hid (HBC.out.trans (hpat.2.2.2.mono HBC.out.size))
              have HE9 := Lib.hid (HEC.out.below hpat.2.2.2)
              have HAT : Hid ((ra = pa ∧ rr.1 = P) ∨ ∀ ad, ra = some ad → uc.heap.size ≤ ad.block) := Lib.hid hpat.2.2.1
              have HCO : Hid (rr.1.length + costF (n + 1) l ((namesS l).drop (k + 1)) ≤ xs.length + l.length * (n + 1)) := Lib.hid (by have h1 := HCO1.out; have h3 := HLN2.out; have h4 := HNP.out; omega)
              have HDGE0 : Hid (rr.2.2 = 0 → 0 ≤ rr.2.1.1 ∧ 0 ≤ rr.2.1.2) := Lib.hid (fun h0 => HDP.out rr.1 rr.2.1 (Prod.ext rfl (Prod.ext rfl h0)))
              have HPQ : Hid (PoolIn u9 ra rr.1 rc ∧ Asc rr.1) := Lib.hid ⟨hpin, hasc⟩
              obtain ⟨nq, hnq⟩ : ∃ nq, nq = rr.1.length := ⟨_, rfl⟩
              rw [← hnq]
              have HNQ0 := Lib.hid hnq
              clear hpat hnq hpin hasc hql HST0 HDP HEB HBB HUA HUB HUC hlook hlook2 e0 e1 e2 e3 f0 f1 f2 f3 HEC HPC
              obtain ⟨Q, ⟨g1, g2⟩, er⟩ := rr
              simp only at HB9 HE9 HAT HCO HDGE0 HPQ HNQ0 HEQ ⊢
              have HNQ : Hid (nq = Q.length) := HNQ0
              have HDGE : Hid (er = 0 → 0 ≤ g1 ∧ 0 ≤ g2) := HDGE0
              clear HNQ0 HDGE0
              have hes : BK wr.heap.size #[.string ⟨nm.toArray⟩, .bool true, .int .u64 0, .int .u64 0] 88 u9 := HE9.out
              obtain ⟨k0, k1, k2, k3⟩ := hes.c4
              obtain ⟨z0, z1, z2, z3⟩ := hes.f4
              obtain ⟨y1, hy1⟩ : ∃ y1, y1 = u9.setCell ⟨wr.heap.size, 2, none⟩ (.int .u64 g1) := ⟨_, rfl⟩
              obtain ⟨y2, hy2⟩ : ∃ y2, y2 = y1.setCell ⟨wr.heap.size, 3, none⟩ (.int .u64 g2) := ⟨_, rfl⟩
              have HEY : Hid (BK wr.heap.size #[.string ⟨nm.toArray⟩, .bool true, .int .u64 g1, .int .u64 0] 88 y1) := Lib.hid (by rw [hy1]; exact hes.set 2 _)
              obtain ⟨m0, m1, m2, m3⟩ := HEY.out.c4
              obtain ⟨n0, n1, n2, n3⟩ := HEY.out.f4
              have HY1 := Lib.hid hy1
              have HY2 := Lib.hid hy2
              rw [hy1] at m0 m1 m2 m3 n0 n1 n2 n3
              by_cases her : er = 0
              · have HEQ2 : Hid (storeF (n + 1) xs l = storeGo (storeF n) l ((namesS l).drop (k + 1)) Q (es ++ [⟨nm, true, (g1, g2)⟩])) := Lib.hid (by rw [HEQ.out]; simp [her])
                have HDG : Hid (0 ≤ g1 ∧ 0 ≤ g2) := Lib.hid (HDGE.out her)
                obtain ⟨v', W2, hrun, hbe, hbo1, hbo2, hst⟩ := HS.out.step HB9.out HE9.out (W0 := uc) (by omega) HPQ.out.1 HPQ.out.2 HAT.out HNM.out.2 HDG.out.1 HDG.out.2 (by omega) HEQ2.out HCO.out
                obtain ⟨va2, vc2, rfl, _⟩ := ownsRow_sliceN hst.ow
                have hle : (es ++ [(⟨nm, true, (g1, g2)⟩ : Ent)]).length = es.length + 1 := by simp
                rw [hle] at hst hrun
                rw [← HY1.out, ← HY2.out] at hrun hbe hbo1
                have hys : y2.heap.size = u9.heap.size := by rw [HY2.out, HY1.out]; simp [World.setCell]
                rw [hys] at hrun
                obtain ⟨j0, j1, j2, j3⟩ := hbe.c4
                unfold obC at hbo1 hbo2
                obtain ⟨o0, o1, o2, o3, o4, o5, o6, o7, o8⟩ := hbo1.c9
                obtain ⟨p0, p1, p2, p3, p4, p5, p6, p7, p8⟩ := hbo2.c9
                have pf := hbo2.frozen 2
                rw [HY2.out, HY1.out] at hrun j0 j1 j2 j3 o0 o1 o2 o3 o4 o5 o6 o7 o8
                have HRUN := Lib.hid hrun.out
                have HST := Lib.hid hst
                subst her
                clear hys hrun hbe hbo1 hbo2 hst hes hy1 hy2 HEY HY1 HY2
                go_wp2_with (at_builtin; refine Lib.wpList_append_run _ rfl _ _ _ _ rfl _ _ rfl rfl _ _ HRUN.out ?_)
                go_roundw
                case rel => exact ⟨k + 1, Q, ra, rc, _, _, nq, by go_num, by omega, rfl, HNQ.out, HST⟩
                case measure => simp [intOf] <;> omega
              · have HEQ2 : Hid (storeF (n + 1) xs l = badR er) := Lib.hid (by rw [HEQ.out]; simp [her])
                have hy3 : Below w.heap.size w y2 := by rw [hy2, hy1]; exact (((HW5.out.trans (HS.out.be.mono (by omega))).trans (HB9.out.mono (by omega))).setCell (by simp; omega) _).setCell (by simp; omega) _
                have hrc : BK w.heap.size #[.int .u64 0, .int .u64 0] 31 y2 := by rw [hy2, hy1]; exact (((HR5.out.below HS.out.be).below HB9.out).other (by omega) _ _).other (by omega) _ _
                obtain ⟨t0, t1⟩ := hrc.c2
                obtain ⟨s0, s1⟩ := hrc.f2
                obtain ⟨y3, hy3e⟩ : ∃ y3, y3 = y2.setCell ⟨w.heap.size, 0, none⟩ (.int .u64 0) := ⟨_, rfl⟩
                have hrc2 : BK w.heap.size #[.int .u64 0, .int .u64 0] 31 y3 := by rw [hy3e]; exact hrc.set 0 _
                obtain ⟨t2, t3⟩ := hrc2.c2
                obtain ⟨s2, s3⟩ := hrc2.f2
                have hrc3 : BK w.heap.size #[.int .u64 0, .int .u64 0] 31 (y3.setCell ⟨w.heap.size, 1, none⟩ (.int .u64 0)) := hrc2.set 1 _
                obtain ⟨t4, t5⟩ := hrc3.c2
                have HFN : Hid (GotSt w a xs (storeF (n + 1) xs l) (.returned (.tuple #[.slice none 0 0, .agg #[.int .u64 0, .int .u64 0], .int .i64 er])) (y3.setCell ⟨w.heap.size, 1, none⟩ (.int .u64 0)) ∧ (storeF (n + 1) xs l).1.length ≤ rA + nl * (n + 1) + 1) := Lib.hid (by
                  rw [HEQ2.out]
                  have hb : Below w.heap.size w (y3.setCell ⟨w.heap.size, 1, none⟩ (.int .u64 0)) := by rw [hy3e]; exact (hy3.setCell (Nat.le_refl _) _).setCell (Nat.le_refl _) _
                  exact ⟨⟨none, 0, rfl, PoolAt.none a xs hb, ⟨Its.nil _ _ _, Nat.zero_le _, by simp [badR], by simp [badR]⟩, asc_nil⟩, Nat.zero_le _⟩)
                rw [hy3e, hy2, hy1] at t2 t3 s2 s3 t4 t5 HFN
                rw [hy2, hy1] at t0 t1 s0 s1
                clear hes hy1 hy2 hy3 hy3e HEY HY1 HY2 hrc hrc2 hrc3 HS HPQ HAT
                go_wp2_with fail
                refine bodyPost_ret (v := .tuple #[.slice none 0 0, .agg #[.int .u64 0, .int .u64 0], .int .i64 er]) (by simp [results, Tryz.results17, go_sem, t4, t5]) rfl ?_
                exact HFN.out
          · have hki : ¬ (k : Int) < (NN : Int) := by omega
            have hdr : (namesS l).drop k = [] := List.drop_of_length_le (by have := HNN.out; omega)
            have HEQ : Hid (storeF (n + 1) xs l = putS P (treeO es)) := Lib.hid (by rw [HS.out.eq, hdr, storeGo])
            have hco := HS.out.co
            rw [hdr] at hco
            have hel : es.length ≤ 200 := by have := HS.out.el; omega
            obtain ⟨ea, ec, rfl, _⟩ := ownsRow_sliceN HS.out.ow
            have HOB : Hid (ObIn wr (treeO es) ea ec none 0) := Lib.hid ⟨ownsRow_ents HS.out.ow, fun i h => by simp [treeO] at h, by simp [treeO], by simp [treeO]; omega, fun e he => by have := (HS.out.en e he).1; omega, fun e he => (HS.out.en e he).2, by simp [treeO], by simp [treeO], by simp [treeO], by simp [treeO], by simp [treeO], by simp [treeO]⟩
            have HPUT := Lib.hid (put_any pa P pc (treeO es) ea ec none 0 wr HS.out.pin HS.out.asc HOB.out)
            rw [← HNP.out] at HPUT
            generalize hrr : putS P (treeO es) = rr at HPUT HEQ
            have HRR := Lib.hid hrr
            have hbo := HS.out.bo
            unfold obC at hbo
            obtain ⟨r0, r1, r2, r3, r4, r5, r6, r7, r8⟩ := hbo.c9
            have hPl : (P.length : Int) + 1 ≤ 100000000 := by have h2 := HLEN.out; simp only [costF, List.map_nil, List.sum_nil] at hco; omega
            have HPL2 : Hid (P.length ≤ xs.length + l.length * (n + 1)) := Lib.hid (by simp only [costF, List.map_nil, List.sum_nil] at hco; omega)
            simp only [treeO, Ob.val, List.length_nil] at HPUT
            clear hrr hbo hco hdr
            go_wp2_with fail
            (with_reducible refine HPUT.out.mono ?_)
            rintro e u9 ⟨ra, rc, rfl, hpat⟩
            have hpp := put_inn (o := treeO es) HS.out.asc HS.out.pin hPl (by rw [HRR.out]; exact hpat)
            rw [HRR.out] at hpp
            have hb9 := hpat.2.2.2
            have hbw : Below w.heap.size w u9 := (HW5.out.trans (HS.out.be.mono (by omega))).trans (hb9.mono (by omega))
            have hrc : BK w.heap.size #[.int .u64 0, .int .u64 0] 31 u9 := (HR5.out.below HS.out.be).below hb9
            have hrne : ∀ ad, ra = some ad → 0 < rr.1.length → ad.block ≠ w.heap.size := by
              intro ad e hq
              rcases hpat.2.2.1 with ⟨h1, h2⟩ | h1
              · rw [h1] at e
                rw [h2] at hq
                rcases HS.out.pat with ⟨h3, h4⟩ | h3
                · rw [h3] at e; rw [h4] at hq; have := its_lt HP.out.its ad e hq; omega
                · have := h3 ad e; omega
              · have := h1 ad e; omega
            have hal : (ra = a ∧ rr.1 = xs) ∨ ∀ ad, ra = some ad → w.heap.size ≤ ad.block := by
              rcases hpat.2.2.1 with ⟨h1, h2⟩ | h1
              · rcases HS.out.pat with ⟨h3, h4⟩ | h3
                · exact .inl ⟨h1.trans h3, h2.trans h4⟩
                · exact .inr (fun ad e => by rw [h1] at e; have := h3 ad e; omega)
              · exact .inr (fun ad e => by have := h1 ad e; omega)
            obtain ⟨nq, hnq⟩ : ∃ nq, nq = rr.1.length := ⟨_, rfl⟩
            obtain ⟨Q, ⟨g1, g2⟩, er⟩ := rr
            simp only at hpp hrne hal hnq hpat
            obtain ⟨y1, hy1⟩ : ∃ y1, y1 = u9.setCell ⟨w.heap.size, 0, none⟩ (.int .u64 g1) := ⟨_, rfl⟩
            obtain ⟨y2, hy2⟩ : ∃ y2, y2 = y1.setCell ⟨w.heap.size, 1, none⟩ (.int .u64 g2) := ⟨_, rfl⟩
            have hrc1 : BK w.heap.size #[.int .u64 g1, .int .u64 0] 31 y1 := by rw [hy1]; exact hrc.set 0 _
            have hrc2 : BK w.heap.size #[.int .u64 g1, .int .u64 g2] 31 y2 := by rw [hy2]; exact hrc1.set 1 _
            have hin : PoolIn y2 ra Q rc := by rw [hy2, hy1]; exact (hpp.1.grown (grownBy_setCellX _ _ _ _) (fun ad e hq e2 => hrne ad e hq (Option.some.inj e2).symm)).grown (grownBy_setCellX _ _ _ _) (fun ad e hq e2 => hrne ad e hq (Option.some.inj e2).symm)
            have hby : Below w.heap.size w y2 := by rw [hy2, hy1]; exact (hbw.setCell (Nat.le_refl _) _).setCell (Nat.le_refl _) _
            have HFN : Hid (GotSt w a xs (storeF (n + 1) xs l) (.returned (.tuple #[.slice ra nq rc, .agg #[.int .u64 g1, .int .u64 g2], .int .i64 er])) y2 ∧ (storeF (n + 1) xs l).1.length ≤ rA + nl * (n + 1) + 1) := Lib.hid (by
              rw [HEQ.out]
              refine ⟨⟨ra, rc, by rw [hnq], ⟨hin.its, hin.cap, hal, hby⟩, hin, hpp.2.1⟩, ?_⟩
              have h1 := hpp.2.2
              have h2 := HPL2.out
              rw [HRA.out, HNL.out]
              show Q.length ≤ _
              omega)
            rw [← hnq]
            obtain ⟨t0, t1⟩ := hrc.c2
            obtain ⟨s0, s1⟩ := hrc.f2
            obtain ⟨t2, t3⟩ := hrc1.c2
            obtain ⟨s2, s3⟩ := hrc1.f2
            obtain ⟨t4, t5⟩ := hrc2.c2
            rw [hy1] at t2 t3 s2 s3
            have HY1 := Lib.hid hy1
            have HY2 := Lib.hid hy2
            clear hy1 hy2 hin hby hnq hal hrne hrc hrc1 hrc2 hbw hb9 hpp hpat HPUT HEQ HRR r0 r1 r2 r3 r4 r5 r6 r7 r8
            go_wp2_with fail
            rw [← HY1.out, ← HY2.out]
            refine bodyPost_ret (v := .tuple #[.slice ra nq rc, .agg #[.int .u64 g1, .int .u64 g2], .int .i64 er]) (by simp [results, Tryz.results17, go_sem, t4, t5]) rfl ?_
            exact HFN.out
end Go.Proofs.YtceacjnhkcikgaaGreatDoor
