/- object.Encode. -/
import Derived.Test.YtlfodnehgedpmaaObWd
namespace Go.Proofs.Ytlfodnehgedpmaa
open Go.RowKit Go.Shelf
set_option linter.unusedVariables false

theorem bytes_back (l : List UInt8) : (l.map fun c => (c.toNat : Int)).map (fun c => UInt8.ofNat c.toNat) = l := by
  rw [List.map_map]
  conv => rhs; rw [← List.map_id l]
  apply List.map_congr_left
  intro c _
  simp
theorem fold_push : ∀ (ns : List Int) (r : ByteArray), (ns.foldl (fun r n => r.push (UInt8.ofNat n.toNat)) r).data.toList = r.data.toList ++ ns.map fun c => UInt8.ofNat c.toNat
  | [], r => by simp
  | n :: ns, r => by
    rw [List.foldl_cons, fold_push ns, List.map_cons]
    simp [ByteArray.push]
theorem conv_row {W : World} {B : Nat} {v : Value} {l : List UInt8} (h : W.ownsRow B 5 1 v l.length (Lib.byteCells l)) (h0 : l ≠ []) : (convert 61 9 v).run Try.prog W = .ok (.string ⟨l.toArray⟩) W := by
  obtain ⟨g, cap, rfl, _, _⟩ := h.form (List.length_pos_iff.2 h0)
  rw [run_convert_bytes_string W 61 9 5 (some ⟨g, 0, none⟩) l.length cap Try.underlying61 Try.underlying5 Try.underlying9]
  have e : Lib.byteCells l = (l.map fun c => (c.toNat : Int)).map (Value.int .u8) := by simp [Lib.byteCells]
  have hl := run_loadCells_list (P := Try.prog) W ⟨g, 0, none⟩ ((l.map fun c => (c.toNat : Int)).map (Value.int .u8)) (fun j u hj => h.cells (g := g) rfl j u (by rw [e]; exact hj))
  rw [List.length_map, List.length_map] at hl
  rw [run_bytesToString W ⟨g, 0, none⟩ l.length cap (l.map fun c => (c.toNat : Int)) hl]
  congr 2
  refine ba_eq ?_
  rw [fold_push, bytes_back]
  rfl

theorem bodyO_ne (o : Ob) : bodyO o ≠ [] := by
  unfold bodyO
  intro h
  have := List.append_eq_nil_iff.1 h
  exact enc_ne _ this.1
theorem entX_take (es : List Ent) (k : Nat) (h : k < es.length) : (es.take (k + 1)).flatMap entX = (es.take k).flatMap entX ++ entX es[k] := by
  rw [List.take_succ_eq_append_getElem h, List.flatMap_append]
  simp
theorem beD_take (ds : List (Int × Int)) (k : Nat) (h : k < ds.length) : (ds.take (k + 1)).flatMap beD = (ds.take k).flatMap beD ++ beD ds[k] := by
  rw [List.take_succ_eq_append_getElem h, List.flatMap_append]
  simp
theorem entX_length (e : Ent) (h : e.name.length ≤ 24) : (entX e).length ≤ 60 := by
  have h1 := enc_length e.name.length
  have h2 := enc_length (dirN e.dir)
  rw [entX, putX, List.length_append, List.length_append, List.length_append, beD_length]
  omega
theorem entXs_length : ∀ (es : List Ent), (∀ e ∈ es, e.name.length ≤ 24) → (es.flatMap entX).length ≤ 60 * es.length
  | [], _ => by simp
  | e :: es, h => by
    have h1 := entX_length e (h e (List.mem_cons_self ..))
    have h2 := entXs_length es (fun x hx => h x (List.mem_cons_of_mem _ hx))
    rw [List.flatMap_cons, List.length_append, List.length_cons]
    omega
theorem beDs_length : ∀ (ds : List (Int × Int)), (ds.flatMap beD).length = 16 * ds.length
  | [] => rfl
  | d :: ds => by
    rw [List.flatMap_cons, List.length_append, beD_length, beDs_length ds, List.length_cons]
    omega

/-- What an object's value needs. -/
structure ObIn (w : World) (o : Ob) (ea : Option Addr) (ec : Nat) (pa : Option Addr) (pc : Nat) : Prop where
  ents : Ents w.heap.size w ea o.ents
  pars : Digs w.heap.size w pa o.pars
  pcap : o.pars.length ≤ pc
  elen : (o.ents.length : Int) ≤ 9223372036854775807
  enam : ∀ e ∈ o.ents, (e.name.length : Int) ≤ 9223372036854775807
  edig : ∀ e ∈ o.ents, 0 ≤ e.d.1 ∧ 0 ≤ e.d.2
  plen : (o.pars.length : Int) ≤ 9223372036854775807
  pdig : ∀ d ∈ o.pars, 0 ≤ d.1 ∧ 0 ≤ d.2
  tdig : 0 ≤ o.tree.1 ∧ 0 ≤ o.tree.2
  dlen : (o.data.length : Int) ≤ 9223372036854775807
  alen : (o.author.length : Int) ≤ 9223372036854775807
  mlen : (o.msg.length : Int) ≤ 9223372036854775807
theorem ObIn.below {w W : World} {o : Ob} {ea : Option Addr} {ec : Nat} {pa : Option Addr} {pc : Nat} (h : ObIn w o ea ec pa pc) (hW : Below w.heap.size w W) : ObIn W o ea ec pa pc :=
  ⟨(h.ents.below hW (Nat.le_refl _)).mono hW.size, (h.pars.below hW (Nat.le_refl _)).mono hW.size, h.pcap, h.elen, h.enam, h.edig, h.plen, h.pdig, h.tdig, h.dlen, h.alen, h.mlen⟩
theorem check2 {o : Ob} (h : checkS o = 0) (hk : o.kind = 2) : o.ents.length ≤ 200 ∧ ∀ e ∈ o.ents, nameB e.name = true := by
  unfold checkS at h
  rw [if_neg (by omega), if_pos hk] at h
  split at h
  · cases h
  · unfold entsE at h
    split at h
    · cases h
    · exact ⟨by omega, entGo_name h⟩
theorem check3 {o : Ob} (h : checkS o = 0) (hk : o.kind = 3) : commitE o = 0 := by
  unfold checkS at h
  rw [if_neg (by omega), if_neg (by omega), if_pos hk] at h
  split at h
  · cases h
  · exact h
theorem commitE_zero {o : Ob} (h : commitE o = 0) : o.pars.length ≤ 8 ∧ nameB o.author = true ∧ 0 ≤ o.time ∧ o.time ≤ 1099511627776 ∧ o.msg.length ≤ 200 := by
  unfold commitE at h
  split at h
  · cases h
  · split at h
    · cases h
    · split at h
      · rename_i h1; exact absurd h h1
      · split at h
        · cases h
        · split at h
          · cases h
          · split at h
            · cases h
            · rename_i h1 h2 h3 h4 h5
              exact ⟨by omega, by simpa using h3, by omega, by omega, by omega⟩

set_option maxRecDepth 100000 in
set_option maxHeartbeats 4000000 in
theorem encode_any (o : Ob) (ea : Option Addr) (ec : Nat) (pa : Option Addr) (pc : Nat) (w : World) (h : ObIn w o ea ec pa pc) :
    Calls Try.prog 11 #[o.val ea ec pa pc] w fun e w' => e = .returned (.tuple #[.string ⟨(encodeS o).1.toArray⟩, .int .i64 (encodeS o).2]) ∧ Below w.heap.size w w' := by
  obtain ⟨R, E, hRE⟩ : ∃ R E, encodeS o = (R, E) := ⟨_, _, rfl⟩
  rw [hRE]
  have HC : Hid (∀ W, Below w.heap.size w W → Calls Try.prog 19 #[o.val ea ec pa pc] W fun e w' => e = .returned (.int .i64 (checkS o)) ∧ Below W.heap.size W w') := Lib.hid (fun W hW => by
    have h2 := h.below hW
    have := h2.elen
    have := h2.plen
    have := h2.dlen
    exact check_any o ea ec pa pc W h2.ents h2.pars h2.pcap (by omega) h2.enam (by omega) (by omega) h2.alen h2.mlen)
  obtain ⟨BO, hBO⟩ : ∃ BO, BO = bodyO o := ⟨_, rfl⟩
  have HBN : Hid (BO ≠ []) := Lib.hid (by rw [hBO]; exact bodyO_ne o)
  have hR2 : (R, E) = if checkS o ≠ 0 then ([], checkS o) else if 65536 < BO.length then ([], 4) else (BO, 0) := by rw [← hRE, hBO]; rfl
  obtain ⟨y, hy⟩ : ∃ y, y = checkS o := ⟨_, rfl⟩
  rw [← hy] at HC hR2
  have HBO := Lib.hid hBO
  have HIN := Lib.hid h
  have HY := Lib.hid hy
  clear hRE hBO h hy
  obtain ⟨kind, data, ents, ⟨t1, t2⟩, pars, author, time, msg⟩ := o
  obtain ⟨ne, hne⟩ : ∃ ne, ne = ents.length := ⟨_, rfl⟩
  obtain ⟨n, hn⟩ : ∃ n, n = pars.length := ⟨_, rfl⟩
  change Hid (∀ W, Below w.heap.size w W → Calls Try.prog 19 #[.agg #[.int .i64 kind, .string ⟨data.toArray⟩, .slice ea ents.length ec, .int .u64 t1, .int .u64 t2, .slice pa pars.length pc, .string ⟨author.toArray⟩, .int .i64 time, .string ⟨msg.toArray⟩]] W fun e w' => e = .returned (.int .i64 y) ∧ Below W.heap.size W w') at HC
  change Calls Try.prog 11 #[.agg #[.int .i64 kind, .string ⟨data.toArray⟩, .slice ea ents.length ec, .int .u64 t1, .int .u64 t2, .slice pa pars.length pc, .string ⟨author.toArray⟩, .int .i64 time, .string ⟨msg.toArray⟩]] w _
  rw [← hne, ← hn] at HC ⊢
  have HNE := Lib.hid hne
  have HNN := Lib.hid hn
  clear hne hn
  by_cases hy0 : y = 0
  · subst hy0
    rw [if_neg (by simp)] at hR2
    have HRE := Lib.hid hR2
    clear hR2
    have HB0 : Hid (Below w.heap.size w (w.alloc (.cells #[.int .i64 kind, .string ⟨data.toArray⟩, .slice ea ne ec, .int .u64 t1, .int .u64 t2, .slice pa n pc, .string ⟨author.toArray⟩, .int .i64 time, .string ⟨msg.toArray⟩] 33))) := Lib.hid ((Below.refl _ w).alloc (Nat.le_refl _) _)
    have hkd := checkS_kind HY.out.symm
    simp only at hkd
    have hdl := HIN.out.dlen
    simp only at hdl
    go_enter Try.func11, Try.ntmps11
    go_wp2_with fail
    refine (HC.out _ HB0.out).mono ?_
    rintro e x1 ⟨rfl, hb1⟩
    have hbox := hb1.block w.heap.size (by simp)
    rw [World.alloc_heap_new w _] at hbox
    have HBX := Lib.hid hbox
    have HB1 := Lib.hid (HB0.out.trans (hb1.mono HB0.out.size))
    have hx1 : w.heap.size < x1.heap.size := (Array.getElem?_eq_some_iff.1 hbox).1
    have c0 : x1.cell? ⟨w.heap.size, 0, none⟩ = some (.int .i64 kind) := by rw [Lib.cell_of_heap hbox]; rfl
    have c0' := fun z => cell_a1 c0 z
    clear hb1 hbox HB0 HC
    go_wp2_with fail
    obtain ⟨w0, hw0⟩ : ∃ w0, w0 = x1.alloc (.cells #[.slice none 0 0, .bool false] 63) := ⟨_, rfl⟩
    have HWR0 : Hid (WR w w0 x1.heap.size [] false w0) := Lib.hid (by
      rw [hw0]
      exact ⟨⟨.slice none 0 0, World.alloc_heap_new _ _, World.ownsRow_nil _ _ _ _, by simp [Value.ownBlock]⟩, HB1.out.alloc HB1.out.size _, Lib.OthersKept.refl _ _ _, HB1.out.size⟩)
    have HBX0 : Hid (w0.heap[w.heap.size]? = some (.cells #[.int .i64 kind, .string ⟨data.toArray⟩, .slice ea ne ec, .int .u64 t1, .int .u64 t2, .slice pa n pc, .string ⟨author.toArray⟩, .int .i64 time, .string ⟨msg.toArray⟩] 33 (0, 0))) := Lib.hid (by rw [hw0, Below.heap_alloc _ _ _ hx1]; exact HBX.out)
    rw [← hw0]
    clear hw0 c0 c0' HBX
    refine (wnumber_any HWR0.out kind (by omega) (by omega) (by simp)).mono ?_
    rintro e x2 ⟨rfl, HWR2, _⟩
    rw [List.nil_append] at HWR2
    have hbx2 := HWR2.out.block HBX0.out (by omega) (by decide)
    have d0 : x2.cell? ⟨w.heap.size, 0, none⟩ = some (.int .i64 kind) := by rw [Lib.cell_of_heap hbx2]; rfl
    have d1 : x2.cell? ⟨w.heap.size, 1, none⟩ = some (.string ⟨data.toArray⟩) := by rw [Lib.cell_of_heap hbx2]; rfl
    have d2 : x2.cell? ⟨w.heap.size, 2, none⟩ = some (.slice ea ne ec) := by rw [Lib.cell_of_heap hbx2]; rfl
    have d3 : x2.cell? ⟨w.heap.size, 3, none⟩ = some (.int .u64 t1) := by rw [Lib.cell_of_heap hbx2]; rfl
    have d4 : x2.cell? ⟨w.heap.size, 4, none⟩ = some (.int .u64 t2) := by rw [Lib.cell_of_heap hbx2]; rfl
    have hel := enc_length kind.toNat
    clear hbx2
    by_cases hk2 : kind = 2
    · subst hk2
      obtain ⟨hn200, hnames⟩ := check2 HY.out.symm rfl
      have HNM := Lib.hid hnames
      simp only at hn200
      rw [← HNE.out] at hn200
      have HBE : Hid (BO = (Cw.enc 2 ++ Cw.enc ne) ++ ents.flatMap entX) := Lib.hid (by rw [HBO.out]; unfold bodyO; rw [if_pos rfl, HNE.out, List.append_assoc]; rfl)
      have hPl := enc_length ne
      clear hnames hkd
      go_wp2_with fail
      refine (wnumber_any HWR2.out (ne : Int) (by omega) (by omega) (by omega)).mono ?_
      rintro e x3 ⟨rfl, HWR3, _⟩
      rw [Int.toNat_natCast] at HWR3
      obtain ⟨P2, hP2⟩ : ∃ P2, P2 = Cw.enc 2 ++ Cw.enc ne := ⟨_, rfl⟩
      have hP2l : P2.length ≤ 20 := by rw [hP2, List.length_append]; have := enc_length 2; omega
      have HWR3' : Hid (WR w w0 x1.heap.size P2 false x3) := Lib.hid (by rw [hP2]; exact HWR3.out)
      rw [← hP2] at HBE
      have hbx3 := HWR3.out.block HBX0.out (by omega) (by decide)
      have e2 : x3.cell? ⟨w.heap.size, 2, none⟩ = some (.slice ea ne ec) := by rw [Lib.cell_of_heap hbx3]; rfl
      clear hbx3 d0 d1 d2 d3 d4 HWR3 hP2 HWR2
      go_wp2_with fail
      go_loopw [39] (fun i wr => ∃ k : Nat, k ≤ ne ∧ i = .int .i64 k ∧ Hid (WR w w0 x1.heap.size (P2 ++ (ents.take k).flatMap entX) false wr)) (fun i _ => ne - (intOf i).toNat)
      case atStart => exact ⟨0, by omega, rfl, Lib.hid (by simpa using HWR3'.out)⟩
      case round =>
        obtain ⟨k, hk, rfl, HWK⟩ := hrel
        by_cases hlt : k < ne
        · have h1 : k < ents.length := by rw [← HNE.out]; exact hlt
          obtain ⟨b0, o0, rfl, hb0, g0, g1, g2, g3⟩ := (HIN.out.ents.below HWK.out.bel (Nat.le_refl _)) k h1
          simp only at g0 g1 g2 g3
          have HT := Lib.hid (entX_take ents k h1)
          have hnm := nameB_length (HNM.out _ (List.getElem_mem h1))
          have hdg := HIN.out.edig _ (List.getElem_mem h1)
          have hLl : ((P2 ++ (ents.take k).flatMap entX).length : Int) ≤ 100000 := by
            rw [List.length_append]
            have := entXs_length (ents.take k) (fun e he => (nameB_length (HNM.out e (List.mem_of_mem_take he))).2)
            rw [List.length_take] at this
            omega
          generalize ents[k] = en at g0 g1 g2 g3 HT hnm hdg
          obtain ⟨nm, dir, q1, q2⟩ := en
          simp only at g0 g1 g2 g3 hnm hdg
          have HT2 : Hid (P2 ++ (ents.take (k + 1)).flatMap entX = (((P2 ++ (ents.take k).flatMap entX) ++ putX nm) ++ Cw.enc (dirN dir)) ++ beD (q1, q2)) := Lib.hid (by rw [HT.out]; simp [entX])
          generalize P2 ++ (ents.take k).flatMap entX = LK at HWK hLl HT2
          have hbw : x1.heap.size < wr.heap.size := by
            obtain ⟨v, hv, _⟩ := HWK.out.cell
            exact (Array.getElem?_eq_some_iff.1 hv).1
          clear HT
          go_wp2_with fail
          have HWA := Lib.hid (HWK.out.below ((Below.refl _ wr).alloc (Nat.le_refl _) (.cells #[.string ⟨nm.toArray⟩, .bool dir, .int .u64 q1, .int .u64 q2] 42)))
          have HEB := Lib.hid (World.alloc_heap_new wr (.cells #[.string ⟨nm.toArray⟩, .bool dir, .int .u64 q1, .int .u64 q2] 42))
          generalize wr.alloc (.cells #[.string ⟨nm.toArray⟩, .bool dir, .int .u64 q1, .int .u64 q2] 42) = wa at HWA HEB ⊢
          refine (wstring_any HWA.out nm (by omega) (by omega)).mono ?_
          rintro e x4 ⟨rfl, HW4, HK4⟩
          have hb4 := HK4.out _ _ HEB.out (fun e => by have := Option.some.inj e; omega) (fun c f e => by cases e)
          have HE4 := Lib.hid hb4
          have r1 : x4.cell? ⟨wr.heap.size, 1, none⟩ = some (.bool dir) := by rw [Lib.cell_of_heap hb4]; rfl
          clear hb4 HWA HEB HK4 g0 g1 g2 g3
          have hpx : (putX nm).length ≤ 40 := by have := enc_length nm.length; rw [putX, List.length_append]; omega
          have hL4 : ((LK ++ putX nm).length : Int) ≤ 200000 := by rw [List.length_append]; omega
          cases dir with
          | true =>
            go_wp2_with fail
            refine (wnumber_any HW4.out 1 (by omega) (by omega) (by omega)).mono ?_
            rintro e x5 ⟨rfl, HW5, HK5⟩
            have hb5 := HK5.out _ _ HE4.out (fun e => by have := Option.some.inj e; omega) (fun c f e => by cases e)
            have s2 : x5.cell? ⟨wr.heap.size, 2, none⟩ = some (.int .u64 q1) := by rw [Lib.cell_of_heap hb5]; rfl
            have s3 : x5.cell? ⟨wr.heap.size, 3, none⟩ = some (.int .u64 q2) := by rw [Lib.cell_of_heap hb5]; rfl
            clear hb5 HK5 HE4 r1 HW4
            have hen := enc_length 1
            have HW5' : Hid (WR w w0 x1.heap.size ((LK ++ putX nm) ++ Cw.enc (dirN true)) false x5) := HW5
            go_wp2_with fail
            refine (wdigest_any HW5'.out q1 q2 hdg.1 hdg.2 (by rw [List.length_append]; have := enc_length (dirN true); omega)).mono ?_
            rintro e x6 ⟨rfl, HW6, _⟩
            rw [← HT2.out] at HW6
            clear s2 s3 HW5 HW5'
            go_wp2_with fail
            go_roundw
            case rel => exact ⟨k + 1, by omega, by go_num, HW6⟩
            case measure => simp [intOf]; omega
          | false =>
            go_wp2_with fail
            refine (wnumber_any HW4.out 0 (by omega) (by omega) (by omega)).mono ?_
            rintro e x5 ⟨rfl, HW5, HK5⟩
            have hb5 := HK5.out _ _ HE4.out (fun e => by have := Option.some.inj e; omega) (fun c f e => by cases e)
            have s2 : x5.cell? ⟨wr.heap.size, 2, none⟩ = some (.int .u64 q1) := by rw [Lib.cell_of_heap hb5]; rfl
            have s3 : x5.cell? ⟨wr.heap.size, 3, none⟩ = some (.int .u64 q2) := by rw [Lib.cell_of_heap hb5]; rfl
            clear hb5 HK5 HE4 r1 HW4
            have hen := enc_length 0
            have HW5' : Hid (WR w w0 x1.heap.size ((LK ++ putX nm) ++ Cw.enc (dirN false)) false x5) := HW5
            go_wp2_with fail
            refine (wdigest_any HW5'.out q1 q2 hdg.1 hdg.2 (by rw [List.length_append]; have := enc_length (dirN false); omega)).mono ?_
            rintro e x6 ⟨rfl, HW6, _⟩
            rw [← HT2.out] at HW6
            clear s2 s3 HW5 HW5'
            go_wp2_with fail
            go_roundw
            case rel => exact ⟨k + 1, by omega, by go_num, HW6⟩
            case measure => simp [intOf]; omega
        · have HBF : Hid (P2 ++ (ents.take k).flatMap entX = BO) := Lib.hid (by rw [HBE.out, List.take_of_length_le (by rw [← HNE.out]; omega)])
          rw [HBF.out] at HWK
          clear HBF e2
          obtain ⟨v, hv, hown, hne⟩ := HWK.out.cell
          have HOw := Lib.hid hown
          have c0 : wr.cell? ⟨x1.heap.size, 0, none⟩ = some v := by rw [Lib.cell_of_heap hv]; rfl
          have c1 : wr.cell? ⟨x1.heap.size, 1, none⟩ = some (.bool false) := by rw [Lib.cell_of_heap hv]; rfl
          obtain ⟨g, cap, rfl, _, _⟩ := hown.form (List.length_pos_iff.2 HBN.out)
          have HBf := Lib.hid HWK.out.bel
          clear hv hown hne
          by_cases h65 : (65536 : Int) < BO.length
          · have HF : Hid (R = [] ∧ E = 4) := Lib.hid (by have := HRE.out; rw [if_pos (by omega)] at this; simpa using this)
            clear HRE
            go_wp2_with fail
            go_ret2
            rw [HF.out.1, HF.out.2]
            exact ⟨rfl, HBf.out⟩
          · have HF : Hid (R = BO ∧ E = 0) := Lib.hid (by have := HRE.out; rw [if_neg (by omega)] at this; simpa using this)
            have hcv := conv_row HOw.out HBN.out
            clear HRE
            go_wp2_with fail
            go_ret2
            rw [HF.out.1, HF.out.2]
            exact ⟨rfl, HBf.out⟩
    · by_cases hk3 : kind = 3
      · subst hk3
        obtain ⟨hn8, hnma, ht0, ht1, hml⟩ := commitE_zero (check3 HY.out.symm rfl)
        have hal := nameB_length hnma
        simp only at hn8 ht0 ht1 hml hal
        rw [← HNN.out] at hn8
        have hw1 := HIN.out.tdig
        simp only at hw1
        have HBE : Hid (BO = ((((Cw.enc 3 ++ beD (t1, t2)) ++ Cw.enc n) ++ pars.flatMap beD) ++ putX author) ++ Cw.enc time.toNat ++ putX msg) := Lib.hid (by rw [HBO.out]; unfold bodyO; rw [if_neg (by simp), if_pos rfl, HNN.out]; simp)
        have hPl := enc_length n
        have hTl := enc_length time.toNat
        have hAl : (putX author).length ≤ 40 := by have := enc_length author.length; rw [putX, List.length_append]; omega
        have hbd := beD_length (t1, t2)
        clear hk2 hkd hnma
        go_wp2_with fail
        refine (wdigest_any HWR2.out t1 t2 hw1.1 hw1.2 (by omega)).mono ?_
        rintro e x3 ⟨rfl, HWR3, _⟩
        have hbx3 := HWR3.out.block HBX0.out (by omega) (by decide)
        have e5 : x3.cell? ⟨w.heap.size, 5, none⟩ = some (.slice pa n pc) := by rw [Lib.cell_of_heap hbx3]; rfl
        clear hbx3 d0 d1 d2 d3 d4 HWR2
        have hen3 := enc_length 3
        have hl3 : ((Cw.enc (3 : Int).toNat ++ beD (t1, t2)).length : Int) ≤ 100 := by rw [List.length_append, hbd]; show (((Cw.enc 3).length + 16 : Nat) : Int) ≤ 100; omega
        go_wp2_with fail
        refine (wnumber_any HWR3.out (n : Int) (by omega) (by omega) (by omega)).mono ?_
        rintro e x4 ⟨rfl, HWR4, _⟩
        rw [Int.toNat_natCast] at HWR4
        obtain ⟨P2, hP2⟩ : ∃ P2, P2 = (Cw.enc 3 ++ beD (t1, t2)) ++ Cw.enc n := ⟨_, rfl⟩
        have hP2l : P2.length ≤ 50 := by rw [hP2, List.length_append, List.length_append]; omega
        have HWR4' : Hid (WR w w0 x1.heap.size P2 false x4) := Lib.hid (by rw [hP2]; exact HWR4.out)
        rw [← hP2] at HBE
        have hbx4 := HWR4.out.block HBX0.out (by omega) (by decide)
        have e5 : x4.cell? ⟨w.heap.size, 5, none⟩ = some (.slice pa n pc) := by rw [Lib.cell_of_heap hbx4]; rfl
        clear hbx4 HWR4 hP2 HWR3 hl3 hbd hen3
        go_wp2_with fail
        go_loopw [64] (fun i wr => ∃ k : Nat, k ≤ n ∧ i = .int .i64 k ∧ Hid (WR w w0 x1.heap.size (P2 ++ (pars.take k).flatMap beD) false wr)) (fun i _ => n - (intOf i).toNat)
        case atStart => exact ⟨0, by omega, rfl, Lib.hid (by simpa using HWR4'.out)⟩
        case round =>
          obtain ⟨k, hk, rfl, HWK⟩ := hrel
          by_cases hlt : k < n
          · have h1 : k < pars.length := by rw [← HNN.out]; exact hlt
            obtain ⟨b0, o0, rfl, hb0, g0, g1⟩ := (HIN.out.pars.below HWK.out.bel (Nat.le_refl _)) k h1
            simp only at g0 g1
            have HT := Lib.hid (beD_take pars k h1)
            have hdg := HIN.out.pdig _ (List.getElem_mem h1)
            have hLl : ((P2 ++ (pars.take k).flatMap beD).length : Int) ≤ 100000 := by
              rw [List.length_append, beDs_length, List.length_take]
              omega
            generalize pars[k] = dk at g0 g1 HT hdg
            obtain ⟨q1, q2⟩ := dk
            simp only at g0 g1 hdg
            have HT2 : Hid (P2 ++ (pars.take (k + 1)).flatMap beD = (P2 ++ (pars.take k).flatMap beD) ++ beD (q1, q2)) := Lib.hid (by rw [HT.out]; simp)
            generalize P2 ++ (pars.take k).flatMap beD = LK at HWK hLl HT2
            clear HT
            go_wp2_with fail
            have HWA := Lib.hid (HWK.out.below ((Below.refl _ wr).alloc (Nat.le_refl _) (.cells #[.int .u64 q1, .int .u64 q2] 30)))
            refine (wdigest_any HWA.out q1 q2 hdg.1 hdg.2 (by omega)).mono ?_
            rintro e x6 ⟨rfl, HW6, _⟩
            rw [← HT2.out] at HW6
            clear HWA g0 g1
            go_wp2_with fail
            go_roundw
            case rel => exact ⟨k + 1, by omega, by go_num, HW6⟩
            case measure => simp [intOf]; omega
          · obtain ⟨P3, hP3⟩ : ∃ P3, P3 = P2 ++ pars.flatMap beD := ⟨_, rfl⟩
            have HBF : Hid (P2 ++ (pars.take k).flatMap beD = P3) := Lib.hid (by rw [hP3, List.take_of_length_le (by rw [← HNN.out]; omega)])
            have hP3l : P3.length ≤ 200 := by rw [hP3, List.length_append, beDs_length, ← HNN.out]; omega
            rw [HBF.out] at HWK
            rw [← hP3] at HBE
            have hbk := HWK.out.block HBX0.out (by omega) (by decide)
            have f6 : wr.cell? ⟨w.heap.size, 6, none⟩ = some (.string ⟨author.toArray⟩) := by rw [Lib.cell_of_heap hbk]; rfl
            clear HBF e5 hP3 hbk
            go_wp2_with fail
            refine (wstring_any HWK.out author (by omega) (by omega)).mono ?_
            rintro e x6 ⟨rfl, HW6, _⟩
            have hbk := HW6.out.block HBX0.out (by omega) (by decide)
            have f7 : x6.cell? ⟨w.heap.size, 7, none⟩ = some (.int .i64 time) := by rw [Lib.cell_of_heap hbk]; rfl
            clear hbk f6 HWK
            go_wp2_with fail
            refine (wnumber_any HW6.out time ht0 ht1 (by rw [List.length_append]; omega)).mono ?_
            rintro e x7 ⟨rfl, HW7, _⟩
            have hbk := HW7.out.block HBX0.out (by omega) (by decide)
            have f8 : x7.cell? ⟨w.heap.size, 8, none⟩ = some (.string ⟨msg.toArray⟩) := by rw [Lib.cell_of_heap hbk]; rfl
            clear hbk f7 HW6
            go_wp2_with fail
            refine (wstring_any HW7.out msg (by omega) (by rw [List.length_append, List.length_append]; omega)).mono ?_
            rintro e x8 ⟨rfl, HW8, _⟩
            rw [← HBE.out] at HW8
            clear f8 HW7
            obtain ⟨v, hv, hown, hne⟩ := HW8.out.cell
            have HOw := Lib.hid hown
            have c0 : x8.cell? ⟨x1.heap.size, 0, none⟩ = some v := by rw [Lib.cell_of_heap hv]; rfl
            have c1 : x8.cell? ⟨x1.heap.size, 1, none⟩ = some (.bool false) := by rw [Lib.cell_of_heap hv]; rfl
            obtain ⟨g, cap, rfl, _, _⟩ := hown.form (List.length_pos_iff.2 HBN.out)
            have HBf := Lib.hid HW8.out.bel
            clear hv hown hne
            by_cases h65 : (65536 : Int) < BO.length
            · have HF : Hid (R = [] ∧ E = 4) := Lib.hid (by have := HRE.out; rw [if_pos (by omega)] at this; simpa using this)
              clear HRE
              go_wp2_with fail
              go_ret2
              rw [HF.out.1, HF.out.2]
              exact ⟨rfl, HBf.out⟩
            · have HF : Hid (R = BO ∧ E = 0) := Lib.hid (by have := HRE.out; rw [if_neg (by omega)] at this; simpa using this)
              have hcv := conv_row HOw.out HBN.out
              clear HRE
              go_wp2_with fail
              go_ret2
              rw [HF.out.1, HF.out.2]
              exact ⟨rfl, HBf.out⟩
      · have HBE : Hid (BO = Cw.enc kind.toNat ++ putX data) := Lib.hid (by rw [HBO.out]; unfold bodyO; rw [if_neg hk2, if_neg hk3])
        have hkk : kind = 1 ∨ kind = 4 := by omega
        clear hk2 hk3 hkd
        by_cases hbig : data.length ≤ 65536
        · rcases hkk with rfl | rfl
          all_goals
            go_wp2_with fail
            refine (wstring_any HWR2.out data hbig (by omega)).mono ?_
            rintro e x3 ⟨rfl, HWR3, _⟩
            rw [← HBE.out] at HWR3
            clear d0 d1 d2 d3 d4
            obtain ⟨v, hv, hown, hne⟩ := HWR3.out.cell
            have HOw := Lib.hid hown
            have c0 : x3.cell? ⟨x1.heap.size, 0, none⟩ = some v := by rw [Lib.cell_of_heap hv]; rfl
            have c1 : x3.cell? ⟨x1.heap.size, 1, none⟩ = some (.bool false) := by rw [Lib.cell_of_heap hv]; rfl
            obtain ⟨g, cap, rfl, _, _⟩ := hown.form (List.length_pos_iff.2 HBN.out)
            have HBf := Lib.hid HWR3.out.bel
            clear hv hown hne
            by_cases h65 : (65536 : Int) < BO.length
            · have HF : Hid (R = [] ∧ E = 4) := Lib.hid (by have := HRE.out; rw [if_pos (by omega)] at this; simpa using this)
              clear HRE
              go_wp2_with fail
              go_ret2
              rw [HF.out.1, HF.out.2]
              exact ⟨rfl, HBf.out⟩
            · have HF : Hid (R = BO ∧ E = 0) := Lib.hid (by have := HRE.out; rw [if_neg (by omega)] at this; simpa using this)
              have hcv := conv_row HOw.out HBN.out
              clear HRE
              go_wp2_with fail
              go_ret2
              rw [HF.out.1, HF.out.2]
              exact ⟨rfl, HBf.out⟩
        · have HF : Hid (R = [] ∧ E = 4) := Lib.hid (by
            have := HRE.out
            rw [if_pos (by rw [HBE.out, List.length_append, putX, List.length_append]; omega)] at this
            simpa using this)
          clear HRE HBE
          rcases hkk with rfl | rfl
          all_goals
            go_wp2_with fail
            refine (wstring_big HWR2.out data (by omega) hdl (by omega)).mono ?_
            rintro e x3 ⟨rfl, HWR3⟩
            clear d0 d1 d2 d3 d4
            obtain ⟨v, hv, hown, hne⟩ := HWR3.out.cell
            have c0 : x3.cell? ⟨x1.heap.size, 0, none⟩ = some v := by rw [Lib.cell_of_heap hv]; rfl
            have c1 : x3.cell? ⟨x1.heap.size, 1, none⟩ = some (.bool true) := by rw [Lib.cell_of_heap hv]; rfl
            have HBf := Lib.hid HWR3.out.bel
            clear hv hown hne
            go_wp2_with fail
            go_ret2
            rw [HF.out.1, HF.out.2]
            exact ⟨rfl, HBf.out⟩
  · have HF : Hid (R = [] ∧ E = y) := Lib.hid (by rw [if_pos hy0] at hR2; simpa using hR2)
    have hyn : (y != 0) = true := by simpa using hy0
    clear hy0 hR2 HIN HY HBO
    go_enter Try.func11, Try.ntmps11
    go_wp2_with fail
    refine (HC.out _ ((Below.refl _ w).alloc (Nat.le_refl _) _)).mono ?_
    rintro e x1 ⟨rfl, hb1⟩
    have HB1 := Lib.hid hb1
    clear hb1
    go_wp2_with fail
    go_ret2
    rw [HF.out.1, HF.out.2]
    exact ⟨rfl, ((Below.refl _ w).alloc (Nat.le_refl _) _).trans (HB1.out.mono (by simp))⟩

end Go.Proofs.Ytlfodnehgedpmaa
