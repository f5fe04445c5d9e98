/- wire.Encode. -/
import Derived.Test.YtlijaacjfnjmjaaWireB
namespace Go.Proofs.Ytlijaacjfnjmjaa
open Go.RowKit Go.Shelf
set_option linter.unusedVariables false

theorem u64_pos (n : Int) : 0 ≤ IntKind.u64.wrap n := by rw [wrap_u64]; omega
theorem fold_dig1 : ∀ (l : List UInt8) (n : Int), 0 ≤ n → 0 ≤ l.foldl dig1 n
  | [], _, h => h
  | c :: l, n, _ => fold_dig1 l _ (u64_pos _)
theorem digS_pos (l : List UInt8) : 0 ≤ (digS l).1 := by
  unfold digS
  split
  · decide
  · exact fold_dig1 l _ (by decide)
/-- A frame. -/
def frameE (m : Msg) : List UInt8 := be 4 (bodyS m).length ++ (be 8 (digS (bodyS m)).1 ++ bodyS m)
/-- Why a message can't be framed. -/
def Msg.why (m : Msg) : Int := whyM m.kind m.id m.off m.tot m.ds.length m.data.length
def encS (m : Msg) : List UInt8 × Int := if m.why = 0 then (frameE m, 0) else ([], m.why)
theorem vM_bounds {kind off tot : Int} {nd n : Nat} (h : vM kind off tot nd n = true) : 1 ≤ kind ∧ kind ≤ 4 ∧ 0 ≤ off ∧ off ≤ 1099511627776 ∧ 0 ≤ tot ∧ tot ≤ 1099511627776 ∧ nd ≤ 1000 ∧ n ≤ 65536 := by
  unfold vM v2 at h
  split at h
  · simp at h; omega
  · split at h
    · simp at h; omega
    · split at h
      · simp at h; omega
      · split at h
        · simp at h; omega
        · cases h
theorem bodyS_length (m : Msg) (h1 : m.ds.length ≤ 1000) (h2 : m.data.length ≤ 65536) : (bodyS m).length ≤ 100000 := by
  unfold bodyS
  have := bodyN_length [m.kind, m.id, m.off, m.tot, m.ds.length]
  have h3 := enc_length m.data.length
  rw [List.length_append, List.length_append, List.length_append, bodyD_length]
  simp only [List.length_cons, List.length_nil] at this
  omega

theorem known_any (k : Int) (w : World) : Calls Try.prog 41 #[.int .i64 k] w fun e w' => e = .returned (.bool (decide (1 ≤ k ∧ k ≤ 4))) ∧ w = w' := by
  by_cases h1 : 1 ≤ k
  · by_cases h2 : k ≤ 4
    · have hd : decide (1 ≤ k ∧ k ≤ 4) = true := by simp; omega
      rw [hd]
      have d1 : decide (1 ≤ k) = true := by simpa using h1
      have d2 : decide (k ≤ 4) = true := by simpa using h2
      go_enter Try.func41, Try.ntmps41
      go_wp2_with fail
      go_ret
      exact ⟨rfl, rfl⟩
    · have hd : decide (1 ≤ k ∧ k ≤ 4) = false := by simp; omega
      rw [hd]
      have d1 : decide (1 ≤ k) = true := by simpa using h1
      have d2 : decide (k ≤ 4) = false := by simpa using h2
      go_enter Try.func41, Try.ntmps41
      go_wp2_with fail
      go_ret
      exact ⟨rfl, rfl⟩
  · have hd : decide (1 ≤ k ∧ k ≤ 4) = false := by simp; omega
    rw [hd]
    have d1 : decide (1 ≤ k) = false := by simpa using h1
    go_enter Try.func41, Try.ntmps41
    go_wp2_with fail
    go_ret
    exact ⟨rfl, rfl⟩

set_option maxRecDepth 100000 in
set_option maxHeartbeats 2000000 in
theorem encode_any (m : Msg) (a : Option Addr) (cd : Nat) (w : World) (hd : Digs w.heap.size w a m.ds) (hdn : ∀ d ∈ m.ds, 0 ≤ d.1 ∧ 0 ≤ d.2) (hn : (m.ds.length : Int) ≤ 140737488355328) (hT : (m.data.length : Int) ≤ 140737488355328) :
    Calls Try.prog 27 #[m.val a cd] w fun e w' => e = .returned (.tuple #[.string ⟨(encS m).1.toArray⟩, .int .i64 (encS m).2]) ∧ Below w.heap.size w w' := by
  obtain ⟨R, E, hR⟩ : ∃ R E, encS m = (R, E) := ⟨_, _, rfl⟩
  rw [hR]
  have hV := fun W (h0 : 0 ≤ m.id) (h1 : m.id ≤ 1099511627776) (h2 : 1 ≤ m.kind) (h3 : m.kind ≤ 4) => wvalid_any m.kind m.id m.off m.tot a m.ds.length cd m.data W hT hn h0 h1 h2 h3
  have hBd : Hid (m.why = 0 → 0 ≤ m.id → m.id ≤ 1099511627776 → ∀ W, Below w.heap.size w W → Calls Try.prog 42 #[m.val a cd] W fun e w' => e = .returned (.string ⟨(bodyS m).toArray⟩) ∧ Below W.heap.size W w') := Lib.hid (by
    intro h0 h1 h2 W hW
    have hv : vM m.kind m.off m.tot m.ds.length m.data.length = true := by
      unfold Msg.why whyM at h0
      split at h0
      · cases h0
      · split at h0
        · cases h0
        · split at h0
          · cases h0
          · rename_i h; simpa using h
    have hb := vM_bounds hv
    exact body_any m a cd W ((hd.below hW (Nat.le_refl _)).mono hW.size) hdn (by omega) (by omega) h1 h2 (by omega) (by omega) (by omega) (by omega) (by omega) (by omega))
  obtain ⟨bs, hbs⟩ : ∃ bs, bs = bodyS m := ⟨_, rfl⟩
  have hbl : m.why = 0 → bs.length ≤ 100000 := by
    intro h0
    rw [hbs]
    have hv : vM m.kind m.off m.tot m.ds.length m.data.length = true := by
      unfold Msg.why whyM at h0
      split at h0
      · cases h0
      · split at h0
        · cases h0
        · split at h0
          · cases h0
          · rename_i h; simpa using h
    have hb := vM_bounds hv
    exact bodyS_length m (by omega) (by omega)
  rw [← hbs] at hBd
  have hR2 : encS m = if m.why = 0 then (be 4 bs.length ++ (be 8 (digS bs).1 ++ bs), 0) else ([], m.why) := by rw [hbs]; rfl
  have hwhy : m.why = if m.kind < 1 ∨ 4 < m.kind then 9 else if m.id < 0 ∨ 1099511627776 < m.id then 2 else if vM m.kind m.off m.tot m.ds.length m.data.length = false then 1 else 0 := rfl
  rw [hR] at hR2
  obtain ⟨kind, id, off, tot, ds, T⟩ := m
  obtain ⟨y, hy⟩ : ∃ y, y = Msg.why ⟨kind, id, off, tot, ds, T⟩ := ⟨_, rfl⟩
  rw [← hy] at hBd hbl hR2 hwhy
  simp only at hn hT hV hBd hwhy ⊢
  obtain ⟨nd, hnd⟩ : ∃ nd, nd = ds.length := ⟨_, rfl⟩
  change Calls Try.prog 27 #[.agg #[.int .i64 kind, .int .i64 id, .int .i64 off, .int .i64 tot, .slice a ds.length cd, .string ⟨T.toArray⟩]] w _
  have HBd : Hid (y = 0 → 0 ≤ id → id ≤ 1099511627776 → ∀ W, Below w.heap.size w W → Calls Try.prog 42 #[.agg #[.int .i64 kind, .int .i64 id, .int .i64 off, .int .i64 tot, .slice a ds.length cd, .string ⟨T.toArray⟩]] W fun e w' => e = .returned (.string ⟨bs.toArray⟩) ∧ Below W.heap.size W w') := hBd
  rw [← hnd] at HBd hV hwhy hn ⊢
  have HV := Lib.hid hV
  generalize hvv : vM kind off tot nd T.length = vv at HV hwhy
  have HOf := Lib.hid (fun W => of_any bs W)
  have hp8 := digS_pos bs
  generalize digS bs = dg at HOf hR2 hp8
  obtain ⟨d1, d2⟩ := dg
  simp only at HOf hR2 hp8
  clear hR hbs hy hnd hd hdn hV hBd hvv
  by_cases hk : kind < 1 ∨ 4 < kind
  · rw [if_pos hk] at hwhy
    subst hwhy
    have HR : Hid (R = [] ∧ E = 9) := Lib.hid (by simpa using hR2)
    have hkd : decide (1 ≤ kind ∧ kind ≤ 4) = false := by simp; omega
    have HKn := Lib.hid (fun W => known_any kind W)
    rw [hkd] at HKn
    clear hR2 hkd hbl HBd
    go_enter Try.func27, Try.ntmps27
    go_wp2_with fail
    refine (HKn.out _).mono ?_
    rintro e w' ⟨rfl, rfl⟩
    go_wp2_with fail
    go_ret2
    rw [HR.out.1, HR.out.2]
    exact ⟨rfl, (Below.refl _ w).alloc (Nat.le_refl _) _⟩
  · rw [if_neg hk] at hwhy
    have hkd : decide (1 ≤ kind ∧ kind ≤ 4) = true := by simp; omega
    have HKn := Lib.hid (fun W => known_any kind W)
    rw [hkd] at HKn
    clear hkd
    by_cases hi : id < 0 ∨ 1099511627776 < id
    · rw [if_pos hi] at hwhy
      subst hwhy
      have HR : Hid (R = [] ∧ E = 2) := Lib.hid (by simpa using hR2)
      clear hR2 hbl HBd hk
      go_enter Try.func27, Try.ntmps27
      go_wp2_with fail
      refine (HKn.out _).mono ?_
      rintro e w' ⟨rfl, rfl⟩
      go_wp2_with fail
      all_goals first
        | (exfalso; omega)
        | (go_ret2; rw [HR.out.1, HR.out.2]; exact ⟨rfl, (Below.refl _ w).alloc (Nat.le_refl _) _⟩)
    · rw [if_neg hi] at hwhy
      have i1 : decide (id < 0) = false := by simp; omega
      have i2 : decide (1099511627776 < id) = false := by simp; omega
      have HV2 := Lib.hid (fun W => HV.out W (by omega) (by omega) (by omega) (by omega))
      clear HV
      cases vv with
      | false =>
        rw [if_pos rfl] at hwhy
        subst hwhy
        have HR : Hid (R = [] ∧ E = 1) := Lib.hid (by simpa using hR2)
        clear hR2 hbl HBd hk hi
        go_enter Try.func27, Try.ntmps27
        go_wp2_with fail
        refine (HKn.out _).mono ?_
        rintro e w' ⟨rfl, rfl⟩
        go_wp2_with fail
        refine (HV2.out _).mono ?_
        rintro e w' ⟨rfl, hb⟩
        have HB := Lib.hid hb
        clear hb
        go_wp2_with fail
        go_ret2
        rw [HR.out.1, HR.out.2]
        exact ⟨rfl, ((Below.refl _ w).alloc (Nat.le_refl _) _).trans (HB.out.mono (by simp))⟩
      | true =>
        rw [if_neg (by simp)] at hwhy
        subst hwhy
        rw [if_pos rfl] at hR2
        have hbl2 := hbl rfl
        have HBd2 := Lib.hid (HBd.out rfl (by omega) (by omega))
        have HR : Hid (R = be 4 bs.length ++ (be 8 d1 ++ bs) ∧ E = 0) := Lib.hid (by simpa using hR2)
        have hwl : IntKind.u64.wrap (bs.length : Int) = (bs.length : Int) := by rw [wrap_u64]; omega
        have hix : ∀ W, (Instr.index 72 (.agg #[.int .u64 d1, .int .u64 d2]) (.int .i64 0)).run Try.prog W = .ok (.int .u64 d1) W := fun W => by kernel_rfl
        clear hR2 hbl HBd hk hi
        go_enter Try.func27, Try.ntmps27
        go_wp2_with fail
        refine (HKn.out _).mono ?_
        rintro e w' ⟨rfl, rfl⟩
        go_wp2_with fail
        refine (HV2.out _).mono ?_
        rintro e x1 ⟨rfl, hb⟩
        have HB : Hid (Below w.heap.size w x1) := Lib.hid (((Below.refl _ w).alloc (Nat.le_refl _) _).trans (hb.mono (by simp)))
        have hx1 := hb.size
        have hbox := hb.block w.heap.size (by simp)
        have hbox2 := World.alloc_heap_new w (.cells #[.int .i64 kind, .int .i64 id, .int .i64 off, .int .i64 tot, .slice a nd cd, .string ⟨T.toArray⟩] 34)
        rw [hbox2] at hbox
        have c0 : x1.cell? ⟨w.heap.size, 0, none⟩ = some (.int .i64 kind) := by rw [Lib.cell_of_heap hbox]; rfl
        have c1 : x1.cell? ⟨w.heap.size, 1, none⟩ = some (.int .i64 id) := by rw [Lib.cell_of_heap hbox]; rfl
        have c2 : x1.cell? ⟨w.heap.size, 2, none⟩ = some (.int .i64 off) := by rw [Lib.cell_of_heap hbox]; rfl
        have c3 : x1.cell? ⟨w.heap.size, 3, none⟩ = some (.int .i64 tot) := by rw [Lib.cell_of_heap hbox]; rfl
        have c4 : x1.cell? ⟨w.heap.size, 4, none⟩ = some (.slice a nd cd) := by rw [Lib.cell_of_heap hbox]; rfl
        have c5 : x1.cell? ⟨w.heap.size, 5, none⟩ = some (.string ⟨T.toArray⟩) := by rw [Lib.cell_of_heap hbox]; rfl
        clear hb hbox hbox2
        go_wp2_with fail
        refine (HBd2.out _ HB.out).mono ?_
        rintro e x2 ⟨rfl, hb⟩
        have HB2 : Hid (Below w.heap.size w x2) := Lib.hid (HB.out.trans (hb.mono HB.out.size))
        have hx2 := HB2.out.size
        clear hb HB c0 c1 c2 c3 c4 c5
        go_wp2_with fail
        refine (writer_any _ _).mono ?_
        rintro e x3 ⟨rfl, rfl⟩
        obtain ⟨w0, hw0⟩ : ∃ w0, w0 = (x2.alloc (.cells #[.pointer none, .slice none 0 0] 80)).alloc (.cells #[.pointer (some ⟨x2.heap.size, 0, none⟩)] 78) := ⟨_, rfl⟩
        have HBW : Hid (BW w w0 x2.heap.size [] w0) := Lib.hid (by
          rw [hw0]
          refine ⟨fresh_at hx2 ?_, (HB2.out.alloc hx2 _).alloc (by simp; omega) _, Lib.OthersKept.refl _ _ _⟩
          rw [Below.heap_alloc _ _ _ (by simp)]
          exact World.alloc_heap_new _ _)
        have HP : Hid (w0.heap[x2.heap.size + 1]? = some (.cells #[.pointer (some ⟨x2.heap.size, 0, none⟩)] 78 (0, 0))) := Lib.hid (by
          rw [hw0]
          have := World.alloc_heap_new (x2.alloc (.cells #[.pointer none, .slice none 0 0] 80)) (.cells #[.pointer (some ⟨x2.heap.size, 0, none⟩)] 78)
          rwa [World.size_alloc] at this)
        rw [World.size_alloc, ← hw0]
        clear hw0
        go_wp2_with fail
        refine (writer1_bw (k := 4) HBW.out bs.length (by omega) (by omega) (by simp) HP.out (by omega)).mono ?_
        rintro e x3 ⟨rfl, HB3, _⟩
        rw [List.nil_append] at HB3
        go_wp2_with fail
        refine (HOf.out _ (by omega)).mono ?_
        rintro e x4 ⟨rfl, hb4⟩
        have HB4 := Lib.hid (HB3.out.below hb4)
        have HP4 := Lib.hid (HB4.out.block HP.out (by omega) (by decide))
        clear hb4 HB3
        go_wp2_with fail
        refine (writer1_bw (k := 8) HB4.out d1 (by omega) hp8 (by simp [be_length]) HP4.out (by omega)).mono ?_
        rintro e x5 ⟨rfl, HB5, _⟩
        go_wp2_with fail
        refine (writeStr_bw HB5.out bs (by simp [be_length]; omega)).mono ?_
        rintro e x6 ⟨rfl, HB6⟩
        rw [List.append_assoc, ← HR.out.1] at HB6
        go_wp2_with fail
        refine (bldString_k w.heap.size x2.heap.size R x6 HB6.out.bld ?_).mono ?_
        · rw [HR.out.1]
          intro h0
          have h2 := congrArg List.length h0
          simp [be_length] at h2
        rintro e x7 ⟨rfl, _, hb7, _⟩
        go_wp2_with fail
        go_ret2
        rw [HR.out.2]
        exact ⟨rfl, HB6.out.bel.trans hb7⟩

end Go.Proofs.Ytlijaacjfnjmjaa
