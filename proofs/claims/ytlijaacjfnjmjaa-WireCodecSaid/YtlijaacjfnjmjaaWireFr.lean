/- Plain laws of frames: what was framed is read again; what is read was framed. -/
import Derived.Test.YtlijaacjfnjmjaaWireEn
import Derived.Test.YtlijaacjfnjmjaaPlainLaw
namespace Go.Proofs.Ytlijaacjfnjmjaa

theorem getT_canon {l x : List UInt8} {k : Int} (h : Cw.getT l = (x, k, 0)) : 1 ≤ k ∧ k ≤ l.length ∧ x.length ≤ 65536 ∧ l.take k.toNat = Cw.enc x.length ++ x := by
  obtain ⟨n, k', er', hI, hc⟩ := getT_cases l
  rcases hc with ⟨he, hr⟩ | ⟨_, _, hr⟩ | ⟨_, _, _, hr⟩ | ⟨he, hn, hl, hr⟩
  · rw [h] at hr; simp only [Prod.mk.injEq] at hr; exact absurd hr.2.2.symm he
  · rw [h] at hr; simp at hr
  · rw [h] at hr; simp at hr
  · subst he
    have hb := getI_bounds hI
    obtain ⟨hn0, hk, ht⟩ := Cw.getI_canon hI
    rw [h] at hr
    simp only [Prod.mk.injEq, and_true] at hr
    obtain ⟨hx, hkk⟩ := hr
    have hxl : x.length = n.toNat := by rw [hx, List.length_take, List.length_drop]; omega
    refine ⟨by omega, by omega, by omega, ?_⟩
    rw [hkk, show (k' + n).toNat = k'.toNat + n.toNat from by omega, List.take_add, ← hx, hxl]
    congr 1
    rw [hk, Int.toNat_natCast]; exact ht
theorem getT_put {x : List UInt8} (h : x.length ≤ 65536) (rest : List UInt8) : Cw.getT ((Cw.enc x.length ++ x) ++ rest) = (x, ((Cw.enc x.length ++ x).length : Int), 0) := by
  have hI := Cw.getI_enc x.length (by omega) (x ++ rest)
  unfold Cw.getT
  rw [List.append_assoc, hI]
  rw [if_neg (by simp), if_neg (by simp; omega), if_neg (by simp; omega)]
  simp only [Int.toNat_natCast]
  rw [List.drop_left, List.take_left]; simp

theorem takeL {a : List UInt8} {n : Nat} (h : a.length = n) (b : List UInt8) : (a ++ b).take n = a := by subst h; rw [List.take_left]
theorem dropL {a : List UInt8} {n : Nat} (h : a.length = n) (b : List UInt8) : (a ++ b).drop n = b := by subst h; rw [List.drop_left]
theorem pow8 (k : Nat) : 2 ^ (8 * k) = 256 ^ k := by rw [Nat.pow_mul]
theorem be_head (k n : Nat) : (((n : Int) / 2 ^ (8 * k)) % 256).toNat = n / 256 ^ k % 256 := by
  have : ((2 : Int) ^ (8 * k)) = ((256 ^ k : Nat) : Int) := by rw [← pow8]; simp
  rw [this]
  omega
theorem fold_be : ∀ (k a n : Nat), (be k (n : Int)).foldl (fun n c => n * 256 + c.toNat) a = a * 256 ^ k + n % 256 ^ k
  | 0, a, n => by simp [be, Nat.mod_one]
  | k + 1, a, n => by
    rw [be, List.foldl_cons, fold_be k, be_head, Cw.toNat_ofNat _ (Nat.mod_lt _ (by decide))]
    rw [Nat.pow_succ, Nat.mod_mul, Nat.add_mul, Nat.mul_assoc, Nat.mul_comm 256, Nat.mul_comm (n / 256 ^ k % 256)]
    omega
theorem fixN_be (k n : Nat) (h : n < 256 ^ k) : fixN (be k n) = n := by
  unfold fixN
  rw [fold_be, Nat.zero_mul, Nat.zero_add, Nat.mod_eq_of_lt h]
theorem fixS_be (d : Int) (h0 : 0 ≤ d) (h1 : d < 18446744073709551616) : fixS (be 8 d) = d := by
  obtain ⟨n, rfl⟩ : ∃ n : Nat, d = (n : Int) := ⟨d.toNat, by omega⟩
  rw [fix_is _ (by rw [be_length]; exact Nat.le_refl _), fixN_be 8 n (by omega)]
theorem fold_split : ∀ (X : List UInt8) (b : Nat), X.foldl (fun n c => n * 256 + c.toNat) b = b * 256 ^ X.length + fixN X
  | [], b => by simp [fixN]
  | c :: X, b => by
    unfold fixN
    rw [List.foldl_cons, List.foldl_cons, fold_split X, fold_split X (0 * 256 + c.toNat), List.length_cons, Nat.pow_succ, Nat.zero_mul, Nat.zero_add, Nat.add_mul, Nat.mul_assoc, Nat.mul_comm 256]
    omega
theorem be_fold : ∀ (X : List UInt8) (b : Nat), be X.length ((X.foldl (fun n c => n * 256 + c.toNat) b : Nat) : Int) = X
  | [], _ => rfl
  | c :: X, b => by
    rw [List.length_cons, be, List.foldl_cons, be_fold X, be_head, fold_split]
    congr 1
    have h1 := fixN_lt X
    have h2 := c.toNat_lt
    rw [Nat.add_comm, Nat.add_mul_div_right _ _ (by exact Nat.pow_pos (by decide)), Nat.div_eq_of_lt h1, Nat.zero_add, Nat.add_comm, Nat.add_mul_mod_self_right, Nat.mod_eq_of_lt (by omega)]
    simp
theorem be_fix (X : List UInt8) (h : X.length = 8) : be 8 (fixS X) = X := by
  rw [fix_is X (by omega)]
  have := be_fold X 0
  rw [h] at this
  exact this
theorem be_fix4 (X : List UInt8) (h : X.length = 4) : be 4 (fixN X : Int) = X := by
  have := be_fold X 0
  rw [h] at this
  exact this
theorem fixS_range (X : List UInt8) (h : X.length ≤ 8) : 0 ≤ fixS X ∧ fixS X < 18446744073709551616 := by
  rw [fix_is X h]
  have h1 := fixN_lt X
  have h2 : 256 ^ X.length ≤ 256 ^ 8 := Nat.pow_le_pow_right (by decide) h
  have h3 : (256 : Nat) ^ 8 = 18446744073709551616 := by decide
  omega

/-- Digests that are pairs of unsigned numbers. -/
def DOk (ds : List (Int × Int)) : Prop := ∀ d ∈ ds, (0 ≤ d.1 ∧ d.1 < 18446744073709551616) ∧ (0 ≤ d.2 ∧ d.2 < 18446744073709551616)
theorem getN_body : ∀ (ns : List Int) (rest : List UInt8), (∀ n ∈ ns, 0 ≤ n ∧ n ≤ 1099511627776) → getN ns.length (bodyN ns ++ rest) = some (ns, rest)
  | [], rest, _ => by simp [getN, bodyN]
  | n :: ns, rest, h => by
    have hn := h n (List.mem_cons_self ..)
    have ih := getN_body ns rest (fun x hx => h x (List.mem_cons_of_mem _ hx))
    have e : bodyN (n :: ns) ++ rest = Cw.enc n.toNat ++ (bodyN ns ++ rest) := by simp [bodyN]
    have hI := Cw.getI_enc n.toNat (by omega) (bodyN ns ++ rest)
    rw [List.length_cons, getN, e, hI]
    simp only [ne_eq, not_true_eq_false, if_false, Int.toNat_natCast, List.drop_left, ih, Option.map_some]
    rw [Int.toNat_of_nonneg hn.1]
theorem getN_canon : ∀ (k : Nat) (l : List UInt8) (ns : List Int) (r : List UInt8), getN k l = some (ns, r) → bodyN ns ++ r = l ∧ ∀ n ∈ ns, 0 ≤ n ∧ n ≤ 1099511627776
  | 0, l, ns, r, h => by
    simp only [getN, Option.some.injEq, Prod.mk.injEq] at h
    obtain ⟨rfl, rfl⟩ := h
    exact ⟨rfl, fun n hn => by simp at hn⟩
  | k + 1, l, ns, r, h => by
    rw [getN] at h
    split at h
    · cases h
    · rename_i he
      obtain ⟨n, u, er, hg⟩ : ∃ n u er, Cw.getI l = (n, u, er) := ⟨_, _, _, rfl⟩
      rw [hg] at h he
      simp only [ne_eq, Decidable.not_not] at he h
      subst he
      have hb := getI_bounds hg
      obtain ⟨h0, hu, ht⟩ := Cw.getI_canon hg
      cases hn : getN k (l.drop u.toNat) with
      | none => rw [hn] at h; cases h
      | some x =>
        obtain ⟨ns', r'⟩ := x
        rw [hn] at h
        simp only [Option.map_some, Option.some.injEq, Prod.mk.injEq] at h
        obtain ⟨rfl, rfl⟩ := h
        obtain ⟨h1, h2⟩ := getN_canon k _ _ _ hn
        refine ⟨?_, fun x hx => ?_⟩
        · have e : bodyN (n :: ns') ++ r' = Cw.enc n.toNat ++ (bodyN ns' ++ r') := by simp [bodyN]
          have hu' : u.toNat = (Cw.enc n.toNat).length := by omega
          rw [e, h1, ← ht, hu', List.take_append_drop]
        · rcases List.mem_cons.1 hx with rfl | hx
          · omega
          · exact h2 x hx
theorem getDs_body : ∀ (ds : List (Int × Int)) (rest : List UInt8), DOk ds → getDs ds.length (bodyD ds ++ rest) = ds
  | [], _, _ => rfl
  | d :: ds, rest, h => by
    have hd := h d (List.mem_cons_self ..)
    have ih := getDs_body ds rest (fun x hx => h x (List.mem_cons_of_mem _ hx))
    have e : bodyD (d :: ds) ++ rest = be 8 d.1 ++ (be 8 d.2 ++ (bodyD ds ++ rest)) := by simp [bodyD]
    have l1 := be_length 8 d.1
    have l2 := be_length 8 d.2
    have t1 : (be 8 d.1 ++ (be 8 d.2 ++ (bodyD ds ++ rest))).take 8 = be 8 d.1 := takeL l1 _
    have t2 : (be 8 d.1 ++ (be 8 d.2 ++ (bodyD ds ++ rest))).drop 8 = be 8 d.2 ++ (bodyD ds ++ rest) := dropL l1 _
    have t3 : (be 8 d.2 ++ (bodyD ds ++ rest)).take 8 = be 8 d.2 := takeL l2 _
    have t4 : (be 8 d.1 ++ (be 8 d.2 ++ (bodyD ds ++ rest))).drop 16 = bodyD ds ++ rest := by
      rw [show (16 : Nat) = 8 + 8 from rfl, ← List.drop_drop, t2, dropL l2]
    rw [List.length_cons, getDs, e, t1, t2, t3, t4, ih, fixS_be _ hd.1.1 hd.1.2, fixS_be _ hd.2.1 hd.2.2]
theorem getDs_canon : ∀ (c : Nat) (r : List UInt8), 16 * c ≤ r.length → bodyD (getDs c r) ++ r.drop (16 * c) = r ∧ DOk (getDs c r)
  | 0, r, _ => by simp [getDs, bodyD, DOk]
  | c + 1, r, h => by
    obtain ⟨h1, h2⟩ := getDs_canon c (r.drop 16) (by rw [List.length_drop]; omega)
    have e : bodyD (getDs (c + 1) r) = be 8 (fixS (r.take 8)) ++ (be 8 (fixS ((r.drop 8).take 8)) ++ bodyD (getDs c (r.drop 16))) := by simp [getDs, bodyD]
    refine ⟨?_, fun d hd => ?_⟩
    · rw [e, be_fix _ (by simp; omega), be_fix _ (by simp; omega), List.append_assoc, List.append_assoc]
      rw [List.drop_drop] at h1
      rw [show 16 * (c + 1) = 16 + 16 * c by omega, h1]
      rw [show r.drop 16 = (r.drop 8).drop 8 by rw [List.drop_drop], List.take_append_drop, List.take_append_drop]
    · rw [getDs] at hd
      rcases List.mem_cons.1 hd with rfl | hd
      · exact ⟨fixS_range _ (by simp; omega), fixS_range _ (by simp; omega)⟩
      · exact h2 d hd

theorem why_zero {m : Msg} (h0 : m.why = 0) : 0 ≤ m.id ∧ m.id ≤ 1099511627776 ∧ vM m.kind m.off m.tot m.ds.length m.data.length = true := by
  unfold Msg.why whyM at h0
  split at h0
  · cases h0
  · split at h0
    · cases h0
    · split at h0
      · cases h0
      · rename_i h1 h2; exact ⟨by omega, by omega, by simpa using h2⟩
theorem why_of {m : Msg} (h0 : 0 ≤ m.id) (h1 : m.id ≤ 1099511627776) (hv : vM m.kind m.off m.tot m.ds.length m.data.length = true) : m.why = 0 := by
  have hb := vM_bounds hv
  unfold Msg.why whyM
  rw [if_neg (by omega), if_neg (by omega), if_neg (by rw [hv]; simp)]

theorem dec_body {m : Msg} (h : m.why = 0) (hd : DOk m.ds) : decS (bodyS m) = some m := by
  obtain ⟨h0, h1, hv⟩ := why_zero h
  have hb := vM_bounds hv
  have hg := getN_body [m.kind, m.id, m.off, m.tot, m.ds.length] (bodyD m.ds ++ (Cw.enc m.data.length ++ m.data)) (by
    intro n hn
    simp only [List.mem_cons, List.not_mem_nil, or_false] at hn
    rcases hn with rfl | rfl | rfl | rfl | rfl <;> omega)
  have hg' : getN 5 (bodyS m) = some ([m.kind, m.id, m.off, m.tot, (m.ds.length : Int)], bodyD m.ds ++ (Cw.enc m.data.length ++ m.data)) := hg
  unfold decS
  rw [hg']
  simp only
  rw [if_neg (by rw [List.length_append, bodyD_length]; omega), Int.toNat_natCast, getDs_body _ _ hd]
  have hdr : (bodyD m.ds ++ (Cw.enc m.data.length ++ m.data)).drop (16 * m.ds.length) = (Cw.enc m.data.length ++ m.data) ++ [] := by
    rw [← bodyD_length, List.drop_left, List.append_nil]
  rw [hdr]
  unfold decT
  rw [getT_put (by omega) [], List.append_nil]
  simp only
  rw [if_neg (by simp), hv, if_pos rfl]
theorem body_dec {T : List UInt8} {m : Msg} (h : decS T = some m) : bodyS m = T ∧ m.why = 0 ∧ DOk m.ds := by
  unfold decS at h
  split at h
  · rename_i kind id off tot c r hg
    obtain ⟨h1, h2⟩ := getN_canon 5 T _ _ hg
    split at h
    · cases h
    · rename_i hc
      have hc0 := h2 c (by simp)
      have hid := h2 id (by simp)
      obtain ⟨cn, rfl⟩ : ∃ cn : Nat, c = (cn : Int) := ⟨c.toNat, by omega⟩
      rw [Int.toNat_natCast] at h
      obtain ⟨h3, h4⟩ := getDs_canon cn r (by omega)
      unfold decT at h
      split at h
      · cases h
      · rename_i hT
        obtain ⟨x, k, er, hx⟩ : ∃ x k er, Cw.getT (r.drop (16 * cn)) = (x, k, er) := ⟨_, _, _, rfl⟩
        rw [hx] at h hT
        simp only [ne_eq, not_or, Decidable.not_not] at h hT
        obtain ⟨rfl, rfl⟩ := hT
        obtain ⟨_, _, _, ht⟩ := getT_canon hx
        rw [Int.toNat_natCast, List.take_length] at ht
        split at h
        · rename_i hv
          cases h
          refine ⟨?_, why_of hid.1 hid.2 hv, h4⟩
          unfold bodyS
          rw [getDs_length]
          show bodyN [kind, id, off, tot, (cn : Int)] ++ (bodyD (getDs cn r) ++ (Cw.enc x.length ++ x)) = T
          rw [← ht, h3, h1]
        · cases h
  · cases h

theorem frameE_length (m : Msg) : (frameE m).length = 12 + (bodyS m).length := by
  unfold frameE
  rw [List.length_append, List.length_append, be_length, be_length]
  omega
theorem frame_parts (m : Msg) (rest : List UInt8) (hl : (bodyS m).length < 4294967296) : fixN ((frameE m ++ rest).take 4) = (bodyS m).length ∧ ((frameE m ++ rest).drop 4).take 8 = be 8 (digS (bodyS m)).1 ∧ ((frameE m ++ rest).drop 12).take (bodyS m).length = bodyS m := by
  have e : frameE m ++ rest = be 4 (bodyS m).length ++ (be 8 (digS (bodyS m)).1 ++ (bodyS m ++ rest)) := by simp [frameE]
  have l1 := be_length 4 (bodyS m).length
  have l2 := be_length 8 (digS (bodyS m)).1
  have t1 : (frameE m ++ rest).take 4 = be 4 (bodyS m).length := by rw [e, takeL l1]
  have t2 : (frameE m ++ rest).drop 4 = be 8 (digS (bodyS m)).1 ++ (bodyS m ++ rest) := by rw [e, dropL l1]
  have t3 : (be 8 (digS (bodyS m)).1 ++ (bodyS m ++ rest)).take 8 = be 8 (digS (bodyS m)).1 := takeL l2 _
  have t4 : (be 8 (digS (bodyS m)).1 ++ (bodyS m ++ rest)).drop 8 = bodyS m ++ rest := dropL l2 _
  refine ⟨by rw [t1, fixN_be 4 _ (by omega)], by rw [t2, t3], ?_⟩
  rw [show (12 : Nat) = 4 + 8 from rfl, ← List.drop_drop, t2, t4, List.take_left]
theorem fold_dig1_lt : ∀ (l : List UInt8) (n : Int), n < 18446744073709551616 → l.foldl dig1 n < 18446744073709551616
  | [], _, h => h
  | c :: l, n, _ => fold_dig1_lt l _ (by unfold dig1; rw [wrap_u64]; omega)
theorem digS_lt (l : List UInt8) : (digS l).1 < 18446744073709551616 := by
  unfold digS
  split
  · decide
  · exact fold_dig1_lt l _ (by decide)
theorem why_body {m : Msg} (h : m.why = 0) : (bodyS m).length ≤ 100000 := by
  have hb := vM_bounds (why_zero h).2.2
  exact bodyS_length m (by omega) (by omega)
/-- What was framed is read again. -/
theorem frame_is {m : Msg} (h : m.why = 0) (hd : DOk m.ds) (rest : List UInt8) : frameS (frameE m ++ rest) = some (m, (frameE m).length) := by
  have hl := why_body h
  obtain ⟨t1, t2, t3⟩ := frame_parts m rest (by omega)
  have hfl := frameE_length m
  unfold frameS
  rw [if_neg (by rw [List.length_append]; omega), t1, if_neg (by rw [List.length_append]; omega), t2, t3, fixS_be _ (digS_pos _) (digS_lt _), if_neg (by simp), dec_body h hd, hfl]
  rfl
/-- What is read was framed. -/
theorem frame_canon {s : List UInt8} {m : Msg} {u : Nat} (h : frameS s = some (m, u)) : s.take u = frameE m ∧ m.why = 0 ∧ DOk m.ds := by
  have hu := frameS_len h
  unfold frameS at h
  split at h
  · cases h
  · split at h
    · cases h
    · split at h
      · cases h
      · rename_i h1 h2 h3
        simp only [ne_eq, Decidable.not_not] at h3
        simp only [Option.map_eq_some_iff, Prod.mk.injEq] at h
        obtain ⟨m', hm, rfl, rfl⟩ := h
        obtain ⟨hb, hw, hd⟩ := body_dec hm
        refine ⟨?_, hw, hd⟩
        have hl : (bodyS m').length = fixN (s.take 4) := by rw [hb, List.length_take, List.length_drop]; omega
        unfold frameE
        rw [hl, be_fix4 _ (by simp; omega), hb, h3, be_fix _ (by simp; omega)]
        rw [show 12 + fixN (s.take 4) = 4 + (8 + fixN (s.take 4)) by omega, List.take_add, List.take_add, List.drop_drop]
theorem scans_stream : ∀ (ms : List Msg), (∀ m ∈ ms, m.why = 0 ∧ DOk m.ds) → Scans (ms.flatMap frameE) ms (ms.flatMap frameE).length
  | [], _ => .stop (by unfold frameS; rw [if_pos (by simp)])
  | m :: ms, h => by
    have hm := h m (List.mem_cons_self ..)
    have ih := scans_stream ms (fun x hx => h x (List.mem_cons_of_mem _ hx))
    rw [List.flatMap_cons, List.length_append]
    refine .step (frame_is hm.1 hm.2 _) ?_
    rw [List.drop_left]
    exact ih
end Go.Proofs.Ytlijaacjfnjmjaa
