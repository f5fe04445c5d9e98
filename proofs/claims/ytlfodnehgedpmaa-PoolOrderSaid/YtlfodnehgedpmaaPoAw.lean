/- The example of the chapter: plain values, and awake. -/
import Derived.Test.YtlfodnehgedpmaaPoRe
namespace Go.Proofs.Ytlfodnehgedpmaa
open Go.RowKit Go.Shelf
set_option linter.unusedVariables false

theorem wrapU_ok (x : Int) : u64B (IntKind.u64.wrap x) := by
  rw [wrap_u64]
  unfold u64B
  omega
theorem bits_ok (op : BinOp) (x y : Int) : u64B (bits op .u64 x y) := by
  unfold bits
  exact wrapU_ok _
theorem fold_ok {f : Int → UInt8 → Int} (hf : ∀ x c, u64B (f x c)) : ∀ (l : List UInt8) (x : Int), u64B x → u64B (l.foldl f x)
  | [], _, h => h
  | c :: l, x, _ => by rw [List.foldl_cons]; exact fold_ok hf l _ (hf x c)
theorem digS_ok (l : List UInt8) : OkD (digS l) := by
  unfold digS
  split
  · exact ⟨⟨by decide, by decide⟩, by decide, by decide⟩
  · exact ⟨fold_ok (fun x c => wrapU_ok _) l _ ⟨by decide, by decide⟩, fold_ok (fun x c => bits_ok _ _ _) l _ ⟨by decide, by decide⟩⟩
theorem digS_ne (l : List UInt8) : digS l ≠ (0, 0) := by
  unfold digS
  split
  · intro h; cases h
  · rename_i h1
    intro h
    simp only [Prod.mk.injEq] at h
    exact h1 h
def ob1 : Ob := ⟨1, [120], [], (0, 0), [], [], 0, []⟩
def blobD : Int × Int := digS [1, 1, 120]
def ob2 : Ob := ⟨2, [], [⟨[97], false, blobD⟩], (0, 0), [], [], 0, []⟩
def tx2 : List UInt8 := bodyO ob2
theorem enc_small (n : Nat) (h : n < 128) : Cw.enc n = [UInt8.ofNat n] := by unfold Cw.enc; exact if_pos h
theorem ob1_enc : encodeS ob1 = ([1, 1, 120], 0) := by decide +kernel
theorem ob1_name : nameS ob1 = (blobD, 0) := by unfold nameS; rw [ob1_enc]; simp [blobD]
theorem ob2_enc : encodeS ob2 = (tx2, 0) := by decide +kernel
theorem blob_ne : blobD ≠ digS tx2 := by decide +kernel
theorem blob_ok : OkD blobD := digS_ok [1, 1, 120]
theorem ent_ok (b : Int × Int) (h : OkD b) : OkD (Ent.mk [97] false b).d := h
theorem ent_nn (b : Int × Int) (h : OkD b) : 0 ≤ (Ent.mk [97] false b).d.1 ∧ 0 ≤ (Ent.mk [97] false b).d.2 := ⟨h.1.1, h.2.1⟩
theorem ent_nm (b : Int × Int) : ((Ent.mk [97] false b).name.length : Int) ≤ 65536 := by simp
theorem ob2_ok : OkO ob2 := ⟨OkD_zero, by simp [ob2], by
  intro e he
  have he2 : e = ⟨[97], false, blobD⟩ := List.mem_singleton.1 he
  rw [he2]
  exact ent_ok blobD blob_ok⟩
theorem ins2 (x : Itm) : insS [] x = ([x], 0) := rfl
theorem put2 : putS [] ob2 = ([⟨digS tx2, tx2⟩], digS tx2, 0) := by
  unfold putS
  rw [ob2_enc]
  simp only [ins2]
  rfl
theorem get2 : getS [⟨digS tx2, tx2⟩] (digS tx2) = (ob2, 0) := by
  have h : posI [⟨digS tx2, tx2⟩] (digS tx2) = 0 := by unfold posI; rw [List.takeWhile_cons_of_neg (by simp [cmpD_self])]; rfl
  unfold getS
  rw [h]
  simp [decode_put ob2_enc ob2_ok]
theorem get1 : getS [⟨digS tx2, tx2⟩] blobD = (obZ, 8) := by
  unfold getS
  split
  · rename_i y hy
    have : y ∈ [(⟨digS tx2, tx2⟩ : Itm)] := List.mem_of_getElem? hy
    rw [List.mem_singleton] at this
    subst this
    rw [if_neg (fun e => blob_ne e.symm)]
  · rfl
theorem links2 : linksS ob2 = [blobD] := by
  unfold linksS
  rw [ob2_enc]
  simp [ob2]
theorem reach2 : reachS [⟨digS tx2, tx2⟩] [digS tx2] = ([digS tx2], [blobD]) := by
  have h : reachF [⟨digS tx2, tx2⟩] (fuelR [⟨digS tx2, tx2⟩] [digS tx2]) [digS tx2] [(0, 0)] [] [] = ([digS tx2], [blobD]) := by
    have hf : fuelR [⟨digS tx2, tx2⟩] [digS tx2] = 1000 + 1 := rfl
    rw [hf]
    have e1 := reachF_hit (xs := [⟨digS tx2, tx2⟩]) (f := 1000) (op := []) (met := [(0, 0)]) (R := []) (M := []) (d := digS tx2) (by simp; exact digS_ne _) (by rw [get2])
    rw [List.nil_append, get2] at e1
    simp only at e1
    rw [e1, links2]
    have e2 : ([] ++ ([blobD].filter fun l => !decide (l ∈ digS tx2 :: [((0 : Int), (0 : Int))]))) = [] ++ [blobD] := by
      have : blobD ∉ digS tx2 :: [((0 : Int), (0 : Int))] := by simp; exact ⟨blob_ne, digS_ne _⟩
      simp only [List.filter_cons, List.filter_nil, decide_eq_false this]
      simp
    rw [e2]
    have e3 := reachF_miss (xs := [⟨digS tx2, tx2⟩]) (f := 999) (op := []) (met := digS tx2 :: [(0, 0)]) (R := [digS tx2]) (M := []) (d := blobD) (by simp; exact ⟨blob_ne, digS_ne _⟩) (by rw [get1]; decide)
    rw [show (1000 : Nat) = 999 + 1 from rfl, e3, reachF_nil]
    rfl
  unfold reachS
  rw [h]
  simp [sortS]
theorem ob1_b : ObB ob1 := ⟨by decide, by simp [ob1], by simp [ob1], by decide, by simp [ob1], by decide, by decide, by decide, by decide⟩
theorem ob2_b : ObB ob2 := ⟨by decide, by
  intro e he
  have he2 : e = ⟨[97], false, blobD⟩ := List.mem_singleton.1 he
  rw [he2]
  exact ent_nm blobD, by
  intro e he
  have he2 : e = ⟨[97], false, blobD⟩ := List.mem_singleton.1 he
  rw [he2]
  exact ent_nn blobD blob_ok, by decide, by simp [ob2], by decide, by decide, by decide, by decide⟩

theorem ents2 {W : World} {b : Nat} (h : BK b #[.string ⟨#[97]⟩, .bool false, .int .u64 blobD.1, .int .u64 blobD.2] 42 W) : Ents W.heap.size W (some ⟨b, 0, none⟩) ob2.ents := by
  intro i hi
  obtain rfl : i = 0 := by simp [ob2] at hi; omega
  exact ⟨b, 0, rfl, h.lt, by rw [h.cell]; rfl, by rw [h.cell]; rfl, by rw [h.cell]; rfl, by rw [h.cell]; rfl⟩
theorem digs1 {W : World} {b : Nat} {d1 d2 : Int} (h : BK b #[.int .u64 d1, .int .u64 d2] 30 W) : Digs W.heap.size W (some ⟨b, 0, none⟩) [(d1, d2)] := by
  intro i hi
  obtain rfl : i = 0 := by simp at hi; omega
  exact ⟨b, 0, rfl, h.lt, by rw [h.cell]; rfl, by rw [h.cell]; rfl⟩

set_option maxRecDepth 100000 in
set_option maxHeartbeats 2000000 in
theorem awake_any (w : World) : Calls Try.prog 4 #[] w fun e w' => e = .returned (.bool true) ∧ Below w.heap.size w w' := by
  have HN : Hid (∀ W, Calls Try.prog 8 #[.agg #[.int .i64 1, .string ⟨#[120]⟩, .slice none 0 0, .int .u64 0, .int .u64 0, .slice none 0 0, .string ⟨#[]⟩, .int .i64 0, .string ⟨#[]⟩]] W fun e w' => e = .returned (.tuple #[.agg #[.int .u64 blobD.1, .int .u64 blobD.2], .int .i64 0]) ∧ Below W.heap.size W w') := Lib.hid (fun W => by
    have := name_any ob1 none 0 none 0 W (ob1_b.inW (Ents.nil _ _ _) (Digs.nil _ _ _) (Nat.le_refl _))
    rw [ob1_name] at this
    exact this)
  have HP : Hid (∀ W b, BK b #[.string ⟨#[97]⟩, .bool false, .int .u64 blobD.1, .int .u64 blobD.2] 42 W → Calls Try.prog 6 #[.slice none 0 0, .agg #[.int .i64 2, .string ⟨#[]⟩, .slice (some ⟨b, 0, none⟩) 1 1, .int .u64 0, .int .u64 0, .slice none 0 0, .string ⟨#[]⟩, .int .i64 0, .string ⟨#[]⟩]] W (GotPut W none [] ([⟨digS tx2, tx2⟩], digS tx2, 0))) := Lib.hid (fun W b hb => by
    have := put_any none [] 0 ob2 (some ⟨b, 0, none⟩) 1 none 0 W ⟨Its.nil _ _ _, Nat.le_refl _, by simp, by simp⟩ (fun i j hi _ _ => by simp at hi) (ob2_b.inW (ents2 hb) (Digs.nil _ _ _) (Nat.le_refl _))
    rw [put2] at this
    exact this)
  have htl : (tx2.length : Int) ≤ 140737488355328 := by
    have := encodeS_len ob2
    rw [ob2_enc] at this
    simp only at this
    omega
  have HRE : Hid (∀ W a c b, Its W.heap.size W a [⟨digS tx2, tx2⟩] → 1 ≤ c → BK b #[.int .u64 (digS tx2).1, .int .u64 (digS tx2).2] 30 W → Calls Try.prog 9 #[.slice a 1 c, .slice (some ⟨b, 0, none⟩) 1 1] W (GotRM W ([digS tx2], [blobD]))) := Lib.hid (fun W a c b h1 h2 h3 => by
    have := reach_any a [⟨digS tx2, tx2⟩] c (some ⟨b, 0, none⟩) [digS tx2] 1 W ⟨h1, h2, by simp, by simp; omega⟩ (fun i j hi hj hij => by simp at hi hj; omega) (digs1 h3) (by simp; exact digS_ok _) (by simp) (by simp)
    rw [reach2] at this
    exact this)
  have HEQ : Hid (∀ W a c b (d : Int × Int), Digs W.heap.size W a [d] → BK b #[.int .u64 d.1, .int .u64 d.2] 30 W → Calls Try.prog 10 #[.slice a 1 c, .slice (some ⟨b, 0, none⟩) 1 1] W fun e w' => e = .returned (.bool true) ∧ Below W.heap.size W w') := Lib.hid (fun W a c b d h1 h2 => by
    have := equalD_any a (some ⟨b, 0, none⟩) [d] [d] c 1 W h1 (digs1 h2) (by simp) (by simp)
    rw [decide_eq_true rfl] at this
    exact this)
  generalize digS tx2 = D at HP HRE
  generalize blobD = B at HN HP HRE
  obtain ⟨D1, D2⟩ := D
  obtain ⟨B1, B2⟩ := B
  generalize tx2 = T at HP HRE htl
  simp only at HN HP HRE
  go_enter Try.func4, Try.ntmps4
  go_wp2_with fail
  have hx := HN.out w
  (with_reducible refine hx.mono ?_)
  clear hx HN
  rintro e w1 ⟨rfl, hb1⟩
  have HB1 := Lib.hid hb1
  have hz1 := hb1.size
  clear hb1
  have HK1 : Hid (BK w1.heap.size #[.int .u64 B1, .int .u64 B2] 30 (w1.alloc (.cells #[.int .u64 B1, .int .u64 B2] 30))) := Lib.hid (BK.new _ _ _)
  go_wp2_with fail
  have hx := HP.out ((w1.alloc (.cells #[.int .u64 B1, .int .u64 B2] 30)).alloc (.cells #[.string ⟨#[97]⟩, .bool false, .int .u64 B1, .int .u64 B2] 42)) (w1.heap.size + 1) (BK.new2 _ _ _ _)
  (with_reducible refine hx.mono ?_)
  clear hx HP
  rintro e w2 ⟨pa, pc, rfl, hpo⟩
  have HB2 : Hid (Below w.heap.size w w2) := Lib.hid (((HB1.out.alloc hz1 _).alloc (by simp; omega) _).trans (hpo.2.2.2.mono (by simp; omega)))
  have HK2 := Lib.hid ((HK1.out.alloc _).below hpo.2.2.2)
  have HI2 := Lib.hid hpo.1
  have hpc := hpo.2.1
  have hz2 := HB2.out.size
  clear hpo HB1 HK1
  simp only [List.length_cons, List.length_nil] at hpc
  have HB3 : Hid (Below w.heap.size w ((w2.alloc (.cells #[.int .u64 D1, .int .u64 D2] 30)).alloc (.cells #[.int .u64 D1, .int .u64 D2] 30))) := Lib.hid ((HB2.out.alloc hz2 _).alloc (by simp; omega) _)
  have hx := HRE.out ((w2.alloc (.cells #[.int .u64 D1, .int .u64 D2] 30)).alloc (.cells #[.int .u64 D1, .int .u64 D2] 30)) pa pc (w2.heap.size + 1) (HI2.out.ahead (((Below.refl _ w2).alloc (Nat.le_refl _) _).alloc (by simp) _)) (by omega) (BK.new2 _ _ _ _)
  have HKD : Hid (BK w2.heap.size #[.int .u64 D1, .int .u64 D2] 30 ((w2.alloc (.cells #[.int .u64 D1, .int .u64 D2] 30)).alloc (.cells #[.int .u64 D1, .int .u64 D2] 30))) := Lib.hid ((BK.new _ _ _).alloc _)
  have HX := Lib.hid hx
  clear hx HRE HI2
  go_wp2_with fail
  have hx := HX.out
  (with_reducible refine hx.mono ?_)
  clear hx HX
  rintro e w3 ⟨ta, tc, ma, mc, rfl, ho1, ho2, hb3⟩
  have HB4 : Hid (Below w.heap.size w w3) := Lib.hid (HB3.out.trans (hb3.mono (by simp; omega)))
  have HKB := Lib.hid (((HK2.out.alloc _).alloc _).below hb3)
  have HKD2 := Lib.hid (HKD.out.below hb3)
  have HD1 : Hid (Digs w3.heap.size w3 ta [(D1, D2)]) := Lib.hid (own_digs rfl ho1)
  have HD2 : Hid (Digs w3.heap.size w3 ma [(B1, B2)]) := Lib.hid (own_digs rfl ho2)
  have hz3 := HB4.out.size
  have c0 : w3.cell? ⟨w2.heap.size, 0, none⟩ = some (.int .u64 D1) := by rw [HKD2.out.cell]; rfl
  have c1 : w3.cell? ⟨w2.heap.size, 1, none⟩ = some (.int .u64 D2) := by rw [HKD2.out.cell]; rfl
  clear ho1 ho2 hb3 HB3 HK2 HKD HB2
  simp only [List.length_cons, List.length_nil]
  go_wp2_with fail
  have hx := HEQ.out (w3.alloc (.cells #[.int .u64 D1, .int .u64 D2] 30)) ta tc w3.heap.size (D1, D2) ((HD1.out.below ((Below.refl _ _).alloc (Nat.le_refl _) _) (Nat.le_refl _)).mono (by simp)) (BK.new _ _ _)
  (with_reducible refine hx.mono ?_)
  clear hx
  rintro e w4 ⟨rfl, hb4⟩
  have hz4 := hb4.size
  simp at hz4
  have HB5 : Hid (Below w.heap.size w w4) := Lib.hid ((HB4.out.alloc hz3 _).trans (hb4.mono (by simp; omega)))
  have HKB4 := Lib.hid ((HKB.out.alloc _).below hb4)
  have HD4 : Hid (Digs w4.heap.size w4 ma [(B1, B2)]) := Lib.hid ((HD2.out.below (((Below.refl _ w3).alloc (Nat.le_refl _) _).trans (hb4.mono (by simp))) (Nat.le_refl _)).mono (by omega))
  have k0 : w4.cell? ⟨w1.heap.size, 0, none⟩ = some (.int .u64 B1) := by rw [HKB4.out.cell]; rfl
  have k1 : w4.cell? ⟨w1.heap.size, 1, none⟩ = some (.int .u64 B2) := by rw [HKB4.out.cell]; rfl
  clear hb4 c0 c1
  go_wp2_with fail
  have hx := HEQ.out (w4.alloc (.cells #[.int .u64 B1, .int .u64 B2] 30)) ma mc w4.heap.size (B1, B2) ((HD4.out.below ((Below.refl _ _).alloc (Nat.le_refl _) _) (Nat.le_refl _)).mono (by simp)) (BK.new _ _ _)
  (with_reducible refine hx.mono ?_)
  clear hx
  rintro e w5 ⟨rfl, hb5⟩
  have HB6 : Hid (Below w.heap.size w w5) := Lib.hid ((HB5.out.alloc HB5.out.size _).trans (hb5.mono (by have := HB5.out.size; simp; omega)))
  clear hb5
  go_wp2_with fail
  go_ret
  exact ⟨rfl, HB6.out⟩

end Go.Proofs.Ytlfodnehgedpmaa
