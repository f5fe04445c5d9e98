/- Reading an object: the plain law. What is read is what was encoded, and the other way round. -/
import Derived.Test.YtlfodnehgedpmaaObRp
import Derived.Test.YtlfodnehgedpmaaPLaw
namespace Go.Proofs.Ytlfodnehgedpmaa

def u64B (x : Int) : Prop := 0 ≤ x ∧ x < 18446744073709551616
def OkD (d : Int × Int) : Prop := u64B d.1 ∧ u64B d.2
def OkO (o : Ob) : Prop := OkD o.tree ∧ (∀ d ∈ o.pars, OkD d) ∧ ∀ e ∈ o.ents, OkD e.d

theorem rNum_good {l l' : List UInt8} {b : Bool} {n : Int} (h : rNum (l, b) = (n, (l', false))) : b = false ∧ l = Cw.enc n.toNat ++ l' ∧ 0 ≤ n ∧ n ≤ 1099511627776 := by
  obtain ⟨m, u, er, hg⟩ : ∃ m u er, Cw.getI l = (m, u, er) := ⟨_, _, _, rfl⟩
  unfold rNum at h
  simp only [hg, Prod.mk.injEq, Bool.or_eq_false_iff, bne_eq_false_iff_eq] at h
  obtain ⟨rfl, rfl, rfl, rfl⟩ := h
  have hb := getI_bounds hg
  obtain ⟨h0, hk, ht⟩ := Cw.getI_canon hg
  refine ⟨rfl, ?_, h0, hb.2.1⟩
  rw [hk, Int.toNat_natCast]
  conv => lhs; rw [← List.take_append_drop (Cw.enc m.toNat).length l]
  rw [ht]
theorem rNum_enc {n : Nat} (h : n ≤ 1099511627776) (l : List UInt8) : rNum (Cw.enc n ++ l, false) = ((n : Int), (l, false)) := by
  unfold rNum
  rw [Cw.getI_enc n h l]
  simp
theorem rStr_good {l l' : List UInt8} {b : Bool} {x : List UInt8} (h : rStr (l, b) = (x, (l', false))) : b = false ∧ l = putX x ++ l' ∧ x.length ≤ 65536 := by
  obtain ⟨m, u, er, hg⟩ : ∃ m u er, Cw.getT l = (m, u, er) := ⟨_, _, _, rfl⟩
  unfold rStr at h
  simp only [hg, Prod.mk.injEq, Bool.or_eq_false_iff, bne_eq_false_iff_eq] at h
  obtain ⟨rfl, rfl, rfl, rfl⟩ := h
  obtain ⟨h0, hk, hx, ht⟩ := getT_canon hg
  refine ⟨rfl, ?_, hx⟩
  unfold putX
  conv => lhs; rw [← List.take_append_drop u.toNat l]
  rw [ht]
theorem rStr_put {x : List UInt8} (h : x.length ≤ 65536) (l : List UInt8) : rStr (putX x ++ l, false) = (x, (l, false)) := by
  unfold rStr putX
  rw [getT_put h l]
  simp only [Int.toNat_natCast, List.drop_left]
  simp
theorem rDig_good {l l' : List UInt8} {b : Bool} {d : Int × Int} (h : rDig (l, b) = (d, (l', false))) : b = false ∧ l = beD d ++ l' ∧ OkD d := by
  unfold rDig at h
  simp only at h
  split at h
  · simp at h
  · rename_i hl
    simp only [Prod.mk.injEq] at h
    obtain ⟨rfl, rfl, rfl⟩ := h
    have h1 : (l.take 8).length = 8 := by rw [List.length_take]; omega
    have h2 : ((l.drop 8).take 8).length = 8 := by rw [List.length_take, List.length_drop]; omega
    refine ⟨rfl, ?_, fixS_range _ (by omega), fixS_range _ (by omega)⟩
    unfold beD
    simp only
    rw [be_fix _ h1, be_fix _ h2, show l.drop 16 = (l.drop 8).drop 8 by rw [List.drop_drop], List.append_assoc, List.take_append_drop, List.take_append_drop]
theorem rDig_be {d : Int × Int} (h : OkD d) (l : List UInt8) : rDig (beD d ++ l, false) = (d, (l, false)) := by
  obtain ⟨d1, d2⟩ := d
  unfold rDig
  have h1 : (be 8 d1).length = 8 := be_length 8 d1
  have h2 : (be 8 d2).length = 8 := be_length 8 d2
  have hl := beD_length (d1, d2)
  rw [if_neg (by simp only [List.length_append, hl]; omega)]
  have e1 : (beD (d1, d2) ++ l).take 8 = be 8 d1 := by unfold beD; rw [List.append_assoc]; exact takeL h1 _
  have e2 : (beD (d1, d2) ++ l).drop 8 = be 8 d2 ++ l := by unfold beD; rw [List.append_assoc]; exact dropL h1 _
  have e3 : (beD (d1, d2) ++ l).drop 16 = l := dropL hl _
  simp only [e1, e2, e3, takeL h2]
  rw [fixS_be d1 h.1.1 h.1.2, fixS_be d2 h.2.1 h.2.2]
theorem rEnt_good {l l' : List UInt8} {b : Bool} {e : Ent} (h : rEnt (l, b) = (e, (l', false))) : b = false ∧ l = entX e ++ l' ∧ OkD e.d := by
  unfold rEnt at h
  obtain ⟨s, l1, b1, hs⟩ : ∃ s l1 b1, rStr (l, b) = (s, (l1, b1)) := ⟨_, _, _, rfl⟩
  obtain ⟨n, l2, b2, hn⟩ : ∃ n l2 b2, rNum (l1, b1) = (n, (l2, b2)) := ⟨_, _, _, rfl⟩
  simp only [hs, hn] at h
  obtain ⟨d, l3, b3, hd⟩ : ∃ d l3 b3, rDig (l2, b2 || decide (1 < n)) = (d, (l3, b3)) := ⟨_, _, _, rfl⟩
  simp only [hd, Prod.mk.injEq] at h
  obtain ⟨rfl, rfl, rfl⟩ := h
  obtain ⟨hb, rfl, ho⟩ := rDig_good hd
  simp only [Bool.or_eq_false_iff, decide_eq_false_iff_not] at hb
  obtain ⟨rfl, hn1⟩ := hb
  obtain ⟨rfl, rfl, h0, _⟩ := rNum_good hn
  obtain ⟨rfl, rfl, _⟩ := rStr_good hs
  refine ⟨rfl, ?_, ho⟩
  have : dirN (n == 1) = n.toNat := by
    unfold dirN
    by_cases h1 : n = 1
    · subst h1; rfl
    · have : n = 0 := by omega
      subst this; rfl
  simp [entX, this, List.append_assoc]
theorem rEnt_put {e : Ent} (hn : e.name.length ≤ 65536) (h : OkD e.d) (l : List UInt8) : rEnt (entX e ++ l, false) = (e, (l, false)) := by
  obtain ⟨nm, dir, d⟩ := e
  unfold rEnt entX
  simp only at hn h ⊢
  rw [List.append_assoc, rStr_put hn]
  simp only
  rw [List.append_assoc, rNum_enc (by cases dir <;> simp [dirN])]
  simp only
  have e1 : (false || decide (1 < ((dirN dir : Nat) : Int))) = false := by cases dir <;> simp [dirN]
  have e2 : (((dirN dir : Nat) : Int) == 1) = dir := by cases dir <;> rfl
  rw [e1, rDig_be h, e2]
theorem rList_good {α : Type} {get : RS → α × RS} {enc : α → List UInt8} {ok : α → Prop} (hg : ∀ {l l' : List UInt8} {b : Bool} {x : α}, get (l, b) = (x, (l', false)) → b = false ∧ l = enc x ++ l' ∧ ok x) :
    ∀ (n : Nat) {l l' : List UInt8} {b : Bool} {xs : List α}, rList get n (l, b) = (xs, (l', false)) → b = false ∧ l = xs.flatMap enc ++ l' ∧ xs.length = n ∧ ∀ x ∈ xs, ok x
  | 0, l, l', b, xs, h => by
    simp only [rList, Prod.mk.injEq] at h
    obtain ⟨rfl, rfl, rfl⟩ := h
    simp
  | n + 1, l, l', b, xs, h => by
    rw [rList] at h
    cases b with
    | true => simp at h
    | false =>
      simp only [Bool.false_eq_true, if_false] at h
      obtain ⟨x, l1, b1, hx⟩ : ∃ x l1 b1, get (l, false) = (x, (l1, b1)) := ⟨_, _, _, rfl⟩
      obtain ⟨ys, l2, b2, hy⟩ : ∃ ys l2 b2, rList get n (l1, b1) = (ys, (l2, b2)) := ⟨_, _, _, rfl⟩
      simp only [hx, hy, Prod.mk.injEq] at h
      obtain ⟨rfl, rfl, rfl⟩ := h
      obtain ⟨rfl, rfl, h3, h4⟩ := rList_good hg n hy
      obtain ⟨_, rfl, h5⟩ := hg hx
      refine ⟨rfl, by simp, by simp [h3], fun y hy => ?_⟩
      rcases List.mem_cons.1 hy with rfl | hy
      · exact h5
      · exact h4 y hy
theorem rList_put {α : Type} {get : RS → α × RS} {enc : α → List UInt8} : ∀ (xs : List α) (l : List UInt8), (∀ x ∈ xs, ∀ l', get (enc x ++ l', false) = (x, (l', false))) → rList get xs.length (xs.flatMap enc ++ l, false) = (xs, (l, false))
  | [], l, _ => by simp [rList]
  | x :: xs, l, hg => by
    rw [List.length_cons, rList, if_neg (by simp), List.flatMap_cons, List.append_assoc, hg x (by simp)]
    simp only
    rw [rList_put xs l (fun y hy => hg y (by simp [hy]))]
theorem rMany_good {α : Type} {get : RS → α × RS} {enc : α → List UInt8} {ok : α → Prop} (hg : ∀ {l l' : List UInt8} {b : Bool} {x : α}, get (l, b) = (x, (l', false)) → b = false ∧ l = enc x ++ l' ∧ ok x)
    {most : Int} {l l' : List UInt8} {b : Bool} {xs : List α} (h : rMany get most (l, b) = (xs, (l', false))) : b = false ∧ l = Cw.enc xs.length ++ (xs.flatMap enc ++ l') ∧ (xs.length : Int) ≤ most ∧ ∀ x ∈ xs, ok x := by
  unfold rMany rMost at h
  obtain ⟨n, l1, b1, hn⟩ : ∃ n l1 b1, rNum (l, b) = (n, (l1, b1)) := ⟨_, _, _, rfl⟩
  simp only [hn] at h
  obtain ⟨hb, rfl, hl, ho⟩ := rList_good hg _ h
  simp only [Bool.or_eq_false_iff, decide_eq_false_iff_not] at hb
  obtain ⟨rfl, hm⟩ := hb
  obtain ⟨rfl, rfl, h0, _⟩ := rNum_good hn
  exact ⟨rfl, by rw [hl], by omega, ho⟩
theorem rMany_put {α : Type} {get : RS → α × RS} {enc : α → List UInt8} {most : Int} (xs : List α) (l : List UInt8) (hm : (xs.length : Int) ≤ most) (hm2 : most ≤ 1000000) (hg : ∀ x ∈ xs, ∀ l', get (enc x ++ l', false) = (x, (l', false))) :
    rMany get most (Cw.enc xs.length ++ (xs.flatMap enc ++ l), false) = (xs, (l, false)) := by
  unfold rMany rMost
  rw [rNum_enc (by omega)]
  simp only [Int.toNat_natCast, Bool.false_or]
  rw [show decide (most < (xs.length : Int)) = false by simp; omega, rList_put xs l hg]

theorem readO_good {s l' : List UInt8} {o : Ob} (h : readO s = (o, (l', false))) (hk : 1 ≤ o.kind ∧ o.kind ≤ 4) : s = bodyO o ++ l' ∧ OkO o := by
  have hz : OkD (0, 0) := ⟨⟨by decide, by decide⟩, by decide, by decide⟩
  unfold readO at h
  obtain ⟨k, l1, b1, hn⟩ : ∃ k l1 b1, rNum (s, false) = (k, (l1, b1)) := ⟨_, _, _, rfl⟩
  simp only [hn] at h
  by_cases h1 : k = 1 ∨ k = 4
  · rw [if_pos h1] at h
    obtain ⟨x, l2, b2, hx⟩ : ∃ x l2 b2, rStr (l1, b1) = (x, (l2, b2)) := ⟨_, _, _, rfl⟩
    simp only [hx, Prod.mk.injEq] at h
    obtain ⟨rfl, rfl, rfl⟩ := h
    obtain ⟨rfl, rfl, _⟩ := rStr_good hx
    obtain ⟨_, rfl, _, _⟩ := rNum_good hn
    refine ⟨?_, hz, by simp [obZ], by simp [obZ]⟩
    unfold bodyO
    simp only [obZ]
    rw [if_neg (by omega), if_neg (by omega), List.append_assoc]
  · rw [if_neg h1] at h
    by_cases h2 : k = 2
    · rw [if_pos h2] at h
      subst h2
      obtain ⟨xs, l2, b2, hx⟩ : ∃ xs l2 b2, rMany rEnt 200 (l1, b1) = (xs, (l2, b2)) := ⟨_, _, _, rfl⟩
      simp only [hx, Prod.mk.injEq] at h
      obtain ⟨rfl, rfl, rfl⟩ := h
      obtain ⟨rfl, rfl, _, ho⟩ := rMany_good (ok := fun e => OkD e.d) (fun h => rEnt_good h) hx
      obtain ⟨_, rfl, _, _⟩ := rNum_good hn
      refine ⟨?_, hz, by simp [obZ], ho⟩
      unfold bodyO
      simp [List.append_assoc]
    · rw [if_neg h2] at h
      by_cases h3 : k = 3
      · rw [if_pos h3] at h
        subst h3
        unfold readC at h
        obtain ⟨t, l2, b2, h2'⟩ : ∃ t l2 b2, rDig (l1, b1) = (t, (l2, b2)) := ⟨_, _, _, rfl⟩
        obtain ⟨ps, l3, b3, h3'⟩ : ∃ t l2' b2', rMany rDig 8 (l2, b2) = (t, (l2', b2')) := ⟨_, _, _, rfl⟩
        obtain ⟨au, l4, b4, h4'⟩ : ∃ t l2' b2', rStr (l3, b3) = (t, (l2', b2')) := ⟨_, _, _, rfl⟩
        obtain ⟨ti, l5, b5, h5'⟩ : ∃ t l2' b2', rNum (l4, b4) = (t, (l2', b2')) := ⟨_, _, _, rfl⟩
        obtain ⟨ms, l6, b6, h6'⟩ : ∃ t l2' b2', rStr (l5, b5) = (t, (l2', b2')) := ⟨_, _, _, rfl⟩
        simp only [h2', h3', h4', h5', h6', Prod.mk.injEq] at h
        obtain ⟨rfl, rfl, rfl⟩ := h
        obtain ⟨rfl, rfl, _⟩ := rStr_good h6'
        obtain ⟨rfl, rfl, _, _⟩ := rNum_good h5'
        obtain ⟨rfl, rfl, _⟩ := rStr_good h4'
        obtain ⟨rfl, rfl, _, ho⟩ := rMany_good (ok := OkD) (fun h => rDig_good h) h3'
        obtain ⟨rfl, rfl, hd⟩ := rDig_good h2'
        obtain ⟨_, rfl, _, _⟩ := rNum_good hn
        refine ⟨?_, hd, ho, by simp⟩
        unfold bodyO
        simp [List.append_assoc]
      · rw [if_neg h3] at h
        simp only [Prod.mk.injEq] at h
        obtain ⟨rfl, rfl, rfl⟩ := h
        simp only at hk
        omega

theorem hasC_false {o : Ob} (h : ¬ hasC o = true) : o.tree = (0, 0) ∧ o.pars = [] ∧ o.author = [] ∧ o.time = 0 ∧ o.msg = [] := by
  simp only [hasC, Bool.or_eq_true, Bool.not_eq_true', decide_eq_false_iff_not, decide_eq_true_eq, not_or, Classical.not_not] at h
  obtain ⟨⟨⟨⟨h1, h2⟩, h3⟩, h4⟩, h5⟩ := h
  exact ⟨h1, List.eq_nil_of_length_eq_zero (by omega), List.eq_nil_of_length_eq_zero (by omega), h4, List.eq_nil_of_length_eq_zero (by omega)⟩
theorem ne_if {a b : Int} {p : Prop} [Decidable p] (h : (if p then a else b) = 0) (ha : a ≠ 0) : ¬ p ∧ b = 0 := by
  split at h
  · exact absurd h ha
  · exact ⟨‹_›, h⟩
theorem commitE_parts {o : Ob} (h : commitE o = 0) : (o.pars.length : Int) ≤ 8 ∧ nameB o.author = true ∧ 0 ≤ o.time ∧ o.time ≤ 1099511627776 ∧ o.msg.length ≤ 200 ∧ o.tree ≠ (0, 0) ∧ parGo [] o.pars = 0 := by
  unfold commitE at h
  obtain ⟨h0, h⟩ := ne_if h (by decide)
  obtain ⟨h1, h⟩ := ne_if h (by decide)
  split at h
  · rename_i hp; exact absurd h hp
  · rename_i hp
    obtain ⟨h3, h⟩ := ne_if h (by decide)
    obtain ⟨h4, h⟩ := ne_if h (by decide)
    obtain ⟨h5, h⟩ := ne_if h (by decide)
    exact ⟨by omega, by simpa using h3, by omega, by omega, by omega, h0, by simpa using hp⟩
theorem checkS_one {o : Ob} (h : checkS o = 0) (hk : o.kind = 1 ∨ o.kind = 4) : o = { obZ with kind := o.kind, data := o.data } := by
  unfold checkS at h
  rw [if_pos hk] at h
  obtain ⟨h1, _⟩ := ne_if h (by decide)
  obtain ⟨ho, hc⟩ := not_or.1 h1
  obtain ⟨a, b, c, d, e⟩ := hasC_false hc
  have f : o.ents = [] := List.eq_nil_of_length_eq_zero (by omega)
  cases o
  simp only at a b c d e f
  subst a b c d e f
  rfl
theorem checkS_two {o : Ob} (h : checkS o = 0) (hk : o.kind = 2) : o = { obZ with kind := 2, ents := o.ents } ∧ entsE o.ents = 0 := by
  unfold checkS at h
  rw [if_neg (by omega), if_pos hk] at h
  obtain ⟨h1, h2⟩ := ne_if h (by decide)
  obtain ⟨ho, hc⟩ := not_or.1 h1
  obtain ⟨a, b, c, d, e⟩ := hasC_false hc
  have f : o.data = [] := List.eq_nil_of_length_eq_zero (by omega)
  cases o
  simp only at a b c d e f hk
  subst a b c d e f hk
  exact ⟨rfl, h2⟩
theorem checkS_three {o : Ob} (h : checkS o = 0) (hk : o.kind = 3) : o = ⟨3, [], [], o.tree, o.pars, o.author, o.time, o.msg⟩ ∧ commitE o = 0 := by
  unfold checkS at h
  rw [if_neg (by omega), if_neg (by omega), if_pos hk] at h
  obtain ⟨h1, h2⟩ := ne_if h (by decide)
  obtain ⟨ho, hc⟩ := not_or.1 h1
  have f : o.data = [] := List.eq_nil_of_length_eq_zero (by omega)
  have g : o.ents = [] := List.eq_nil_of_length_eq_zero (by omega)
  cases o
  simp only at f g hk
  subst f g hk
  exact ⟨rfl, h2⟩
theorem entsE_parts {l : List Ent} (h : entsE l = 0) : l.length ≤ 200 ∧ entGo none l = 0 := by
  unfold entsE at h
  obtain ⟨h1, h2⟩ := ne_if h (by decide)
  exact ⟨by omega, h2⟩
theorem readO_put {o : Ob} (h : checkS o = 0) (ho : OkO o) (hd : o.data.length ≤ 65536) (l : List UInt8) : readO (bodyO o ++ l) = (o, (l, false)) := by
  have hk := checkS_kind h
  unfold readO bodyO
  rw [List.append_assoc, rNum_enc (by omega)]
  have e : ((o.kind.toNat : Nat) : Int) = o.kind := by omega
  simp only [e]
  by_cases h1 : o.kind = 1 ∨ o.kind = 4
  · rw [if_pos h1, if_neg (by omega), if_neg (by omega), rStr_put hd]
    simp only
    rw [← checkS_one h h1]
  · rw [if_neg h1]
    by_cases h2 : o.kind = 2
    · rw [if_pos h2, if_pos h2, List.append_assoc]
      obtain ⟨he, hE⟩ := checkS_two h h2
      obtain ⟨hl, hg⟩ := entsE_parts hE
      rw [rMany_put o.ents l (by omega) (by omega) (fun x hx l' => rEnt_put (by have := nameB_length (entGo_name hg x hx); omega) (ho.2.2 x hx) l')]
      simp only
      rw [← he]
    · rw [if_neg h2, if_neg h2]
      have h3 : o.kind = 3 := by omega
      rw [if_pos h3, if_pos h3]
      obtain ⟨he, hE⟩ := checkS_three h h3
      obtain ⟨c1, c2, c3, c4, c5, _⟩ := commitE_parts hE
      have hn := nameB_length c2
      unfold readC
      simp only [List.append_assoc]
      rw [rDig_be ho.1]
      simp only
      rw [rMany_put o.pars _ c1 (by omega) (fun x hx l' => rDig_be (ho.2.1 x hx) l')]
      simp only
      rw [rStr_put (by omega)]
      simp only
      rw [rNum_enc (by omega)]
      simp only
      rw [rStr_put (by omega)]
      simp only
      rw [show ((o.time.toNat : Nat) : Int) = o.time by omega, ← he]

theorem encodeS_parts {o : Ob} {s : List UInt8} (h : encodeS o = (s, 0)) : checkS o = 0 ∧ s = bodyO o ∧ (bodyO o).length ≤ 65536 := by
  unfold encodeS at h
  split at h
  · rename_i hc
    simp only [Prod.mk.injEq] at h
    exact absurd h.2 hc
  · rename_i hc
    split at h
    · simp at h
    · simp only [Prod.mk.injEq, and_true] at h
      exact ⟨by simpa using hc, h.symm, by omega⟩
theorem encodeS_err {o : Ob} (h : (encodeS o).2 = 0) : encodeS o = (bodyO o, 0) := by
  have : encodeS o = ((encodeS o).1, 0) := by rw [← h]
  have h2 := encodeS_parts this
  rw [← h2.2.1]; exact this
theorem decode_good {s : List UInt8} {o : Ob} (h : decodeS s = (o, 0)) : encodeS o = (s, 0) ∧ OkO o := by
  unfold decodeS at h
  split at h
  · simp at h
  · rename_i hc
    simp only [not_or, Bool.not_eq_true, Classical.not_not, Prod.mk.injEq, and_true] at h hc
    obtain ⟨h1, h2, h3⟩ := hc
    have he := encodeS_err h3
    have hp := encodeS_parts he
    have hr : readO s = (o, ([], false)) := by
      rw [← h, ← h1, ← h2]
    rw [h] at he hp
    obtain ⟨hs, hk⟩ := readO_good hr (checkS_kind hp.1)
    rw [List.append_nil] at hs
    rw [hs]
    exact ⟨he, hk⟩
theorem body_data {o : Ob} (h : checkS o = 0) : o.data.length ≤ (bodyO o).length := by
  have hk := checkS_kind h
  by_cases h1 : o.kind = 1 ∨ o.kind = 4
  · unfold bodyO
    rw [if_neg (by omega), if_neg (by omega)]
    simp [putX]
    omega
  · by_cases h2 : o.kind = 2
    · rw [(checkS_two h h2).1]; simp [obZ]
    · rw [(checkS_three h (by omega)).1]; simp
theorem decode_put {s : List UInt8} {o : Ob} (h : encodeS o = (s, 0)) (ho : OkO o) : decodeS s = (o, 0) := by
  obtain ⟨h1, rfl, h3⟩ := encodeS_parts h
  have hr := readO_put h1 ho (by have := body_data h1; omega) []
  rw [List.append_nil] at hr
  unfold decodeS
  rw [hr]
  simp only
  rw [if_neg]
  simp [h]
theorem decode_cases (s : List UInt8) : decodeS s = (obZ, 13) ∨ ∃ o, decodeS s = (o, 0) := by
  unfold decodeS
  split
  · exact .inl rfl
  · exact .inr ⟨_, rfl⟩

end Go.Proofs.Ytlfodnehgedpmaa
